/-
  No cell of these rows narrows 'for every input' (looked for: loops, veiled, ifaces, maps, wideKeys, modest, calm, conditions, laid).
  DERIVED. THE GIVEN ROWS OF THIS SEAT. 7 by the template 'for every input the law returns true; each argument reads behind the call as it read before'; 0 by the template 'total and deterministic' (their statements: YtegifkffhnhccaaTotals.lean).
  GIVEN WITH THE SEED: the statements are not yours to turn. If you find one false, say at which input.
  Laid BY PROGRAM, IN A SANDBOX (cutbox-rows.mjs): the forced cells as the released guide's own fill.sh prints them over the translation ad104b8385607480… (all of the seat's roots in one cut). By AI agents, Wed Nov 11 2026. No macro, syntax, notation, axiom, sorry.
-/
import Derived.Test.YtegifkffhnhccaaChecked
import GoSem.Claim
import GoSem.ClaimJoined
import GoSem.ClaimMapViews
import Derived.JoinedTies
import Derived.KernelRfl
namespace Go.Proofs.Ytegifkffhnhccaa
/- THE CELL 'sum', in the pinned program and in every row, IS THE sha256 OF THE DUMP (.gsa) THAT YtegifkffhnhccaaProg.lean LOADS. Nothing in Lean hashes anything: it is a label: what it is worth is what the hold of that sum in a sandbox is worth. -/
noncomputable def Try.pinned : Pinned := { name := "ytegifkffhnhccaa", sum := "ad104b838560748036f5876ab382d3cfe65b939064e82ba25e69cc23c04c3ed1", checked := Try.checked }
namespace Rows
def none {H : Type} : Left H := { results := [], args := [] }

/-- 'marquetrylaw27.CanvasOver': WHATEVER THE INPUT: true; the input reads as it did. -/
def canvasOverSpec : ChangeSpec := { name := "canvasOver", fn := fun _ => fun
  | [d1, d2] => { results := [.lit (.bool true)], args := [d1, d2] }
  | _ => none }
def canvasOverRow : OpenClaim := { program := "ytegifkffhnhccaa", sum := "ad104b838560748036f5876ab382d3cfe65b939064e82ba25e69cc23c04c3ed1", func := "marquetry/marquetrylaw27.CanvasOver", spec := "canvasOver", unfollowed := true, recurses := true, apart := false }
def CanvasOverSaid : Prop := canvasOverRow.holds Try.pinned (OpenSpec.ofChange canvasOverSpec)

/-- ITS FALSE NEIGHBOUR: 'it returns false'. Refute it at one input. -/
def canvasOverWrong : ChangeSpec := { name := "canvasOver", fn := fun _ => fun
  | [d1, d2] => { results := [.lit (.bool false)], args := [d1, d2] }
  | _ => none }
def CanvasOverWrongFalsely : Prop := canvasOverRow.holds Try.pinned (OpenSpec.ofChange canvasOverWrong)

/-- 'marquetrylaw27.CanvasRenders': WHATEVER THE INPUT: true; the input reads as it did. -/
def canvasRendersSpec : ChangeSpec := { name := "canvasRenders", fn := fun _ => fun
  | [d1, d2, d3, d4] => { results := [.lit (.bool true)], args := [d1, d2, d3, d4] }
  | _ => none }
def canvasRendersRow : OpenClaim := { program := "ytegifkffhnhccaa", sum := "ad104b838560748036f5876ab382d3cfe65b939064e82ba25e69cc23c04c3ed1", func := "marquetry/marquetrylaw27.CanvasRenders", spec := "canvasRenders", unfollowed := true, recurses := true, apart := false }
def CanvasRendersSaid : Prop := canvasRendersRow.holds Try.pinned (OpenSpec.ofChange canvasRendersSpec)

/-- ITS FALSE NEIGHBOUR: 'it returns false'. Refute it at one input. -/
def canvasRendersWrong : ChangeSpec := { name := "canvasRenders", fn := fun _ => fun
  | [d1, d2, d3, d4] => { results := [.lit (.bool false)], args := [d1, d2, d3, d4] }
  | _ => none }
def CanvasRendersWrongFalsely : Prop := canvasRendersRow.holds Try.pinned (OpenSpec.ofChange canvasRendersWrong)

/-- 'marquetrylaw27.CanvasNexts': WHATEVER THE INPUT: true; the input reads as it did. -/
def canvasNextsSpec : ChangeSpec := { name := "canvasNexts", fn := fun _ => fun
  | [d1, d2, d3] => { results := [.lit (.bool true)], args := [d1, d2, d3] }
  | _ => none }
def canvasNextsRow : OpenClaim := { program := "ytegifkffhnhccaa", sum := "ad104b838560748036f5876ab382d3cfe65b939064e82ba25e69cc23c04c3ed1", func := "marquetry/marquetrylaw27.CanvasNexts", spec := "canvasNexts", unfollowed := true, recurses := true, apart := false }
def CanvasNextsSaid : Prop := canvasNextsRow.holds Try.pinned (OpenSpec.ofChange canvasNextsSpec)

/-- ITS FALSE NEIGHBOUR: 'it returns false'. Refute it at one input. -/
def canvasNextsWrong : ChangeSpec := { name := "canvasNexts", fn := fun _ => fun
  | [d1, d2, d3] => { results := [.lit (.bool false)], args := [d1, d2, d3] }
  | _ => none }
def CanvasNextsWrongFalsely : Prop := canvasNextsRow.holds Try.pinned (OpenSpec.ofChange canvasNextsWrong)

/-- 'marquetrylaw27.CanvasOutside': WHATEVER THE INPUT: true; the input reads as it did. -/
def canvasOutsideSpec : ChangeSpec := { name := "canvasOutside", fn := fun _ => fun
  | [d1, d2, d3, d4] => { results := [.lit (.bool true)], args := [d1, d2, d3, d4] }
  | _ => none }
def canvasOutsideRow : OpenClaim := { program := "ytegifkffhnhccaa", sum := "ad104b838560748036f5876ab382d3cfe65b939064e82ba25e69cc23c04c3ed1", func := "marquetry/marquetrylaw27.CanvasOutside", spec := "canvasOutside", unfollowed := true, recurses := true, apart := false }
def CanvasOutsideSaid : Prop := canvasOutsideRow.holds Try.pinned (OpenSpec.ofChange canvasOutsideSpec)

/-- ITS FALSE NEIGHBOUR: 'it returns false'. Refute it at one input. -/
def canvasOutsideWrong : ChangeSpec := { name := "canvasOutside", fn := fun _ => fun
  | [d1, d2, d3, d4] => { results := [.lit (.bool false)], args := [d1, d2, d3, d4] }
  | _ => none }
def CanvasOutsideWrongFalsely : Prop := canvasOutsideRow.holds Try.pinned (OpenSpec.ofChange canvasOutsideWrong)

/-- 'marquetrylaw27.CanvasNone': WHATEVER THE INPUT: true; the input reads as it did. -/
def canvasNoneSpec : ChangeSpec := { name := "canvasNone", fn := fun _ => fun
  | [d] => { results := [.lit (.bool true)], args := [d] }
  | _ => none }
def canvasNoneRow : OpenClaim := { program := "ytegifkffhnhccaa", sum := "ad104b838560748036f5876ab382d3cfe65b939064e82ba25e69cc23c04c3ed1", func := "marquetry/marquetrylaw27.CanvasNone", spec := "canvasNone", unfollowed := true, recurses := true, apart := false }
def CanvasNoneSaid : Prop := canvasNoneRow.holds Try.pinned (OpenSpec.ofChange canvasNoneSpec)

/-- ITS FALSE NEIGHBOUR: 'it returns false'. Refute it at one input. -/
def canvasNoneWrong : ChangeSpec := { name := "canvasNone", fn := fun _ => fun
  | [d] => { results := [.lit (.bool false)], args := [d] }
  | _ => none }
def CanvasNoneWrongFalsely : Prop := canvasNoneRow.holds Try.pinned (OpenSpec.ofChange canvasNoneWrong)

/-- 'marquetrylaw27.CanvasKeeps': WHATEVER THE INPUT: true; the input reads as it did. -/
def canvasKeepsSpec : ChangeSpec := { name := "canvasKeeps", fn := fun _ => fun
  | [d1, d2, d3, d4] => { results := [.lit (.bool true)], args := [d1, d2, d3, d4] }
  | _ => none }
def canvasKeepsRow : OpenClaim := { program := "ytegifkffhnhccaa", sum := "ad104b838560748036f5876ab382d3cfe65b939064e82ba25e69cc23c04c3ed1", func := "marquetry/marquetrylaw27.CanvasKeeps", spec := "canvasKeeps", unfollowed := true, recurses := true, apart := false }
def CanvasKeepsSaid : Prop := canvasKeepsRow.holds Try.pinned (OpenSpec.ofChange canvasKeepsSpec)

/-- ITS FALSE NEIGHBOUR: 'it returns false'. Refute it at one input. -/
def canvasKeepsWrong : ChangeSpec := { name := "canvasKeeps", fn := fun _ => fun
  | [d1, d2, d3, d4] => { results := [.lit (.bool false)], args := [d1, d2, d3, d4] }
  | _ => none }
def CanvasKeepsWrongFalsely : Prop := canvasKeepsRow.holds Try.pinned (OpenSpec.ofChange canvasKeepsWrong)

/-- 'marquetrylaw27.CanvasClears': WHATEVER THE INPUT: true; the input reads as it did. -/
def canvasClearsSpec : ChangeSpec := { name := "canvasClears", fn := fun _ => fun
  | [d1, d2, d3, d4, d5] => { results := [.lit (.bool true)], args := [d1, d2, d3, d4, d5] }
  | _ => none }
def canvasClearsRow : OpenClaim := { program := "ytegifkffhnhccaa", sum := "ad104b838560748036f5876ab382d3cfe65b939064e82ba25e69cc23c04c3ed1", func := "marquetry/marquetrylaw27.CanvasClears", spec := "canvasClears", unfollowed := true, recurses := true, apart := false }
def CanvasClearsSaid : Prop := canvasClearsRow.holds Try.pinned (OpenSpec.ofChange canvasClearsSpec)

/-- ITS FALSE NEIGHBOUR: 'it returns false'. Refute it at one input. -/
def canvasClearsWrong : ChangeSpec := { name := "canvasClears", fn := fun _ => fun
  | [d1, d2, d3, d4, d5] => { results := [.lit (.bool false)], args := [d1, d2, d3, d4, d5] }
  | _ => none }
def CanvasClearsWrongFalsely : Prop := canvasClearsRow.holds Try.pinned (OpenSpec.ofChange canvasClearsWrong)

/- THE SECOND FORM. 'bulk': how many values and letters a reading holds, each counted each time it is reached (what is shared counts as often as it is met; a slice's spare places count too). A statement '..UptoSaid' is the law's where the arguments, and the package variables that the reading takes, are together of bulk at most 1048576: NARROWER than '..Said'. Prove '..Said' where nothing that the law and all that it calls make is longer than what came in: it says more and counts as full. Else prove '..UptoSaid'. A law counts once. -/
mutual
def uptoBulk {H : Type} : DataW H → Nat
  | .lit (.string bytes) => bytes.length + 1
  | .lit _ => 1
  | .nil => 1
  | .ptr d => uptoBulk d + 1
  | .slice elems spare => uptoBulkAll elems + uptoBulkAll spare + 1
  | .agg parts => uptoBulkAll parts + 1
  | .iface _ d => uptoBulk d + 1
  | .map entries => uptoBulkEntries entries + 1
  | .held _ => 1
def uptoBulkAll {H : Type} : List (DataW H) → Nat
  | [] => 0
  | d :: r => uptoBulk d + uptoBulkAll r
def uptoBulkEntries {H : Type} : List (Lit × DataW H) → Nat
  | [] => 0
  | x :: r => uptoBulkEntry x + uptoBulkEntries r
def uptoBulkEntry {H : Type} : Lit × DataW H → Nat
  | (.string bytes, d) => bytes.length + uptoBulk d + 1
  | (_, d) => uptoBulk d + 1
 end
def uptoSmall : (H : Type) → List (DataW H) → Bool := fun _ ds => decide (uptoBulkAll ds ≤ 1048576)
def OpenSpec.upto (s : _root_.Go.ChangeSpec) : _root_.Go.OpenSpec := { _root_.Go.OpenSpec.ofChange s with cond := some uptoSmall }

/-- 'marquetrylaw27.CanvasOver', WHERE WHAT IT READS IS OF BULK AT MOST 1048576: true; the input reads as it did. -/
def canvasOverUptoRow : OpenClaim := { program := "ytegifkffhnhccaa", sum := "ad104b838560748036f5876ab382d3cfe65b939064e82ba25e69cc23c04c3ed1", func := "marquetry/marquetrylaw27.CanvasOver", spec := "canvasOver", unfollowed := true, recurses := true, apart := false, narrowed := true }
def CanvasOverUptoSaid : Prop := canvasOverUptoRow.holds Try.pinned (OpenSpec.upto canvasOverSpec)

/-- 'marquetrylaw27.CanvasRenders', WHERE WHAT IT READS IS OF BULK AT MOST 1048576: true; the input reads as it did. -/
def canvasRendersUptoRow : OpenClaim := { program := "ytegifkffhnhccaa", sum := "ad104b838560748036f5876ab382d3cfe65b939064e82ba25e69cc23c04c3ed1", func := "marquetry/marquetrylaw27.CanvasRenders", spec := "canvasRenders", unfollowed := true, recurses := true, apart := false, narrowed := true }
def CanvasRendersUptoSaid : Prop := canvasRendersUptoRow.holds Try.pinned (OpenSpec.upto canvasRendersSpec)

/-- 'marquetrylaw27.CanvasNexts', WHERE WHAT IT READS IS OF BULK AT MOST 1048576: true; the input reads as it did. -/
def canvasNextsUptoRow : OpenClaim := { program := "ytegifkffhnhccaa", sum := "ad104b838560748036f5876ab382d3cfe65b939064e82ba25e69cc23c04c3ed1", func := "marquetry/marquetrylaw27.CanvasNexts", spec := "canvasNexts", unfollowed := true, recurses := true, apart := false, narrowed := true }
def CanvasNextsUptoSaid : Prop := canvasNextsUptoRow.holds Try.pinned (OpenSpec.upto canvasNextsSpec)

/-- 'marquetrylaw27.CanvasOutside', WHERE WHAT IT READS IS OF BULK AT MOST 1048576: true; the input reads as it did. -/
def canvasOutsideUptoRow : OpenClaim := { program := "ytegifkffhnhccaa", sum := "ad104b838560748036f5876ab382d3cfe65b939064e82ba25e69cc23c04c3ed1", func := "marquetry/marquetrylaw27.CanvasOutside", spec := "canvasOutside", unfollowed := true, recurses := true, apart := false, narrowed := true }
def CanvasOutsideUptoSaid : Prop := canvasOutsideUptoRow.holds Try.pinned (OpenSpec.upto canvasOutsideSpec)

/-- 'marquetrylaw27.CanvasNone', WHERE WHAT IT READS IS OF BULK AT MOST 1048576: true; the input reads as it did. -/
def canvasNoneUptoRow : OpenClaim := { program := "ytegifkffhnhccaa", sum := "ad104b838560748036f5876ab382d3cfe65b939064e82ba25e69cc23c04c3ed1", func := "marquetry/marquetrylaw27.CanvasNone", spec := "canvasNone", unfollowed := true, recurses := true, apart := false, narrowed := true }
def CanvasNoneUptoSaid : Prop := canvasNoneUptoRow.holds Try.pinned (OpenSpec.upto canvasNoneSpec)

/-- 'marquetrylaw27.CanvasKeeps', WHERE WHAT IT READS IS OF BULK AT MOST 1048576: true; the input reads as it did. -/
def canvasKeepsUptoRow : OpenClaim := { program := "ytegifkffhnhccaa", sum := "ad104b838560748036f5876ab382d3cfe65b939064e82ba25e69cc23c04c3ed1", func := "marquetry/marquetrylaw27.CanvasKeeps", spec := "canvasKeeps", unfollowed := true, recurses := true, apart := false, narrowed := true }
def CanvasKeepsUptoSaid : Prop := canvasKeepsUptoRow.holds Try.pinned (OpenSpec.upto canvasKeepsSpec)

/-- 'marquetrylaw27.CanvasClears', WHERE WHAT IT READS IS OF BULK AT MOST 1048576: true; the input reads as it did. -/
def canvasClearsUptoRow : OpenClaim := { program := "ytegifkffhnhccaa", sum := "ad104b838560748036f5876ab382d3cfe65b939064e82ba25e69cc23c04c3ed1", func := "marquetry/marquetrylaw27.CanvasClears", spec := "canvasClears", unfollowed := true, recurses := true, apart := false, narrowed := true }
def CanvasClearsUptoSaid : Prop := canvasClearsUptoRow.holds Try.pinned (OpenSpec.upto canvasClearsSpec)

end Rows
end Go.Proofs.Ytegifkffhnhccaa
