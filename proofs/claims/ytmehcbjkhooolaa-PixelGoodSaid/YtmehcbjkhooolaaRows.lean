/-
  No cell of these rows narrows 'for every input' (looked for: loops, veiled, ifaces, maps, wideKeys, modest, calm, conditions, laid).
  DERIVED. THE GIVEN ROWS OF THIS SEAT. 5 by the template 'for every input the law returns true; each argument reads behind the call as it read before'; 0 by the template 'total and deterministic' (their statements: YtmehcbjkhooolaaTotals.lean).
  GIVEN WITH THE SEED: the statements are not yours to turn. If you find one false, say at which input.
  Laid BY PROGRAM, IN A SANDBOX (cutbox-rows.mjs): the forced cells as the released guide's own fill.sh prints them over the translation 31a354af5f1cb97d… (all of the seat's roots in one cut). By AI agents, Wed Nov 11 2026. No macro, syntax, notation, axiom, sorry.
-/
import Derived.Test.YtmehcbjkhooolaaChecked
import GoSem.Claim
import GoSem.ClaimJoined
import GoSem.ClaimMapViews
import Derived.JoinedTies
import Derived.KernelRfl
namespace Go.Proofs.Ytmehcbjkhooolaa
/- THE CELL 'sum', in the pinned program and in every row, IS THE sha256 OF THE DUMP (.gsa) THAT YtmehcbjkhooolaaProg.lean LOADS. Nothing in Lean hashes anything: it is a label: what it is worth is what the hold of that sum in a sandbox is worth. -/
noncomputable def Try.pinned : Pinned := { name := "ytmehcbjkhooolaa", sum := "31a354af5f1cb97d425e5e89fc752a88c22a772f0e16096088046e205d36f243", checked := Try.checked }
namespace Rows
def none {H : Type} : Left H := { results := [], args := [] }

/-- 'marquetrylaw11.PixelLaws': WHATEVER THE INPUT: true; the input reads as it did. -/
def pixelLawsSpec : ChangeSpec := { name := "pixelLaws", fn := fun _ => fun
  | [d1, d2] => { results := [.lit (.bool true)], args := [d1, d2] }
  | _ => none }
def pixelLawsRow : OpenClaim := { program := "ytmehcbjkhooolaa", sum := "31a354af5f1cb97d425e5e89fc752a88c22a772f0e16096088046e205d36f243", func := "marquetry/marquetrylaw11.PixelLaws", spec := "pixelLaws", unfollowed := true, recurses := true, apart := false }
def PixelLawsSaid : Prop := pixelLawsRow.holds Try.pinned (OpenSpec.ofChange pixelLawsSpec)

/-- ITS FALSE NEIGHBOUR: 'it returns false'. Refute it at one input. -/
def pixelLawsWrong : ChangeSpec := { name := "pixelLaws", fn := fun _ => fun
  | [d1, d2] => { results := [.lit (.bool false)], args := [d1, d2] }
  | _ => none }
def PixelLawsWrongFalsely : Prop := pixelLawsRow.holds Try.pinned (OpenSpec.ofChange pixelLawsWrong)

/-- 'marquetrylaw11.PixelGood': WHATEVER THE INPUT: true; the input reads as it did. -/
def pixelGoodSpec : ChangeSpec := { name := "pixelGood", fn := fun _ => fun
  | [d] => { results := [.lit (.bool true)], args := [d] }
  | _ => none }
def pixelGoodRow : OpenClaim := { program := "ytmehcbjkhooolaa", sum := "31a354af5f1cb97d425e5e89fc752a88c22a772f0e16096088046e205d36f243", func := "marquetry/marquetrylaw11.PixelGood", spec := "pixelGood", unfollowed := true, recurses := true, apart := false }
def PixelGoodSaid : Prop := pixelGoodRow.holds Try.pinned (OpenSpec.ofChange pixelGoodSpec)

/-- ITS FALSE NEIGHBOUR: 'it returns false'. Refute it at one input. -/
def pixelGoodWrong : ChangeSpec := { name := "pixelGood", fn := fun _ => fun
  | [d] => { results := [.lit (.bool false)], args := [d] }
  | _ => none }
def PixelGoodWrongFalsely : Prop := pixelGoodRow.holds Try.pinned (OpenSpec.ofChange pixelGoodWrong)

/-- 'marquetrylaw11.PixelEach': WHATEVER THE INPUT: true; the input reads as it did. -/
def pixelEachSpec : ChangeSpec := { name := "pixelEach", fn := fun _ => fun
  | [d1, d2, d3, d4] => { results := [.lit (.bool true)], args := [d1, d2, d3, d4] }
  | _ => none }
def pixelEachRow : OpenClaim := { program := "ytmehcbjkhooolaa", sum := "31a354af5f1cb97d425e5e89fc752a88c22a772f0e16096088046e205d36f243", func := "marquetry/marquetrylaw11.PixelEach", spec := "pixelEach", unfollowed := true, recurses := true, apart := false }
def PixelEachSaid : Prop := pixelEachRow.holds Try.pinned (OpenSpec.ofChange pixelEachSpec)

/-- ITS FALSE NEIGHBOUR: 'it returns false'. Refute it at one input. -/
def pixelEachWrong : ChangeSpec := { name := "pixelEach", fn := fun _ => fun
  | [d1, d2, d3, d4] => { results := [.lit (.bool false)], args := [d1, d2, d3, d4] }
  | _ => none }
def PixelEachWrongFalsely : Prop := pixelEachRow.holds Try.pinned (OpenSpec.ofChange pixelEachWrong)

/-- 'marquetrylaw11.PixelPairs': WHATEVER THE INPUT: true; the input reads as it did. -/
def pixelPairsSpec : ChangeSpec := { name := "pixelPairs", fn := fun _ => fun
  | [d1, d2] => { results := [.lit (.bool true)], args := [d1, d2] }
  | _ => none }
def pixelPairsRow : OpenClaim := { program := "ytmehcbjkhooolaa", sum := "31a354af5f1cb97d425e5e89fc752a88c22a772f0e16096088046e205d36f243", func := "marquetry/marquetrylaw11.PixelPairs", spec := "pixelPairs", unfollowed := true, recurses := true, apart := false }
def PixelPairsSaid : Prop := pixelPairsRow.holds Try.pinned (OpenSpec.ofChange pixelPairsSpec)

/-- ITS FALSE NEIGHBOUR: 'it returns false'. Refute it at one input. -/
def pixelPairsWrong : ChangeSpec := { name := "pixelPairs", fn := fun _ => fun
  | [d1, d2] => { results := [.lit (.bool false)], args := [d1, d2] }
  | _ => none }
def PixelPairsWrongFalsely : Prop := pixelPairsRow.holds Try.pinned (OpenSpec.ofChange pixelPairsWrong)

/-- 'marquetrylaw11.PixelThree': WHATEVER THE INPUT: true; the input reads as it did. -/
def pixelThreeSpec : ChangeSpec := { name := "pixelThree", fn := fun _ => fun
  | [d1, d2, d3] => { results := [.lit (.bool true)], args := [d1, d2, d3] }
  | _ => none }
def pixelThreeRow : OpenClaim := { program := "ytmehcbjkhooolaa", sum := "31a354af5f1cb97d425e5e89fc752a88c22a772f0e16096088046e205d36f243", func := "marquetry/marquetrylaw11.PixelThree", spec := "pixelThree", unfollowed := true, recurses := true, apart := false }
def PixelThreeSaid : Prop := pixelThreeRow.holds Try.pinned (OpenSpec.ofChange pixelThreeSpec)

/-- ITS FALSE NEIGHBOUR: 'it returns false'. Refute it at one input. -/
def pixelThreeWrong : ChangeSpec := { name := "pixelThree", fn := fun _ => fun
  | [d1, d2, d3] => { results := [.lit (.bool false)], args := [d1, d2, d3] }
  | _ => none }
def PixelThreeWrongFalsely : Prop := pixelThreeRow.holds Try.pinned (OpenSpec.ofChange pixelThreeWrong)

/- THE SECOND FORM. 'bulk': how many values and letters a reading holds, each counted each time it is reached (what is shared counts as often as it is met; a slice's spare places count too). A statement '..UptoSaid' is the law's where the arguments, and the package variables that the reading takes, are together of bulk at most 1048576: NARROWER than '..Said'. Prove '..Said' where nothing that the law and all that it calls make is longer than what came in: it says more and counts as full. Else prove '..UptoSaid'. A law counts once. -/
mutual
def uptoBulk {H : Type} : DataW H → Nat
  | .lit (.string bytes) => bytes.length + 1
  | .lit _ => 1
  | .nil => 1
  | .ptr d => uptoBulk d + 1
  | .slice elems spare => uptoBulkAll elems + uptoBulkAll spare + 1
  | .agg parts => uptoBulkAll parts + 1
  | .iface _ d => uptoBulk d + 1
  | .map entries => uptoBulkEntries entries + 1
  | .held _ => 1
def uptoBulkAll {H : Type} : List (DataW H) → Nat
  | [] => 0
  | d :: r => uptoBulk d + uptoBulkAll r
def uptoBulkEntries {H : Type} : List (Lit × DataW H) → Nat
  | [] => 0
  | x :: r => uptoBulkEntry x + uptoBulkEntries r
def uptoBulkEntry {H : Type} : Lit × DataW H → Nat
  | (.string bytes, d) => bytes.length + uptoBulk d + 1
  | (_, d) => uptoBulk d + 1
 end
def uptoSmall : (H : Type) → List (DataW H) → Bool := fun _ ds => decide (uptoBulkAll ds ≤ 1048576)
def OpenSpec.upto (s : _root_.Go.ChangeSpec) : _root_.Go.OpenSpec := { _root_.Go.OpenSpec.ofChange s with cond := some uptoSmall }

/-- 'marquetrylaw11.PixelLaws', WHERE WHAT IT READS IS OF BULK AT MOST 1048576: true; the input reads as it did. -/
def pixelLawsUptoRow : OpenClaim := { program := "ytmehcbjkhooolaa", sum := "31a354af5f1cb97d425e5e89fc752a88c22a772f0e16096088046e205d36f243", func := "marquetry/marquetrylaw11.PixelLaws", spec := "pixelLaws", unfollowed := true, recurses := true, apart := false, narrowed := true }
def PixelLawsUptoSaid : Prop := pixelLawsUptoRow.holds Try.pinned (OpenSpec.upto pixelLawsSpec)

/-- 'marquetrylaw11.PixelGood', WHERE WHAT IT READS IS OF BULK AT MOST 1048576: true; the input reads as it did. -/
def pixelGoodUptoRow : OpenClaim := { program := "ytmehcbjkhooolaa", sum := "31a354af5f1cb97d425e5e89fc752a88c22a772f0e16096088046e205d36f243", func := "marquetry/marquetrylaw11.PixelGood", spec := "pixelGood", unfollowed := true, recurses := true, apart := false, narrowed := true }
def PixelGoodUptoSaid : Prop := pixelGoodUptoRow.holds Try.pinned (OpenSpec.upto pixelGoodSpec)

/-- 'marquetrylaw11.PixelEach', WHERE WHAT IT READS IS OF BULK AT MOST 1048576: true; the input reads as it did. -/
def pixelEachUptoRow : OpenClaim := { program := "ytmehcbjkhooolaa", sum := "31a354af5f1cb97d425e5e89fc752a88c22a772f0e16096088046e205d36f243", func := "marquetry/marquetrylaw11.PixelEach", spec := "pixelEach", unfollowed := true, recurses := true, apart := false, narrowed := true }
def PixelEachUptoSaid : Prop := pixelEachUptoRow.holds Try.pinned (OpenSpec.upto pixelEachSpec)

/-- 'marquetrylaw11.PixelPairs', WHERE WHAT IT READS IS OF BULK AT MOST 1048576: true; the input reads as it did. -/
def pixelPairsUptoRow : OpenClaim := { program := "ytmehcbjkhooolaa", sum := "31a354af5f1cb97d425e5e89fc752a88c22a772f0e16096088046e205d36f243", func := "marquetry/marquetrylaw11.PixelPairs", spec := "pixelPairs", unfollowed := true, recurses := true, apart := false, narrowed := true }
def PixelPairsUptoSaid : Prop := pixelPairsUptoRow.holds Try.pinned (OpenSpec.upto pixelPairsSpec)

/-- 'marquetrylaw11.PixelThree', WHERE WHAT IT READS IS OF BULK AT MOST 1048576: true; the input reads as it did. -/
def pixelThreeUptoRow : OpenClaim := { program := "ytmehcbjkhooolaa", sum := "31a354af5f1cb97d425e5e89fc752a88c22a772f0e16096088046e205d36f243", func := "marquetry/marquetrylaw11.PixelThree", spec := "pixelThree", unfollowed := true, recurses := true, apart := false, narrowed := true }
def PixelThreeUptoSaid : Prop := pixelThreeUptoRow.holds Try.pinned (OpenSpec.upto pixelThreeSpec)

end Rows
end Go.Proofs.Ytmehcbjkhooolaa
