/-
  No cell of these rows narrows 'for every input' (looked for: loops, veiled, ifaces, maps, wideKeys, modest, calm, conditions, laid).
  DERIVED. THE GIVEN ROWS OF THIS SEAT. 3 by the template 'for every input the law returns true; each argument reads behind the call as it read before'; 0 by the template 'total and deterministic' (their statements: YtbbbngjjefnmhaaTotals.lean).
  GIVEN WITH THE SEED: the statements are not yours to turn. If you find one false, say at which input.
  Laid BY PROGRAM, IN A SANDBOX (cutbox-rows.mjs): the forced cells as the released guide's own fill.sh prints them over the translation 2ce819c57de98788… (all of the seat's roots in one cut). By AI agents, Wed Nov 11 2026. No macro, syntax, notation, axiom, sorry.
-/
import Derived.Test.YtbbbngjjefnmhaaChecked
import GoSem.Claim
import GoSem.ClaimJoined
import GoSem.ClaimMapViews
import Derived.JoinedTies
import Derived.KernelRfl
namespace Go.Proofs.Ytbbbngjjefnmhaa
/- THE CELL 'sum', in the pinned program and in every row, IS THE sha256 OF THE DUMP (.gsa) THAT YtbbbngjjefnmhaaProg.lean LOADS. Nothing in Lean hashes anything: it is a label: what it is worth is what the hold of that sum in a sandbox is worth. -/
noncomputable def Try.pinned : Pinned := { name := "ytbbbngjjefnmhaa", sum := "2ce819c57de987882e629e5f26a2b2c230d371f34c3614876824f5c842756713", checked := Try.checked }
namespace Rows
def none {H : Type} : Left H := { results := [], args := [] }

/-- 'marquetrylaw14.CrossElements': WHATEVER THE INPUT: true; the input reads as it did. -/
def crossElementsSpec : ChangeSpec := { name := "crossElements", fn := fun _ => fun
  | [d1, d2, d3, d4] => { results := [.lit (.bool true)], args := [d1, d2, d3, d4] }
  | _ => none }
def crossElementsRow : OpenClaim := { program := "ytbbbngjjefnmhaa", sum := "2ce819c57de987882e629e5f26a2b2c230d371f34c3614876824f5c842756713", func := "marquetry/marquetrylaw14.CrossElements", spec := "crossElements", apart := false }
def CrossElementsSaid : Prop := crossElementsRow.holds Try.pinned (OpenSpec.ofChange crossElementsSpec)

/-- ITS FALSE NEIGHBOUR: 'it returns false'. Refute it at one input. -/
def crossElementsWrong : ChangeSpec := { name := "crossElements", fn := fun _ => fun
  | [d1, d2, d3, d4] => { results := [.lit (.bool false)], args := [d1, d2, d3, d4] }
  | _ => none }
def CrossElementsWrongFalsely : Prop := crossElementsRow.holds Try.pinned (OpenSpec.ofChange crossElementsWrong)

/-- 'marquetrylaw14.CrossNothing': WHATEVER THE INPUT: true; the input reads as it did. -/
def crossNothingSpec : ChangeSpec := { name := "crossNothing", fn := fun _ => fun
  | [d1, d2] => { results := [.lit (.bool true)], args := [d1, d2] }
  | _ => none }
def crossNothingRow : OpenClaim := { program := "ytbbbngjjefnmhaa", sum := "2ce819c57de987882e629e5f26a2b2c230d371f34c3614876824f5c842756713", func := "marquetry/marquetrylaw14.CrossNothing", spec := "crossNothing", unfollowed := true, recurses := true, apart := false }
def CrossNothingSaid : Prop := crossNothingRow.holds Try.pinned (OpenSpec.ofChange crossNothingSpec)

/-- ITS FALSE NEIGHBOUR: 'it returns false'. Refute it at one input. -/
def crossNothingWrong : ChangeSpec := { name := "crossNothing", fn := fun _ => fun
  | [d1, d2] => { results := [.lit (.bool false)], args := [d1, d2] }
  | _ => none }
def CrossNothingWrongFalsely : Prop := crossNothingRow.holds Try.pinned (OpenSpec.ofChange crossNothingWrong)

/-- 'marquetrylaw14.CrossBack': WHATEVER THE INPUT: true; the input reads as it did. -/
def crossBackSpec : ChangeSpec := { name := "crossBack", fn := fun _ => fun
  | [d1, d2, d3] => { results := [.lit (.bool true)], args := [d1, d2, d3] }
  | _ => none }
def crossBackRow : OpenClaim := { program := "ytbbbngjjefnmhaa", sum := "2ce819c57de987882e629e5f26a2b2c230d371f34c3614876824f5c842756713", func := "marquetry/marquetrylaw14.CrossBack", spec := "crossBack", unfollowed := true, recurses := true, apart := false }
def CrossBackSaid : Prop := crossBackRow.holds Try.pinned (OpenSpec.ofChange crossBackSpec)

/-- ITS FALSE NEIGHBOUR: 'it returns false'. Refute it at one input. -/
def crossBackWrong : ChangeSpec := { name := "crossBack", fn := fun _ => fun
  | [d1, d2, d3] => { results := [.lit (.bool false)], args := [d1, d2, d3] }
  | _ => none }
def CrossBackWrongFalsely : Prop := crossBackRow.holds Try.pinned (OpenSpec.ofChange crossBackWrong)

/- THE SECOND FORM. 'bulk': how many values and letters a reading holds, each counted each time it is reached (what is shared counts as often as it is met; a slice's spare places count too). A statement '..UptoSaid' is the law's where the arguments, and the package variables that the reading takes, are together of bulk at most 1048576: NARROWER than '..Said'. Prove '..Said' where nothing that the law and all that it calls make is longer than what came in: it says more and counts as full. Else prove '..UptoSaid'. A law counts once. -/
mutual
def uptoBulk {H : Type} : DataW H → Nat
  | .lit (.string bytes) => bytes.length + 1
  | .lit _ => 1
  | .nil => 1
  | .ptr d => uptoBulk d + 1
  | .slice elems spare => uptoBulkAll elems + uptoBulkAll spare + 1
  | .agg parts => uptoBulkAll parts + 1
  | .iface _ d => uptoBulk d + 1
  | .map entries => uptoBulkEntries entries + 1
  | .held _ => 1
def uptoBulkAll {H : Type} : List (DataW H) → Nat
  | [] => 0
  | d :: r => uptoBulk d + uptoBulkAll r
def uptoBulkEntries {H : Type} : List (Lit × DataW H) → Nat
  | [] => 0
  | x :: r => uptoBulkEntry x + uptoBulkEntries r
def uptoBulkEntry {H : Type} : Lit × DataW H → Nat
  | (.string bytes, d) => bytes.length + uptoBulk d + 1
  | (_, d) => uptoBulk d + 1
 end
def uptoSmall : (H : Type) → List (DataW H) → Bool := fun _ ds => decide (uptoBulkAll ds ≤ 1048576)
def OpenSpec.upto (s : _root_.Go.ChangeSpec) : _root_.Go.OpenSpec := { _root_.Go.OpenSpec.ofChange s with cond := some uptoSmall }

/-- 'marquetrylaw14.CrossElements', WHERE WHAT IT READS IS OF BULK AT MOST 1048576: true; the input reads as it did. -/
def crossElementsUptoRow : OpenClaim := { program := "ytbbbngjjefnmhaa", sum := "2ce819c57de987882e629e5f26a2b2c230d371f34c3614876824f5c842756713", func := "marquetry/marquetrylaw14.CrossElements", spec := "crossElements", apart := false, narrowed := true }
def CrossElementsUptoSaid : Prop := crossElementsUptoRow.holds Try.pinned (OpenSpec.upto crossElementsSpec)

/-- 'marquetrylaw14.CrossNothing', WHERE WHAT IT READS IS OF BULK AT MOST 1048576: true; the input reads as it did. -/
def crossNothingUptoRow : OpenClaim := { program := "ytbbbngjjefnmhaa", sum := "2ce819c57de987882e629e5f26a2b2c230d371f34c3614876824f5c842756713", func := "marquetry/marquetrylaw14.CrossNothing", spec := "crossNothing", unfollowed := true, recurses := true, apart := false, narrowed := true }
def CrossNothingUptoSaid : Prop := crossNothingUptoRow.holds Try.pinned (OpenSpec.upto crossNothingSpec)

/-- 'marquetrylaw14.CrossBack', WHERE WHAT IT READS IS OF BULK AT MOST 1048576: true; the input reads as it did. -/
def crossBackUptoRow : OpenClaim := { program := "ytbbbngjjefnmhaa", sum := "2ce819c57de987882e629e5f26a2b2c230d371f34c3614876824f5c842756713", func := "marquetry/marquetrylaw14.CrossBack", spec := "crossBack", unfollowed := true, recurses := true, apart := false, narrowed := true }
def CrossBackUptoSaid : Prop := crossBackUptoRow.holds Try.pinned (OpenSpec.upto crossBackSpec)

end Rows
end Go.Proofs.Ytbbbngjjefnmhaa
