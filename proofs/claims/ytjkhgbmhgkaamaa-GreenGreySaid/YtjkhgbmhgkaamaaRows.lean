/-
  No cell of these rows narrows 'for every input' (looked for: loops, veiled, ifaces, maps, wideKeys, modest, calm, conditions, laid).
  DERIVED. THE GIVEN ROWS OF THIS SEAT. 3 by the template 'for every input the law returns true; each argument reads behind the call as it read before'; 0 by the template 'total and deterministic' (their statements: YtjkhgbmhgkaamaaTotals.lean).
  GIVEN WITH THE SEED: the statements are not yours to turn. If you find one false, say at which input.
  Laid BY PROGRAM, IN A SANDBOX (cutbox-rows.mjs): the forced cells as the released guide's own fill.sh prints them over the translation e05de293ec18ce07… (all of the seat's roots in one cut). By AI agents, Wed Nov 11 2026. No macro, syntax, notation, axiom, sorry.
-/
import Derived.Test.YtjkhgbmhgkaamaaChecked
import GoSem.Claim
import GoSem.ClaimJoined
import GoSem.ClaimMapViews
import Derived.JoinedTies
import Derived.KernelRfl
namespace Go.Proofs.Ytjkhgbmhgkaamaa
/- THE CELL 'sum', in the pinned program and in every row, IS THE sha256 OF THE DUMP (.gsa) THAT YtjkhgbmhgkaamaaProg.lean LOADS. Nothing in Lean hashes anything: it is a label: what it is worth is what the hold of that sum in a sandbox is worth. -/
noncomputable def Try.pinned : Pinned := { name := "ytjkhgbmhgkaamaa", sum := "e05de293ec18ce071bff8c4a6b6d5186abf2baf955fc8c003c67dd2f4bfeff7f", checked := Try.checked }
namespace Rows
def none {H : Type} : Left H := { results := [], args := [] }

/-- 'marquetrylaw15.GreenGrey': WHATEVER THE INPUT: true; the input reads as it did. -/
def greenGreySpec : ChangeSpec := { name := "greenGrey", fn := fun _ => fun
  | [d1, d2] => { results := [.lit (.bool true)], args := [d1, d2] }
  | _ => none }
def greenGreyRow : OpenClaim := { program := "ytjkhgbmhgkaamaa", sum := "e05de293ec18ce071bff8c4a6b6d5186abf2baf955fc8c003c67dd2f4bfeff7f", func := "marquetry/marquetrylaw15.GreenGrey", spec := "greenGrey", unfollowed := true, recurses := true, apart := false }
def GreenGreySaid : Prop := greenGreyRow.holds Try.pinned (OpenSpec.ofChange greenGreySpec)

/-- ITS FALSE NEIGHBOUR: 'it returns false'. Refute it at one input. -/
def greenGreyWrong : ChangeSpec := { name := "greenGrey", fn := fun _ => fun
  | [d1, d2] => { results := [.lit (.bool false)], args := [d1, d2] }
  | _ => none }
def GreenGreyWrongFalsely : Prop := greenGreyRow.holds Try.pinned (OpenSpec.ofChange greenGreyWrong)

/-- 'marquetrylaw15.GreenTurns': WHATEVER THE INPUT: true; the input reads as it did. -/
def greenTurnsSpec : ChangeSpec := { name := "greenTurns", fn := fun _ => fun
  | [d] => { results := [.lit (.bool true)], args := [d] }
  | _ => none }
def greenTurnsRow : OpenClaim := { program := "ytjkhgbmhgkaamaa", sum := "e05de293ec18ce071bff8c4a6b6d5186abf2baf955fc8c003c67dd2f4bfeff7f", func := "marquetry/marquetrylaw15.GreenTurns", spec := "greenTurns", unfollowed := true, recurses := true, apart := false }
def GreenTurnsSaid : Prop := greenTurnsRow.holds Try.pinned (OpenSpec.ofChange greenTurnsSpec)

/-- ITS FALSE NEIGHBOUR: 'it returns false'. Refute it at one input. -/
def greenTurnsWrong : ChangeSpec := { name := "greenTurns", fn := fun _ => fun
  | [d] => { results := [.lit (.bool false)], args := [d] }
  | _ => none }
def GreenTurnsWrongFalsely : Prop := greenTurnsRow.holds Try.pinned (OpenSpec.ofChange greenTurnsWrong)

/-- 'marquetrylaw15.GreenStays': WHATEVER THE INPUT: true; the input reads as it did. -/
def greenStaysSpec : ChangeSpec := { name := "greenStays", fn := fun _ => fun
  | [d] => { results := [.lit (.bool true)], args := [d] }
  | _ => none }
def greenStaysRow : OpenClaim := { program := "ytjkhgbmhgkaamaa", sum := "e05de293ec18ce071bff8c4a6b6d5186abf2baf955fc8c003c67dd2f4bfeff7f", func := "marquetry/marquetrylaw15.GreenStays", spec := "greenStays", unfollowed := true, recurses := true, apart := false }
def GreenStaysSaid : Prop := greenStaysRow.holds Try.pinned (OpenSpec.ofChange greenStaysSpec)

/-- ITS FALSE NEIGHBOUR: 'it returns false'. Refute it at one input. -/
def greenStaysWrong : ChangeSpec := { name := "greenStays", fn := fun _ => fun
  | [d] => { results := [.lit (.bool false)], args := [d] }
  | _ => none }
def GreenStaysWrongFalsely : Prop := greenStaysRow.holds Try.pinned (OpenSpec.ofChange greenStaysWrong)

/- THE SECOND FORM. 'bulk': how many values and letters a reading holds, each counted each time it is reached (what is shared counts as often as it is met; a slice's spare places count too). A statement '..UptoSaid' is the law's where the arguments, and the package variables that the reading takes, are together of bulk at most 1048576: NARROWER than '..Said'. Prove '..Said' where nothing that the law and all that it calls make is longer than what came in: it says more and counts as full. Else prove '..UptoSaid'. A law counts once. -/
mutual
def uptoBulk {H : Type} : DataW H → Nat
  | .lit (.string bytes) => bytes.length + 1
  | .lit _ => 1
  | .nil => 1
  | .ptr d => uptoBulk d + 1
  | .slice elems spare => uptoBulkAll elems + uptoBulkAll spare + 1
  | .agg parts => uptoBulkAll parts + 1
  | .iface _ d => uptoBulk d + 1
  | .map entries => uptoBulkEntries entries + 1
  | .held _ => 1
def uptoBulkAll {H : Type} : List (DataW H) → Nat
  | [] => 0
  | d :: r => uptoBulk d + uptoBulkAll r
def uptoBulkEntries {H : Type} : List (Lit × DataW H) → Nat
  | [] => 0
  | x :: r => uptoBulkEntry x + uptoBulkEntries r
def uptoBulkEntry {H : Type} : Lit × DataW H → Nat
  | (.string bytes, d) => bytes.length + uptoBulk d + 1
  | (_, d) => uptoBulk d + 1
 end
def uptoSmall : (H : Type) → List (DataW H) → Bool := fun _ ds => decide (uptoBulkAll ds ≤ 1048576)
def OpenSpec.upto (s : _root_.Go.ChangeSpec) : _root_.Go.OpenSpec := { _root_.Go.OpenSpec.ofChange s with cond := some uptoSmall }

/-- 'marquetrylaw15.GreenGrey', WHERE WHAT IT READS IS OF BULK AT MOST 1048576: true; the input reads as it did. -/
def greenGreyUptoRow : OpenClaim := { program := "ytjkhgbmhgkaamaa", sum := "e05de293ec18ce071bff8c4a6b6d5186abf2baf955fc8c003c67dd2f4bfeff7f", func := "marquetry/marquetrylaw15.GreenGrey", spec := "greenGrey", unfollowed := true, recurses := true, apart := false, narrowed := true }
def GreenGreyUptoSaid : Prop := greenGreyUptoRow.holds Try.pinned (OpenSpec.upto greenGreySpec)

/-- 'marquetrylaw15.GreenTurns', WHERE WHAT IT READS IS OF BULK AT MOST 1048576: true; the input reads as it did. -/
def greenTurnsUptoRow : OpenClaim := { program := "ytjkhgbmhgkaamaa", sum := "e05de293ec18ce071bff8c4a6b6d5186abf2baf955fc8c003c67dd2f4bfeff7f", func := "marquetry/marquetrylaw15.GreenTurns", spec := "greenTurns", unfollowed := true, recurses := true, apart := false, narrowed := true }
def GreenTurnsUptoSaid : Prop := greenTurnsUptoRow.holds Try.pinned (OpenSpec.upto greenTurnsSpec)

/-- 'marquetrylaw15.GreenStays', WHERE WHAT IT READS IS OF BULK AT MOST 1048576: true; the input reads as it did. -/
def greenStaysUptoRow : OpenClaim := { program := "ytjkhgbmhgkaamaa", sum := "e05de293ec18ce071bff8c4a6b6d5186abf2baf955fc8c003c67dd2f4bfeff7f", func := "marquetry/marquetrylaw15.GreenStays", spec := "greenStays", unfollowed := true, recurses := true, apart := false, narrowed := true }
def GreenStaysUptoSaid : Prop := greenStaysUptoRow.holds Try.pinned (OpenSpec.upto greenStaysSpec)

end Rows
end Go.Proofs.Ytjkhgbmhgkaamaa
