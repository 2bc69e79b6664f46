/-
  No cell of these rows narrows 'for every input' (looked for: loops, veiled, ifaces, maps, wideKeys, modest, calm, conditions, laid).
  DERIVED. THE GIVEN ROWS OF THIS SEAT. 4 by the template 'for every input the law returns true; each argument reads behind the call as it read before'; 0 by the template 'total and deterministic' (their statements: YtnbocgmlcdcahaaTotals.lean).
  GIVEN WITH THE SEED: the statements are not yours to turn. If you find one false, say at which input.
  Laid BY PROGRAM, IN A SANDBOX (cutbox-rows.mjs): the forced cells as the released guide's own fill.sh prints them over the translation 80313e6408901aae… (all of the seat's roots in one cut). By AI agents, Wed Nov 11 2026. No macro, syntax, notation, axiom, sorry.
-/
import Derived.Test.YtnbocgmlcdcahaaChecked
import GoSem.Claim
import GoSem.ClaimJoined
import GoSem.ClaimMapViews
import Derived.JoinedTies
import Derived.KernelRfl
namespace Go.Proofs.Ytnbocgmlcdcahaa
/- THE CELL 'sum', in the pinned program and in every row, IS THE sha256 OF THE DUMP (.gsa) THAT YtnbocgmlcdcahaaProg.lean LOADS. Nothing in Lean hashes anything: it is a label: what it is worth is what the hold of that sum in a sandbox is worth. -/
noncomputable def Try.pinned : Pinned := { name := "ytnbocgmlcdcahaa", sum := "80313e6408901aaea9c281f909db8fe907be6034be46c32e4ff98cce63dc16fe", checked := Try.checked }
namespace Rows
def none {H : Type} : Left H := { results := [], args := [] }

/-- 'marquetrylaw13.LeanOne': WHATEVER THE INPUT: true; the input reads as it did. -/
def leanOneSpec : ChangeSpec := { name := "leanOne", fn := fun _ => fun
  | [d1, d2, d3, d4] => { results := [.lit (.bool true)], args := [d1, d2, d3, d4] }
  | _ => none }
def leanOneRow : OpenClaim := { program := "ytnbocgmlcdcahaa", sum := "80313e6408901aaea9c281f909db8fe907be6034be46c32e4ff98cce63dc16fe", func := "marquetry/marquetrylaw13.LeanOne", spec := "leanOne", unfollowed := true, recurses := true, apart := false }
def LeanOneSaid : Prop := leanOneRow.holds Try.pinned (OpenSpec.ofChange leanOneSpec)

/-- ITS FALSE NEIGHBOUR: 'it returns false'. Refute it at one input. -/
def leanOneWrong : ChangeSpec := { name := "leanOne", fn := fun _ => fun
  | [d1, d2, d3, d4] => { results := [.lit (.bool false)], args := [d1, d2, d3, d4] }
  | _ => none }
def LeanOneWrongFalsely : Prop := leanOneRow.holds Try.pinned (OpenSpec.ofChange leanOneWrong)

/-- 'marquetrylaw13.LeanFlat': WHATEVER THE INPUT: true; the input reads as it did. -/
def leanFlatSpec : ChangeSpec := { name := "leanFlat", fn := fun _ => fun
  | [d1, d2, d3, d4] => { results := [.lit (.bool true)], args := [d1, d2, d3, d4] }
  | _ => none }
def leanFlatRow : OpenClaim := { program := "ytnbocgmlcdcahaa", sum := "80313e6408901aaea9c281f909db8fe907be6034be46c32e4ff98cce63dc16fe", func := "marquetry/marquetrylaw13.LeanFlat", spec := "leanFlat", unfollowed := true, recurses := true, apart := false }
def LeanFlatSaid : Prop := leanFlatRow.holds Try.pinned (OpenSpec.ofChange leanFlatSpec)

/-- ITS FALSE NEIGHBOUR: 'it returns false'. Refute it at one input. -/
def leanFlatWrong : ChangeSpec := { name := "leanFlat", fn := fun _ => fun
  | [d1, d2, d3, d4] => { results := [.lit (.bool false)], args := [d1, d2, d3, d4] }
  | _ => none }
def LeanFlatWrongFalsely : Prop := leanFlatRow.holds Try.pinned (OpenSpec.ofChange leanFlatWrong)

/-- 'marquetrylaw13.LeanTurns': WHATEVER THE INPUT: true; the input reads as it did. -/
def leanTurnsSpec : ChangeSpec := { name := "leanTurns", fn := fun _ => fun
  | [d1, d2, d3] => { results := [.lit (.bool true)], args := [d1, d2, d3] }
  | _ => none }
def leanTurnsRow : OpenClaim := { program := "ytnbocgmlcdcahaa", sum := "80313e6408901aaea9c281f909db8fe907be6034be46c32e4ff98cce63dc16fe", func := "marquetry/marquetrylaw13.LeanTurns", spec := "leanTurns", unfollowed := true, recurses := true, apart := false }
def LeanTurnsSaid : Prop := leanTurnsRow.holds Try.pinned (OpenSpec.ofChange leanTurnsSpec)

/-- ITS FALSE NEIGHBOUR: 'it returns false'. Refute it at one input. -/
def leanTurnsWrong : ChangeSpec := { name := "leanTurns", fn := fun _ => fun
  | [d1, d2, d3] => { results := [.lit (.bool false)], args := [d1, d2, d3] }
  | _ => none }
def LeanTurnsWrongFalsely : Prop := leanTurnsRow.holds Try.pinned (OpenSpec.ofChange leanTurnsWrong)

/-- 'marquetrylaw13.LeanBack': WHATEVER THE INPUT: true; the input reads as it did. -/
def leanBackSpec : ChangeSpec := { name := "leanBack", fn := fun _ => fun
  | [d1, d2, d3] => { results := [.lit (.bool true)], args := [d1, d2, d3] }
  | _ => none }
def leanBackRow : OpenClaim := { program := "ytnbocgmlcdcahaa", sum := "80313e6408901aaea9c281f909db8fe907be6034be46c32e4ff98cce63dc16fe", func := "marquetry/marquetrylaw13.LeanBack", spec := "leanBack", unfollowed := true, recurses := true, apart := false }
def LeanBackSaid : Prop := leanBackRow.holds Try.pinned (OpenSpec.ofChange leanBackSpec)

/-- ITS FALSE NEIGHBOUR: 'it returns false'. Refute it at one input. -/
def leanBackWrong : ChangeSpec := { name := "leanBack", fn := fun _ => fun
  | [d1, d2, d3] => { results := [.lit (.bool false)], args := [d1, d2, d3] }
  | _ => none }
def LeanBackWrongFalsely : Prop := leanBackRow.holds Try.pinned (OpenSpec.ofChange leanBackWrong)

/- THE SECOND FORM. 'bulk': how many values and letters a reading holds, each counted each time it is reached (what is shared counts as often as it is met; a slice's spare places count too). A statement '..UptoSaid' is the law's where the arguments, and the package variables that the reading takes, are together of bulk at most 1048576: NARROWER than '..Said'. Prove '..Said' where nothing that the law and all that it calls make is longer than what came in: it says more and counts as full. Else prove '..UptoSaid'. A law counts once. -/
mutual
def uptoBulk {H : Type} : DataW H → Nat
  | .lit (.string bytes) => bytes.length + 1
  | .lit _ => 1
  | .nil => 1
  | .ptr d => uptoBulk d + 1
  | .slice elems spare => uptoBulkAll elems + uptoBulkAll spare + 1
  | .agg parts => uptoBulkAll parts + 1
  | .iface _ d => uptoBulk d + 1
  | .map entries => uptoBulkEntries entries + 1
  | .held _ => 1
def uptoBulkAll {H : Type} : List (DataW H) → Nat
  | [] => 0
  | d :: r => uptoBulk d + uptoBulkAll r
def uptoBulkEntries {H : Type} : List (Lit × DataW H) → Nat
  | [] => 0
  | x :: r => uptoBulkEntry x + uptoBulkEntries r
def uptoBulkEntry {H : Type} : Lit × DataW H → Nat
  | (.string bytes, d) => bytes.length + uptoBulk d + 1
  | (_, d) => uptoBulk d + 1
 end
def uptoSmall : (H : Type) → List (DataW H) → Bool := fun _ ds => decide (uptoBulkAll ds ≤ 1048576)
def OpenSpec.upto (s : _root_.Go.ChangeSpec) : _root_.Go.OpenSpec := { _root_.Go.OpenSpec.ofChange s with cond := some uptoSmall }

/-- 'marquetrylaw13.LeanOne', WHERE WHAT IT READS IS OF BULK AT MOST 1048576: true; the input reads as it did. -/
def leanOneUptoRow : OpenClaim := { program := "ytnbocgmlcdcahaa", sum := "80313e6408901aaea9c281f909db8fe907be6034be46c32e4ff98cce63dc16fe", func := "marquetry/marquetrylaw13.LeanOne", spec := "leanOne", unfollowed := true, recurses := true, apart := false, narrowed := true }
def LeanOneUptoSaid : Prop := leanOneUptoRow.holds Try.pinned (OpenSpec.upto leanOneSpec)

/-- 'marquetrylaw13.LeanFlat', WHERE WHAT IT READS IS OF BULK AT MOST 1048576: true; the input reads as it did. -/
def leanFlatUptoRow : OpenClaim := { program := "ytnbocgmlcdcahaa", sum := "80313e6408901aaea9c281f909db8fe907be6034be46c32e4ff98cce63dc16fe", func := "marquetry/marquetrylaw13.LeanFlat", spec := "leanFlat", unfollowed := true, recurses := true, apart := false, narrowed := true }
def LeanFlatUptoSaid : Prop := leanFlatUptoRow.holds Try.pinned (OpenSpec.upto leanFlatSpec)

/-- 'marquetrylaw13.LeanTurns', WHERE WHAT IT READS IS OF BULK AT MOST 1048576: true; the input reads as it did. -/
def leanTurnsUptoRow : OpenClaim := { program := "ytnbocgmlcdcahaa", sum := "80313e6408901aaea9c281f909db8fe907be6034be46c32e4ff98cce63dc16fe", func := "marquetry/marquetrylaw13.LeanTurns", spec := "leanTurns", unfollowed := true, recurses := true, apart := false, narrowed := true }
def LeanTurnsUptoSaid : Prop := leanTurnsUptoRow.holds Try.pinned (OpenSpec.upto leanTurnsSpec)

/-- 'marquetrylaw13.LeanBack', WHERE WHAT IT READS IS OF BULK AT MOST 1048576: true; the input reads as it did. -/
def leanBackUptoRow : OpenClaim := { program := "ytnbocgmlcdcahaa", sum := "80313e6408901aaea9c281f909db8fe907be6034be46c32e4ff98cce63dc16fe", func := "marquetry/marquetrylaw13.LeanBack", spec := "leanBack", unfollowed := true, recurses := true, apart := false, narrowed := true }
def LeanBackUptoSaid : Prop := leanBackUptoRow.holds Try.pinned (OpenSpec.upto leanBackSpec)

end Rows
end Go.Proofs.Ytnbocgmlcdcahaa
