/-
  No cell of these rows narrows 'for every input' (looked for: loops, veiled, ifaces, maps, wideKeys, modest, calm, conditions, laid).
  DERIVED. THE GIVEN ROWS OF THIS SEAT. 4 by the template 'for every input the law returns true; each argument reads behind the call as it read before'; 0 by the template 'total and deterministic' (their statements: YtmlkienikeklfaaTotals.lean).
  GIVEN WITH THE SEED: the statements are not yours to turn. If you find one false, say at which input.
  Laid BY PROGRAM, IN A SANDBOX (cutbox-rows.mjs): the forced cells as the released guide's own fill.sh prints them over the translation 62ea7e42c93899d0… (all of the seat's roots in one cut). By AI agents, Wed Nov 11 2026. No macro, syntax, notation, axiom, sorry.
-/
import Derived.Test.YtmlkienikeklfaaChecked
import GoSem.Claim
import GoSem.ClaimJoined
import GoSem.ClaimMapViews
import Derived.JoinedTies
import Derived.KernelRfl
namespace Go.Proofs.Ytmlkienikeklfaa
/- THE CELL 'sum', in the pinned program and in every row, IS THE sha256 OF THE DUMP (.gsa) THAT YtmlkienikeklfaaProg.lean LOADS. Nothing in Lean hashes anything: it is a label: what it is worth is what the hold of that sum in a sandbox is worth. -/
noncomputable def Try.pinned : Pinned := { name := "ytmlkienikeklfaa", sum := "62ea7e42c93899d02ae846de18ce6843aee30dc0ab08166b2c7c4f87ed5ce660", checked := Try.checked }
namespace Rows
def none {H : Type} : Left H := { results := [], args := [] }

/-- 'marquetrylaw08.ValueJoins': WHATEVER THE INPUT: true; the input reads as it did. -/
def valueJoinsSpec : ChangeSpec := { name := "valueJoins", fn := fun _ => fun
  | [d1, d2] => { results := [.lit (.bool true)], args := [d1, d2] }
  | _ => none }
def valueJoinsRow : OpenClaim := { program := "ytmlkienikeklfaa", sum := "62ea7e42c93899d02ae846de18ce6843aee30dc0ab08166b2c7c4f87ed5ce660", func := "marquetry/marquetrylaw08.ValueJoins", spec := "valueJoins", apart := false }
def ValueJoinsSaid : Prop := valueJoinsRow.holds Try.pinned (OpenSpec.ofChange valueJoinsSpec)

/-- ITS FALSE NEIGHBOUR: 'it returns false'. Refute it at one input. -/
def valueJoinsWrong : ChangeSpec := { name := "valueJoins", fn := fun _ => fun
  | [d1, d2] => { results := [.lit (.bool false)], args := [d1, d2] }
  | _ => none }
def ValueJoinsWrongFalsely : Prop := valueJoinsRow.holds Try.pinned (OpenSpec.ofChange valueJoinsWrong)

/-- 'marquetrylaw08.ValueBack': WHATEVER THE INPUT: true; the input reads as it did. -/
def valueBackSpec : ChangeSpec := { name := "valueBack", fn := fun _ => fun
  | [d] => { results := [.lit (.bool true)], args := [d] }
  | _ => none }
def valueBackRow : OpenClaim := { program := "ytmlkienikeklfaa", sum := "62ea7e42c93899d02ae846de18ce6843aee30dc0ab08166b2c7c4f87ed5ce660", func := "marquetry/marquetrylaw08.ValueBack", spec := "valueBack", apart := false }
def ValueBackSaid : Prop := valueBackRow.holds Try.pinned (OpenSpec.ofChange valueBackSpec)

/-- ITS FALSE NEIGHBOUR: 'it returns false'. Refute it at one input. -/
def valueBackWrong : ChangeSpec := { name := "valueBack", fn := fun _ => fun
  | [d] => { results := [.lit (.bool false)], args := [d] }
  | _ => none }
def ValueBackWrongFalsely : Prop := valueBackRow.holds Try.pinned (OpenSpec.ofChange valueBackWrong)

/-- 'marquetrylaw08.ValueOrder': WHATEVER THE INPUT: true; the input reads as it did. -/
def valueOrderSpec : ChangeSpec := { name := "valueOrder", fn := fun _ => fun
  | [d1, d2] => { results := [.lit (.bool true)], args := [d1, d2] }
  | _ => none }
def valueOrderRow : OpenClaim := { program := "ytmlkienikeklfaa", sum := "62ea7e42c93899d02ae846de18ce6843aee30dc0ab08166b2c7c4f87ed5ce660", func := "marquetry/marquetrylaw08.ValueOrder", spec := "valueOrder", apart := false }
def ValueOrderSaid : Prop := valueOrderRow.holds Try.pinned (OpenSpec.ofChange valueOrderSpec)

/-- ITS FALSE NEIGHBOUR: 'it returns false'. Refute it at one input. -/
def valueOrderWrong : ChangeSpec := { name := "valueOrder", fn := fun _ => fun
  | [d1, d2] => { results := [.lit (.bool false)], args := [d1, d2] }
  | _ => none }
def ValueOrderWrongFalsely : Prop := valueOrderRow.holds Try.pinned (OpenSpec.ofChange valueOrderWrong)

/-- 'marquetrylaw08.ValueNext': WHATEVER THE INPUT: true; the input reads as it did. -/
def valueNextSpec : ChangeSpec := { name := "valueNext", fn := fun _ => fun
  | [d] => { results := [.lit (.bool true)], args := [d] }
  | _ => none }
def valueNextRow : OpenClaim := { program := "ytmlkienikeklfaa", sum := "62ea7e42c93899d02ae846de18ce6843aee30dc0ab08166b2c7c4f87ed5ce660", func := "marquetry/marquetrylaw08.ValueNext", spec := "valueNext", apart := false }
def ValueNextSaid : Prop := valueNextRow.holds Try.pinned (OpenSpec.ofChange valueNextSpec)

/-- ITS FALSE NEIGHBOUR: 'it returns false'. Refute it at one input. -/
def valueNextWrong : ChangeSpec := { name := "valueNext", fn := fun _ => fun
  | [d] => { results := [.lit (.bool false)], args := [d] }
  | _ => none }
def ValueNextWrongFalsely : Prop := valueNextRow.holds Try.pinned (OpenSpec.ofChange valueNextWrong)

/- THE SECOND FORM. 'bulk': how many values and letters a reading holds, each counted each time it is reached (what is shared counts as often as it is met; a slice's spare places count too). A statement '..UptoSaid' is the law's where the arguments, and the package variables that the reading takes, are together of bulk at most 1048576: NARROWER than '..Said'. Prove '..Said' where nothing that the law and all that it calls make is longer than what came in: it says more and counts as full. Else prove '..UptoSaid'. A law counts once. -/
mutual
def uptoBulk {H : Type} : DataW H → Nat
  | .lit (.string bytes) => bytes.length + 1
  | .lit _ => 1
  | .nil => 1
  | .ptr d => uptoBulk d + 1
  | .slice elems spare => uptoBulkAll elems + uptoBulkAll spare + 1
  | .agg parts => uptoBulkAll parts + 1
  | .iface _ d => uptoBulk d + 1
  | .map entries => uptoBulkEntries entries + 1
  | .held _ => 1
def uptoBulkAll {H : Type} : List (DataW H) → Nat
  | [] => 0
  | d :: r => uptoBulk d + uptoBulkAll r
def uptoBulkEntries {H : Type} : List (Lit × DataW H) → Nat
  | [] => 0
  | x :: r => uptoBulkEntry x + uptoBulkEntries r
def uptoBulkEntry {H : Type} : Lit × DataW H → Nat
  | (.string bytes, d) => bytes.length + uptoBulk d + 1
  | (_, d) => uptoBulk d + 1
 end
def uptoSmall : (H : Type) → List (DataW H) → Bool := fun _ ds => decide (uptoBulkAll ds ≤ 1048576)
def OpenSpec.upto (s : _root_.Go.ChangeSpec) : _root_.Go.OpenSpec := { _root_.Go.OpenSpec.ofChange s with cond := some uptoSmall }

/-- 'marquetrylaw08.ValueJoins', WHERE WHAT IT READS IS OF BULK AT MOST 1048576: true; the input reads as it did. -/
def valueJoinsUptoRow : OpenClaim := { program := "ytmlkienikeklfaa", sum := "62ea7e42c93899d02ae846de18ce6843aee30dc0ab08166b2c7c4f87ed5ce660", func := "marquetry/marquetrylaw08.ValueJoins", spec := "valueJoins", apart := false, narrowed := true }
def ValueJoinsUptoSaid : Prop := valueJoinsUptoRow.holds Try.pinned (OpenSpec.upto valueJoinsSpec)

/-- 'marquetrylaw08.ValueBack', WHERE WHAT IT READS IS OF BULK AT MOST 1048576: true; the input reads as it did. -/
def valueBackUptoRow : OpenClaim := { program := "ytmlkienikeklfaa", sum := "62ea7e42c93899d02ae846de18ce6843aee30dc0ab08166b2c7c4f87ed5ce660", func := "marquetry/marquetrylaw08.ValueBack", spec := "valueBack", apart := false, narrowed := true }
def ValueBackUptoSaid : Prop := valueBackUptoRow.holds Try.pinned (OpenSpec.upto valueBackSpec)

/-- 'marquetrylaw08.ValueOrder', WHERE WHAT IT READS IS OF BULK AT MOST 1048576: true; the input reads as it did. -/
def valueOrderUptoRow : OpenClaim := { program := "ytmlkienikeklfaa", sum := "62ea7e42c93899d02ae846de18ce6843aee30dc0ab08166b2c7c4f87ed5ce660", func := "marquetry/marquetrylaw08.ValueOrder", spec := "valueOrder", apart := false, narrowed := true }
def ValueOrderUptoSaid : Prop := valueOrderUptoRow.holds Try.pinned (OpenSpec.upto valueOrderSpec)

/-- 'marquetrylaw08.ValueNext', WHERE WHAT IT READS IS OF BULK AT MOST 1048576: true; the input reads as it did. -/
def valueNextUptoRow : OpenClaim := { program := "ytmlkienikeklfaa", sum := "62ea7e42c93899d02ae846de18ce6843aee30dc0ab08166b2c7c4f87ed5ce660", func := "marquetry/marquetrylaw08.ValueNext", spec := "valueNext", apart := false, narrowed := true }
def ValueNextUptoSaid : Prop := valueNextUptoRow.holds Try.pinned (OpenSpec.upto valueNextSpec)

end Rows
end Go.Proofs.Ytmlkienikeklfaa
