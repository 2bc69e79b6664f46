/-
  No cell of these rows narrows 'for every input' (looked for: loops, veiled, ifaces, maps, wideKeys, modest, calm, conditions, laid).
  DERIVED. THE GIVEN ROWS OF THIS SEAT. 5 by the template 'for every input the law returns true; each argument reads behind the call as it read before'; 0 by the template 'total and deterministic' (their statements: YtoiaonbfhcnikaaTotals.lean).
  GIVEN WITH THE SEED: the statements are not yours to turn. If you find one false, say at which input.
  Laid BY PROGRAM, IN A SANDBOX (cutbox-rows.mjs): the forced cells as the released guide's own fill.sh prints them over the translation c4c90e61265e8acd… (all of the seat's roots in one cut). By AI agents, Wed Nov 11 2026. No macro, syntax, notation, axiom, sorry.
-/
import Derived.Test.YtoiaonbfhcnikaaChecked
import GoSem.Claim
import GoSem.ClaimJoined
import GoSem.ClaimMapViews
import Derived.JoinedTies
import Derived.KernelRfl
namespace Go.Proofs.Ytoiaonbfhcnikaa
/- THE CELL 'sum', in the pinned program and in every row, IS THE sha256 OF THE DUMP (.gsa) THAT YtoiaonbfhcnikaaProg.lean LOADS. Nothing in Lean hashes anything: it is a label: what it is worth is what the hold of that sum in a sandbox is worth. -/
noncomputable def Try.pinned : Pinned := { name := "ytoiaonbfhcnikaa", sum := "c4c90e61265e8acd41078776bf0f0817ba7848cc47aba713600bf31c3c10d5a0", checked := Try.checked }
namespace Rows
def none {H : Type} : Left H := { results := [], args := [] }

/-- 'marquetrylaw01.LeBlocks': WHATEVER THE INPUT: true; the input reads as it did. -/
def leBlocksSpec : ChangeSpec := { name := "leBlocks", fn := fun _ => fun
  | [d1, d2] => { results := [.lit (.bool true)], args := [d1, d2] }
  | _ => none }
def leBlocksRow : OpenClaim := { program := "ytoiaonbfhcnikaa", sum := "c4c90e61265e8acd41078776bf0f0817ba7848cc47aba713600bf31c3c10d5a0", func := "marquetry/marquetrylaw01.LeBlocks", spec := "leBlocks", apart := false }
def LeBlocksSaid : Prop := leBlocksRow.holds Try.pinned (OpenSpec.ofChange leBlocksSpec)

/-- ITS FALSE NEIGHBOUR: 'it returns false'. Refute it at one input. -/
def leBlocksWrong : ChangeSpec := { name := "leBlocks", fn := fun _ => fun
  | [d1, d2] => { results := [.lit (.bool false)], args := [d1, d2] }
  | _ => none }
def LeBlocksWrongFalsely : Prop := leBlocksRow.holds Try.pinned (OpenSpec.ofChange leBlocksWrong)

/-- 'marquetrylaw01.LeNumbers': WHATEVER THE INPUT: true; the input reads as it did. -/
def leNumbersSpec : ChangeSpec := { name := "leNumbers", fn := fun _ => fun
  | [d1, d2, d3, d4] => { results := [.lit (.bool true)], args := [d1, d2, d3, d4] }
  | _ => none }
def leNumbersRow : OpenClaim := { program := "ytoiaonbfhcnikaa", sum := "c4c90e61265e8acd41078776bf0f0817ba7848cc47aba713600bf31c3c10d5a0", func := "marquetry/marquetrylaw01.LeNumbers", spec := "leNumbers", apart := false }
def LeNumbersSaid : Prop := leNumbersRow.holds Try.pinned (OpenSpec.ofChange leNumbersSpec)

/-- ITS FALSE NEIGHBOUR: 'it returns false'. Refute it at one input. -/
def leNumbersWrong : ChangeSpec := { name := "leNumbers", fn := fun _ => fun
  | [d1, d2, d3, d4] => { results := [.lit (.bool false)], args := [d1, d2, d3, d4] }
  | _ => none }
def LeNumbersWrongFalsely : Prop := leNumbersRow.holds Try.pinned (OpenSpec.ofChange leNumbersWrong)

/-- 'marquetrylaw01.LeSizes': WHATEVER THE INPUT: true; the input reads as it did. -/
def leSizesSpec : ChangeSpec := { name := "leSizes", fn := fun _ => fun
  | [d1, d2, d3, d4] => { results := [.lit (.bool true)], args := [d1, d2, d3, d4] }
  | _ => none }
def leSizesRow : OpenClaim := { program := "ytoiaonbfhcnikaa", sum := "c4c90e61265e8acd41078776bf0f0817ba7848cc47aba713600bf31c3c10d5a0", func := "marquetry/marquetrylaw01.LeSizes", spec := "leSizes", apart := false }
def LeSizesSaid : Prop := leSizesRow.holds Try.pinned (OpenSpec.ofChange leSizesSpec)

/-- ITS FALSE NEIGHBOUR: 'it returns false'. Refute it at one input. -/
def leSizesWrong : ChangeSpec := { name := "leSizes", fn := fun _ => fun
  | [d1, d2, d3, d4] => { results := [.lit (.bool false)], args := [d1, d2, d3, d4] }
  | _ => none }
def LeSizesWrongFalsely : Prop := leSizesRow.holds Try.pinned (OpenSpec.ofChange leSizesWrong)

/-- 'marquetrylaw01.LeTurns': WHATEVER THE INPUT: true; the input reads as it did. -/
def leTurnsSpec : ChangeSpec := { name := "leTurns", fn := fun _ => fun
  | [d1, d2, d3, d4] => { results := [.lit (.bool true)], args := [d1, d2, d3, d4] }
  | _ => none }
def leTurnsRow : OpenClaim := { program := "ytoiaonbfhcnikaa", sum := "c4c90e61265e8acd41078776bf0f0817ba7848cc47aba713600bf31c3c10d5a0", func := "marquetry/marquetrylaw01.LeTurns", spec := "leTurns", apart := false }
def LeTurnsSaid : Prop := leTurnsRow.holds Try.pinned (OpenSpec.ofChange leTurnsSpec)

/-- ITS FALSE NEIGHBOUR: 'it returns false'. Refute it at one input. -/
def leTurnsWrong : ChangeSpec := { name := "leTurns", fn := fun _ => fun
  | [d1, d2, d3, d4] => { results := [.lit (.bool false)], args := [d1, d2, d3, d4] }
  | _ => none }
def LeTurnsWrongFalsely : Prop := leTurnsRow.holds Try.pinned (OpenSpec.ofChange leTurnsWrong)

/-- 'marquetrylaw01.LeJoins': WHATEVER THE INPUT: true; the input reads as it did. -/
def leJoinsSpec : ChangeSpec := { name := "leJoins", fn := fun _ => fun
  | [d1, d2] => { results := [.lit (.bool true)], args := [d1, d2] }
  | _ => none }
def leJoinsRow : OpenClaim := { program := "ytoiaonbfhcnikaa", sum := "c4c90e61265e8acd41078776bf0f0817ba7848cc47aba713600bf31c3c10d5a0", func := "marquetry/marquetrylaw01.LeJoins", spec := "leJoins", apart := false }
def LeJoinsSaid : Prop := leJoinsRow.holds Try.pinned (OpenSpec.ofChange leJoinsSpec)

/-- ITS FALSE NEIGHBOUR: 'it returns false'. Refute it at one input. -/
def leJoinsWrong : ChangeSpec := { name := "leJoins", fn := fun _ => fun
  | [d1, d2] => { results := [.lit (.bool false)], args := [d1, d2] }
  | _ => none }
def LeJoinsWrongFalsely : Prop := leJoinsRow.holds Try.pinned (OpenSpec.ofChange leJoinsWrong)

/- THE SECOND FORM. 'bulk': how many values and letters a reading holds, each counted each time it is reached (what is shared counts as often as it is met; a slice's spare places count too). A statement '..UptoSaid' is the law's where the arguments, and the package variables that the reading takes, are together of bulk at most 1048576: NARROWER than '..Said'. Prove '..Said' where nothing that the law and all that it calls make is longer than what came in: it says more and counts as full. Else prove '..UptoSaid'. A law counts once. -/
mutual
def uptoBulk {H : Type} : DataW H → Nat
  | .lit (.string bytes) => bytes.length + 1
  | .lit _ => 1
  | .nil => 1
  | .ptr d => uptoBulk d + 1
  | .slice elems spare => uptoBulkAll elems + uptoBulkAll spare + 1
  | .agg parts => uptoBulkAll parts + 1
  | .iface _ d => uptoBulk d + 1
  | .map entries => uptoBulkEntries entries + 1
  | .held _ => 1
def uptoBulkAll {H : Type} : List (DataW H) → Nat
  | [] => 0
  | d :: r => uptoBulk d + uptoBulkAll r
def uptoBulkEntries {H : Type} : List (Lit × DataW H) → Nat
  | [] => 0
  | x :: r => uptoBulkEntry x + uptoBulkEntries r
def uptoBulkEntry {H : Type} : Lit × DataW H → Nat
  | (.string bytes, d) => bytes.length + uptoBulk d + 1
  | (_, d) => uptoBulk d + 1
 end
def uptoSmall : (H : Type) → List (DataW H) → Bool := fun _ ds => decide (uptoBulkAll ds ≤ 1048576)
def OpenSpec.upto (s : _root_.Go.ChangeSpec) : _root_.Go.OpenSpec := { _root_.Go.OpenSpec.ofChange s with cond := some uptoSmall }

/-- 'marquetrylaw01.LeBlocks', WHERE WHAT IT READS IS OF BULK AT MOST 1048576: true; the input reads as it did. -/
def leBlocksUptoRow : OpenClaim := { program := "ytoiaonbfhcnikaa", sum := "c4c90e61265e8acd41078776bf0f0817ba7848cc47aba713600bf31c3c10d5a0", func := "marquetry/marquetrylaw01.LeBlocks", spec := "leBlocks", apart := false, narrowed := true }
def LeBlocksUptoSaid : Prop := leBlocksUptoRow.holds Try.pinned (OpenSpec.upto leBlocksSpec)

/-- 'marquetrylaw01.LeNumbers', WHERE WHAT IT READS IS OF BULK AT MOST 1048576: true; the input reads as it did. -/
def leNumbersUptoRow : OpenClaim := { program := "ytoiaonbfhcnikaa", sum := "c4c90e61265e8acd41078776bf0f0817ba7848cc47aba713600bf31c3c10d5a0", func := "marquetry/marquetrylaw01.LeNumbers", spec := "leNumbers", apart := false, narrowed := true }
def LeNumbersUptoSaid : Prop := leNumbersUptoRow.holds Try.pinned (OpenSpec.upto leNumbersSpec)

/-- 'marquetrylaw01.LeSizes', WHERE WHAT IT READS IS OF BULK AT MOST 1048576: true; the input reads as it did. -/
def leSizesUptoRow : OpenClaim := { program := "ytoiaonbfhcnikaa", sum := "c4c90e61265e8acd41078776bf0f0817ba7848cc47aba713600bf31c3c10d5a0", func := "marquetry/marquetrylaw01.LeSizes", spec := "leSizes", apart := false, narrowed := true }
def LeSizesUptoSaid : Prop := leSizesUptoRow.holds Try.pinned (OpenSpec.upto leSizesSpec)

/-- 'marquetrylaw01.LeTurns', WHERE WHAT IT READS IS OF BULK AT MOST 1048576: true; the input reads as it did. -/
def leTurnsUptoRow : OpenClaim := { program := "ytoiaonbfhcnikaa", sum := "c4c90e61265e8acd41078776bf0f0817ba7848cc47aba713600bf31c3c10d5a0", func := "marquetry/marquetrylaw01.LeTurns", spec := "leTurns", apart := false, narrowed := true }
def LeTurnsUptoSaid : Prop := leTurnsUptoRow.holds Try.pinned (OpenSpec.upto leTurnsSpec)

/-- 'marquetrylaw01.LeJoins', WHERE WHAT IT READS IS OF BULK AT MOST 1048576: true; the input reads as it did. -/
def leJoinsUptoRow : OpenClaim := { program := "ytoiaonbfhcnikaa", sum := "c4c90e61265e8acd41078776bf0f0817ba7848cc47aba713600bf31c3c10d5a0", func := "marquetry/marquetrylaw01.LeJoins", spec := "leJoins", apart := false, narrowed := true }
def LeJoinsUptoSaid : Prop := leJoinsUptoRow.holds Try.pinned (OpenSpec.upto leJoinsSpec)

end Rows
end Go.Proofs.Ytoiaonbfhcnikaa
