/-
  No cell of these rows narrows 'for every input' (looked for: loops, veiled, ifaces, maps, wideKeys, modest, calm, conditions, laid).
  DERIVED. THE GIVEN ROWS OF THIS SEAT. 4 by the template 'for every input the law returns true; each argument reads behind the call as it read before'; 0 by the template 'total and deterministic' (their statements: YtflkinhbecjahaaTotals.lean).
  GIVEN WITH THE SEED: the statements are not yours to turn. If you find one false, say at which input.
  Laid BY PROGRAM, IN A SANDBOX (cutbox-rows.mjs): the forced cells as the released guide's own fill.sh prints them over the translation 718b22baaea9f37a… (all of the seat's roots in one cut). By AI agents, Wed Nov 11 2026. No macro, syntax, notation, axiom, sorry.
-/
import Derived.Test.YtflkinhbecjahaaChecked
import GoSem.Claim
import GoSem.ClaimJoined
import GoSem.ClaimMapViews
import Derived.JoinedTies
import Derived.KernelRfl
namespace Go.Proofs.Ytflkinhbecjahaa
/- THE CELL 'sum', in the pinned program and in every row, IS THE sha256 OF THE DUMP (.gsa) THAT YtflkinhbecjahaaProg.lean LOADS. Nothing in Lean hashes anything: it is a label: what it is worth is what the hold of that sum in a sandbox is worth. -/
noncomputable def Try.pinned : Pinned := { name := "ytflkinhbecjahaa", sum := "718b22baaea9f37a81bcb74d933eae4ea9f52c463b4d161236bd964b4e676d64", checked := Try.checked }
namespace Rows
def none {H : Type} : Left H := { results := [], args := [] }

/-- 'marquetrylaw02.BitinParts': WHATEVER THE INPUT: true; the input reads as it did. -/
def bitinPartsSpec : ChangeSpec := { name := "bitinParts", fn := fun _ => fun
  | [d1, d2, d3, d4] => { results := [.lit (.bool true)], args := [d1, d2, d3, d4] }
  | _ => none }
def bitinPartsRow : OpenClaim := { program := "ytflkinhbecjahaa", sum := "718b22baaea9f37a81bcb74d933eae4ea9f52c463b4d161236bd964b4e676d64", func := "marquetry/marquetrylaw02.BitinParts", spec := "bitinParts", apart := false }
def BitinPartsSaid : Prop := bitinPartsRow.holds Try.pinned (OpenSpec.ofChange bitinPartsSpec)

/-- ITS FALSE NEIGHBOUR: 'it returns false'. Refute it at one input. -/
def bitinPartsWrong : ChangeSpec := { name := "bitinParts", fn := fun _ => fun
  | [d1, d2, d3, d4] => { results := [.lit (.bool false)], args := [d1, d2, d3, d4] }
  | _ => none }
def BitinPartsWrongFalsely : Prop := bitinPartsRow.holds Try.pinned (OpenSpec.ofChange bitinPartsWrong)

/-- 'marquetrylaw02.BitinReads': WHATEVER THE INPUT: true; the input reads as it did. -/
def bitinReadsSpec : ChangeSpec := { name := "bitinReads", fn := fun _ => fun
  | [d1, d2] => { results := [.lit (.bool true)], args := [d1, d2] }
  | _ => none }
def bitinReadsRow : OpenClaim := { program := "ytflkinhbecjahaa", sum := "718b22baaea9f37a81bcb74d933eae4ea9f52c463b4d161236bd964b4e676d64", func := "marquetry/marquetrylaw02.BitinReads", spec := "bitinReads", apart := false }
def BitinReadsSaid : Prop := bitinReadsRow.holds Try.pinned (OpenSpec.ofChange bitinReadsSpec)

/-- ITS FALSE NEIGHBOUR: 'it returns false'. Refute it at one input. -/
def bitinReadsWrong : ChangeSpec := { name := "bitinReads", fn := fun _ => fun
  | [d1, d2] => { results := [.lit (.bool false)], args := [d1, d2] }
  | _ => none }
def BitinReadsWrongFalsely : Prop := bitinReadsRow.holds Try.pinned (OpenSpec.ofChange bitinReadsWrong)

/-- 'marquetrylaw02.BitinNone': WHATEVER THE INPUT: true; the input reads as it did. -/
def bitinNoneSpec : ChangeSpec := { name := "bitinNone", fn := fun _ => fun
  | [d] => { results := [.lit (.bool true)], args := [d] }
  | _ => none }
def bitinNoneRow : OpenClaim := { program := "ytflkinhbecjahaa", sum := "718b22baaea9f37a81bcb74d933eae4ea9f52c463b4d161236bd964b4e676d64", func := "marquetry/marquetrylaw02.BitinNone", spec := "bitinNone", apart := false }
def BitinNoneSaid : Prop := bitinNoneRow.holds Try.pinned (OpenSpec.ofChange bitinNoneSpec)

/-- ITS FALSE NEIGHBOUR: 'it returns false'. Refute it at one input. -/
def bitinNoneWrong : ChangeSpec := { name := "bitinNone", fn := fun _ => fun
  | [d] => { results := [.lit (.bool false)], args := [d] }
  | _ => none }
def BitinNoneWrongFalsely : Prop := bitinNoneRow.holds Try.pinned (OpenSpec.ofChange bitinNoneWrong)

/-- 'marquetrylaw02.BitinEnd': WHATEVER THE INPUT: true; the input reads as it did. -/
def bitinEndSpec : ChangeSpec := { name := "bitinEnd", fn := fun _ => fun
  | [d1, d2, d3] => { results := [.lit (.bool true)], args := [d1, d2, d3] }
  | _ => none }
def bitinEndRow : OpenClaim := { program := "ytflkinhbecjahaa", sum := "718b22baaea9f37a81bcb74d933eae4ea9f52c463b4d161236bd964b4e676d64", func := "marquetry/marquetrylaw02.BitinEnd", spec := "bitinEnd", apart := false }
def BitinEndSaid : Prop := bitinEndRow.holds Try.pinned (OpenSpec.ofChange bitinEndSpec)

/-- ITS FALSE NEIGHBOUR: 'it returns false'. Refute it at one input. -/
def bitinEndWrong : ChangeSpec := { name := "bitinEnd", fn := fun _ => fun
  | [d1, d2, d3] => { results := [.lit (.bool false)], args := [d1, d2, d3] }
  | _ => none }
def BitinEndWrongFalsely : Prop := bitinEndRow.holds Try.pinned (OpenSpec.ofChange bitinEndWrong)

/- THE SECOND FORM. 'bulk': how many values and letters a reading holds, each counted each time it is reached (what is shared counts as often as it is met; a slice's spare places count too). A statement '..UptoSaid' is the law's where the arguments, and the package variables that the reading takes, are together of bulk at most 1048576: NARROWER than '..Said'. Prove '..Said' where nothing that the law and all that it calls make is longer than what came in: it says more and counts as full. Else prove '..UptoSaid'. A law counts once. -/
mutual
def uptoBulk {H : Type} : DataW H → Nat
  | .lit (.string bytes) => bytes.length + 1
  | .lit _ => 1
  | .nil => 1
  | .ptr d => uptoBulk d + 1
  | .slice elems spare => uptoBulkAll elems + uptoBulkAll spare + 1
  | .agg parts => uptoBulkAll parts + 1
  | .iface _ d => uptoBulk d + 1
  | .map entries => uptoBulkEntries entries + 1
  | .held _ => 1
def uptoBulkAll {H : Type} : List (DataW H) → Nat
  | [] => 0
  | d :: r => uptoBulk d + uptoBulkAll r
def uptoBulkEntries {H : Type} : List (Lit × DataW H) → Nat
  | [] => 0
  | x :: r => uptoBulkEntry x + uptoBulkEntries r
def uptoBulkEntry {H : Type} : Lit × DataW H → Nat
  | (.string bytes, d) => bytes.length + uptoBulk d + 1
  | (_, d) => uptoBulk d + 1
 end
def uptoSmall : (H : Type) → List (DataW H) → Bool := fun _ ds => decide (uptoBulkAll ds ≤ 1048576)
def OpenSpec.upto (s : _root_.Go.ChangeSpec) : _root_.Go.OpenSpec := { _root_.Go.OpenSpec.ofChange s with cond := some uptoSmall }

/-- 'marquetrylaw02.BitinParts', WHERE WHAT IT READS IS OF BULK AT MOST 1048576: true; the input reads as it did. -/
def bitinPartsUptoRow : OpenClaim := { program := "ytflkinhbecjahaa", sum := "718b22baaea9f37a81bcb74d933eae4ea9f52c463b4d161236bd964b4e676d64", func := "marquetry/marquetrylaw02.BitinParts", spec := "bitinParts", apart := false, narrowed := true }
def BitinPartsUptoSaid : Prop := bitinPartsUptoRow.holds Try.pinned (OpenSpec.upto bitinPartsSpec)

/-- 'marquetrylaw02.BitinReads', WHERE WHAT IT READS IS OF BULK AT MOST 1048576: true; the input reads as it did. -/
def bitinReadsUptoRow : OpenClaim := { program := "ytflkinhbecjahaa", sum := "718b22baaea9f37a81bcb74d933eae4ea9f52c463b4d161236bd964b4e676d64", func := "marquetry/marquetrylaw02.BitinReads", spec := "bitinReads", apart := false, narrowed := true }
def BitinReadsUptoSaid : Prop := bitinReadsUptoRow.holds Try.pinned (OpenSpec.upto bitinReadsSpec)

/-- 'marquetrylaw02.BitinNone', WHERE WHAT IT READS IS OF BULK AT MOST 1048576: true; the input reads as it did. -/
def bitinNoneUptoRow : OpenClaim := { program := "ytflkinhbecjahaa", sum := "718b22baaea9f37a81bcb74d933eae4ea9f52c463b4d161236bd964b4e676d64", func := "marquetry/marquetrylaw02.BitinNone", spec := "bitinNone", apart := false, narrowed := true }
def BitinNoneUptoSaid : Prop := bitinNoneUptoRow.holds Try.pinned (OpenSpec.upto bitinNoneSpec)

/-- 'marquetrylaw02.BitinEnd', WHERE WHAT IT READS IS OF BULK AT MOST 1048576: true; the input reads as it did. -/
def bitinEndUptoRow : OpenClaim := { program := "ytflkinhbecjahaa", sum := "718b22baaea9f37a81bcb74d933eae4ea9f52c463b4d161236bd964b4e676d64", func := "marquetry/marquetrylaw02.BitinEnd", spec := "bitinEnd", apart := false, narrowed := true }
def BitinEndUptoSaid : Prop := bitinEndUptoRow.holds Try.pinned (OpenSpec.upto bitinEndSpec)

end Rows
end Go.Proofs.Ytflkinhbecjahaa
