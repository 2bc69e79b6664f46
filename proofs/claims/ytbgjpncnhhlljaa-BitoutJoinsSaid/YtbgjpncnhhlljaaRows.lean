/-
  No cell of these rows narrows 'for every input' (looked for: loops, veiled, ifaces, maps, wideKeys, modest, calm, conditions, laid).
  DERIVED. THE GIVEN ROWS OF THIS SEAT. 4 by the template 'for every input the law returns true; each argument reads behind the call as it read before'; 0 by the template 'total and deterministic' (their statements: YtbgjpncnhhlljaaTotals.lean).
  GIVEN WITH THE SEED: the statements are not yours to turn. If you find one false, say at which input.
  Laid BY PROGRAM, IN A SANDBOX (cutbox-rows.mjs): the forced cells as the released guide's own fill.sh prints them over the translation 92888f424e48ac04… (all of the seat's roots in one cut). By AI agents, Wed Nov 11 2026. No macro, syntax, notation, axiom, sorry.
-/
import Derived.Test.YtbgjpncnhhlljaaChecked
import GoSem.Claim
import GoSem.ClaimJoined
import GoSem.ClaimMapViews
import Derived.JoinedTies
import Derived.KernelRfl
namespace Go.Proofs.Ytbgjpncnhhlljaa
/- THE CELL 'sum', in the pinned program and in every row, IS THE sha256 OF THE DUMP (.gsa) THAT YtbgjpncnhhlljaaProg.lean LOADS. Nothing in Lean hashes anything: it is a label: what it is worth is what the hold of that sum in a sandbox is worth. -/
noncomputable def Try.pinned : Pinned := { name := "ytbgjpncnhhlljaa", sum := "92888f424e48ac04049d012d3ace550041c7a3064069cf7faacb96e3ee9f3486", checked := Try.checked }
namespace Rows
def none {H : Type} : Left H := { results := [], args := [] }

/-- 'marquetrylaw03.BitoutWrites': WHATEVER THE INPUT: true; the input reads as it did. -/
def bitoutWritesSpec : ChangeSpec := { name := "bitoutWrites", fn := fun _ => fun
  | [d1, d2] => { results := [.lit (.bool true)], args := [d1, d2] }
  | _ => none }
def bitoutWritesRow : OpenClaim := { program := "ytbgjpncnhhlljaa", sum := "92888f424e48ac04049d012d3ace550041c7a3064069cf7faacb96e3ee9f3486", func := "marquetry/marquetrylaw03.BitoutWrites", spec := "bitoutWrites", apart := false }
def BitoutWritesSaid : Prop := bitoutWritesRow.holds Try.pinned (OpenSpec.ofChange bitoutWritesSpec)

/-- ITS FALSE NEIGHBOUR: 'it returns false'. Refute it at one input. -/
def bitoutWritesWrong : ChangeSpec := { name := "bitoutWrites", fn := fun _ => fun
  | [d1, d2] => { results := [.lit (.bool false)], args := [d1, d2] }
  | _ => none }
def BitoutWritesWrongFalsely : Prop := bitoutWritesRow.holds Try.pinned (OpenSpec.ofChange bitoutWritesWrong)

/-- 'marquetrylaw03.BitoutParts': WHATEVER THE INPUT: true; the input reads as it did. -/
def bitoutPartsSpec : ChangeSpec := { name := "bitoutParts", fn := fun _ => fun
  | [d1, d2, d3, d4] => { results := [.lit (.bool true)], args := [d1, d2, d3, d4] }
  | _ => none }
def bitoutPartsRow : OpenClaim := { program := "ytbgjpncnhhlljaa", sum := "92888f424e48ac04049d012d3ace550041c7a3064069cf7faacb96e3ee9f3486", func := "marquetry/marquetrylaw03.BitoutParts", spec := "bitoutParts", apart := false }
def BitoutPartsSaid : Prop := bitoutPartsRow.holds Try.pinned (OpenSpec.ofChange bitoutPartsSpec)

/-- ITS FALSE NEIGHBOUR: 'it returns false'. Refute it at one input. -/
def bitoutPartsWrong : ChangeSpec := { name := "bitoutParts", fn := fun _ => fun
  | [d1, d2, d3, d4] => { results := [.lit (.bool false)], args := [d1, d2, d3, d4] }
  | _ => none }
def BitoutPartsWrongFalsely : Prop := bitoutPartsRow.holds Try.pinned (OpenSpec.ofChange bitoutPartsWrong)

/-- 'marquetrylaw03.BitoutJoins': WHATEVER THE INPUT: true; the input reads as it did. -/
def bitoutJoinsSpec : ChangeSpec := { name := "bitoutJoins", fn := fun _ => fun
  | [d1, d2, d3] => { results := [.lit (.bool true)], args := [d1, d2, d3] }
  | _ => none }
def bitoutJoinsRow : OpenClaim := { program := "ytbgjpncnhhlljaa", sum := "92888f424e48ac04049d012d3ace550041c7a3064069cf7faacb96e3ee9f3486", func := "marquetry/marquetrylaw03.BitoutJoins", spec := "bitoutJoins", apart := false }
def BitoutJoinsSaid : Prop := bitoutJoinsRow.holds Try.pinned (OpenSpec.ofChange bitoutJoinsSpec)

/-- ITS FALSE NEIGHBOUR: 'it returns false'. Refute it at one input. -/
def bitoutJoinsWrong : ChangeSpec := { name := "bitoutJoins", fn := fun _ => fun
  | [d1, d2, d3] => { results := [.lit (.bool false)], args := [d1, d2, d3] }
  | _ => none }
def BitoutJoinsWrongFalsely : Prop := bitoutJoinsRow.holds Try.pinned (OpenSpec.ofChange bitoutJoinsWrong)

/-- 'marquetrylaw03.BitoutNone': WHATEVER THE INPUT: true; the input reads as it did. -/
def bitoutNoneSpec : ChangeSpec := { name := "bitoutNone", fn := fun _ => fun
  | [d1, d2] => { results := [.lit (.bool true)], args := [d1, d2] }
  | _ => none }
def bitoutNoneRow : OpenClaim := { program := "ytbgjpncnhhlljaa", sum := "92888f424e48ac04049d012d3ace550041c7a3064069cf7faacb96e3ee9f3486", func := "marquetry/marquetrylaw03.BitoutNone", spec := "bitoutNone", apart := false }
def BitoutNoneSaid : Prop := bitoutNoneRow.holds Try.pinned (OpenSpec.ofChange bitoutNoneSpec)

/-- ITS FALSE NEIGHBOUR: 'it returns false'. Refute it at one input. -/
def bitoutNoneWrong : ChangeSpec := { name := "bitoutNone", fn := fun _ => fun
  | [d1, d2] => { results := [.lit (.bool false)], args := [d1, d2] }
  | _ => none }
def BitoutNoneWrongFalsely : Prop := bitoutNoneRow.holds Try.pinned (OpenSpec.ofChange bitoutNoneWrong)

/- THE SECOND FORM. 'bulk': how many values and letters a reading holds, each counted each time it is reached (what is shared counts as often as it is met; a slice's spare places count too). A statement '..UptoSaid' is the law's where the arguments, and the package variables that the reading takes, are together of bulk at most 1048576: NARROWER than '..Said'. Prove '..Said' where nothing that the law and all that it calls make is longer than what came in: it says more and counts as full. Else prove '..UptoSaid'. A law counts once. -/
mutual
def uptoBulk {H : Type} : DataW H → Nat
  | .lit (.string bytes) => bytes.length + 1
  | .lit _ => 1
  | .nil => 1
  | .ptr d => uptoBulk d + 1
  | .slice elems spare => uptoBulkAll elems + uptoBulkAll spare + 1
  | .agg parts => uptoBulkAll parts + 1
  | .iface _ d => uptoBulk d + 1
  | .map entries => uptoBulkEntries entries + 1
  | .held _ => 1
def uptoBulkAll {H : Type} : List (DataW H) → Nat
  | [] => 0
  | d :: r => uptoBulk d + uptoBulkAll r
def uptoBulkEntries {H : Type} : List (Lit × DataW H) → Nat
  | [] => 0
  | x :: r => uptoBulkEntry x + uptoBulkEntries r
def uptoBulkEntry {H : Type} : Lit × DataW H → Nat
  | (.string bytes, d) => bytes.length + uptoBulk d + 1
  | (_, d) => uptoBulk d + 1
 end
def uptoSmall : (H : Type) → List (DataW H) → Bool := fun _ ds => decide (uptoBulkAll ds ≤ 1048576)
def OpenSpec.upto (s : _root_.Go.ChangeSpec) : _root_.Go.OpenSpec := { _root_.Go.OpenSpec.ofChange s with cond := some uptoSmall }

/-- 'marquetrylaw03.BitoutWrites', WHERE WHAT IT READS IS OF BULK AT MOST 1048576: true; the input reads as it did. -/
def bitoutWritesUptoRow : OpenClaim := { program := "ytbgjpncnhhlljaa", sum := "92888f424e48ac04049d012d3ace550041c7a3064069cf7faacb96e3ee9f3486", func := "marquetry/marquetrylaw03.BitoutWrites", spec := "bitoutWrites", apart := false, narrowed := true }
def BitoutWritesUptoSaid : Prop := bitoutWritesUptoRow.holds Try.pinned (OpenSpec.upto bitoutWritesSpec)

/-- 'marquetrylaw03.BitoutParts', WHERE WHAT IT READS IS OF BULK AT MOST 1048576: true; the input reads as it did. -/
def bitoutPartsUptoRow : OpenClaim := { program := "ytbgjpncnhhlljaa", sum := "92888f424e48ac04049d012d3ace550041c7a3064069cf7faacb96e3ee9f3486", func := "marquetry/marquetrylaw03.BitoutParts", spec := "bitoutParts", apart := false, narrowed := true }
def BitoutPartsUptoSaid : Prop := bitoutPartsUptoRow.holds Try.pinned (OpenSpec.upto bitoutPartsSpec)

/-- 'marquetrylaw03.BitoutJoins', WHERE WHAT IT READS IS OF BULK AT MOST 1048576: true; the input reads as it did. -/
def bitoutJoinsUptoRow : OpenClaim := { program := "ytbgjpncnhhlljaa", sum := "92888f424e48ac04049d012d3ace550041c7a3064069cf7faacb96e3ee9f3486", func := "marquetry/marquetrylaw03.BitoutJoins", spec := "bitoutJoins", apart := false, narrowed := true }
def BitoutJoinsUptoSaid : Prop := bitoutJoinsUptoRow.holds Try.pinned (OpenSpec.upto bitoutJoinsSpec)

/-- 'marquetrylaw03.BitoutNone', WHERE WHAT IT READS IS OF BULK AT MOST 1048576: true; the input reads as it did. -/
def bitoutNoneUptoRow : OpenClaim := { program := "ytbgjpncnhhlljaa", sum := "92888f424e48ac04049d012d3ace550041c7a3064069cf7faacb96e3ee9f3486", func := "marquetry/marquetrylaw03.BitoutNone", spec := "bitoutNone", apart := false, narrowed := true }
def BitoutNoneUptoSaid : Prop := bitoutNoneUptoRow.holds Try.pinned (OpenSpec.upto bitoutNoneSpec)

end Rows
end Go.Proofs.Ytbgjpncnhhlljaa
