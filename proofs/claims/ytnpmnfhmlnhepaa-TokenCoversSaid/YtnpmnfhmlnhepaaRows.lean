/-
  No cell of these rows narrows 'for every input' (looked for: loops, veiled, ifaces, maps, wideKeys, modest, calm, conditions, laid).
  DERIVED. THE GIVEN ROWS OF THIS SEAT. 5 by the template 'for every input the law returns true; each argument reads behind the call as it read before'; 0 by the template 'total and deterministic' (their statements: YtnpmnfhmlnhepaaTotals.lean).
  GIVEN WITH THE SEED: the statements are not yours to turn. If you find one false, say at which input.
  Laid BY PROGRAM, IN A SANDBOX (cutbox-rows.mjs): the forced cells as the released guide's own fill.sh prints them over the translation 86916494118b5bea… (all of the seat's roots in one cut). By AI agents, Wed Nov 11 2026. No macro, syntax, notation, axiom, sorry.
-/
import Derived.Test.YtnpmnfhmlnhepaaChecked
import GoSem.Claim
import GoSem.ClaimJoined
import GoSem.ClaimMapViews
import Derived.JoinedTies
import Derived.KernelRfl
namespace Go.Proofs.Ytnpmnfhmlnhepaa
/- THE CELL 'sum', in the pinned program and in every row, IS THE sha256 OF THE DUMP (.gsa) THAT YtnpmnfhmlnhepaaProg.lean LOADS. Nothing in Lean hashes anything: it is a label: what it is worth is what the hold of that sum in a sandbox is worth. -/
noncomputable def Try.pinned : Pinned := { name := "ytnpmnfhmlnhepaa", sum := "86916494118b5beaecf0751c4535bf7548049c5cd614141fff4a35db9327acbf", checked := Try.checked }
namespace Rows
def none {H : Type} : Left H := { results := [], args := [] }

/-- 'marquetrylaw17.TokenExpands': WHATEVER THE INPUT: true; the input reads as it did. -/
def tokenExpandsSpec : ChangeSpec := { name := "tokenExpands", fn := fun _ => fun
  | [d1, d2, d3] => { results := [.lit (.bool true)], args := [d1, d2, d3] }
  | _ => none }
def tokenExpandsRow : OpenClaim := { program := "ytnpmnfhmlnhepaa", sum := "86916494118b5beaecf0751c4535bf7548049c5cd614141fff4a35db9327acbf", func := "marquetry/marquetrylaw17.TokenExpands", spec := "tokenExpands", plainKeys := false, apart := false }
def TokenExpandsSaid : Prop := tokenExpandsRow.holds Try.pinned (OpenSpec.ofChange tokenExpandsSpec)

/-- ITS FALSE NEIGHBOUR: 'it returns false'. Refute it at one input. -/
def tokenExpandsWrong : ChangeSpec := { name := "tokenExpands", fn := fun _ => fun
  | [d1, d2, d3] => { results := [.lit (.bool false)], args := [d1, d2, d3] }
  | _ => none }
def TokenExpandsWrongFalsely : Prop := tokenExpandsRow.holds Try.pinned (OpenSpec.ofChange tokenExpandsWrong)

/-- 'marquetrylaw17.TokenCovers': WHATEVER THE INPUT: true; the input reads as it did. -/
def tokenCoversSpec : ChangeSpec := { name := "tokenCovers", fn := fun _ => fun
  | [d1, d2, d3] => { results := [.lit (.bool true)], args := [d1, d2, d3] }
  | _ => none }
def tokenCoversRow : OpenClaim := { program := "ytnpmnfhmlnhepaa", sum := "86916494118b5beaecf0751c4535bf7548049c5cd614141fff4a35db9327acbf", func := "marquetry/marquetrylaw17.TokenCovers", spec := "tokenCovers", plainKeys := false, apart := false }
def TokenCoversSaid : Prop := tokenCoversRow.holds Try.pinned (OpenSpec.ofChange tokenCoversSpec)

/-- ITS FALSE NEIGHBOUR: 'it returns false'. Refute it at one input. -/
def tokenCoversWrong : ChangeSpec := { name := "tokenCovers", fn := fun _ => fun
  | [d1, d2, d3] => { results := [.lit (.bool false)], args := [d1, d2, d3] }
  | _ => none }
def TokenCoversWrongFalsely : Prop := tokenCoversRow.holds Try.pinned (OpenSpec.ofChange tokenCoversWrong)

/-- 'marquetrylaw17.TokenKnowns': WHATEVER THE INPUT: true; the input reads as it did. -/
def tokenKnownsSpec : ChangeSpec := { name := "tokenKnowns", fn := fun _ => fun
  | [d1, d2, d3] => { results := [.lit (.bool true)], args := [d1, d2, d3] }
  | _ => none }
def tokenKnownsRow : OpenClaim := { program := "ytnpmnfhmlnhepaa", sum := "86916494118b5beaecf0751c4535bf7548049c5cd614141fff4a35db9327acbf", func := "marquetry/marquetrylaw17.TokenKnowns", spec := "tokenKnowns", plainKeys := false, apart := false }
def TokenKnownsSaid : Prop := tokenKnownsRow.holds Try.pinned (OpenSpec.ofChange tokenKnownsSpec)

/-- ITS FALSE NEIGHBOUR: 'it returns false'. Refute it at one input. -/
def tokenKnownsWrong : ChangeSpec := { name := "tokenKnowns", fn := fun _ => fun
  | [d1, d2, d3] => { results := [.lit (.bool false)], args := [d1, d2, d3] }
  | _ => none }
def TokenKnownsWrongFalsely : Prop := tokenKnownsRow.holds Try.pinned (OpenSpec.ofChange tokenKnownsWrong)

/-- 'marquetrylaw17.TokenRuns': WHATEVER THE INPUT: true; the input reads as it did. -/
def tokenRunsSpec : ChangeSpec := { name := "tokenRuns", fn := fun _ => fun
  | [d1, d2] => { results := [.lit (.bool true)], args := [d1, d2] }
  | _ => none }
def tokenRunsRow : OpenClaim := { program := "ytnpmnfhmlnhepaa", sum := "86916494118b5beaecf0751c4535bf7548049c5cd614141fff4a35db9327acbf", func := "marquetry/marquetrylaw17.TokenRuns", spec := "tokenRuns", plainKeys := false, apart := false }
def TokenRunsSaid : Prop := tokenRunsRow.holds Try.pinned (OpenSpec.ofChange tokenRunsSpec)

/-- ITS FALSE NEIGHBOUR: 'it returns false'. Refute it at one input. -/
def tokenRunsWrong : ChangeSpec := { name := "tokenRuns", fn := fun _ => fun
  | [d1, d2] => { results := [.lit (.bool false)], args := [d1, d2] }
  | _ => none }
def TokenRunsWrongFalsely : Prop := tokenRunsRow.holds Try.pinned (OpenSpec.ofChange tokenRunsWrong)

/-- 'marquetrylaw17.TokenGreedy': WHATEVER THE INPUT: true; the input reads as it did. -/
def tokenGreedySpec : ChangeSpec := { name := "tokenGreedy", fn := fun _ => fun
  | [d1, d2] => { results := [.lit (.bool true)], args := [d1, d2] }
  | _ => none }
def tokenGreedyRow : OpenClaim := { program := "ytnpmnfhmlnhepaa", sum := "86916494118b5beaecf0751c4535bf7548049c5cd614141fff4a35db9327acbf", func := "marquetry/marquetrylaw17.TokenGreedy", spec := "tokenGreedy", unfollowed := true, recurses := true, plainKeys := false, apart := false }
def TokenGreedySaid : Prop := tokenGreedyRow.holds Try.pinned (OpenSpec.ofChange tokenGreedySpec)

/-- ITS FALSE NEIGHBOUR: 'it returns false'. Refute it at one input. -/
def tokenGreedyWrong : ChangeSpec := { name := "tokenGreedy", fn := fun _ => fun
  | [d1, d2] => { results := [.lit (.bool false)], args := [d1, d2] }
  | _ => none }
def TokenGreedyWrongFalsely : Prop := tokenGreedyRow.holds Try.pinned (OpenSpec.ofChange tokenGreedyWrong)

/- THE SECOND FORM. 'bulk': how many values and letters a reading holds, each counted each time it is reached (what is shared counts as often as it is met; a slice's spare places count too). A statement '..UptoSaid' is the law's where the arguments, and the package variables that the reading takes, are together of bulk at most 1048576: NARROWER than '..Said'. Prove '..Said' where nothing that the law and all that it calls make is longer than what came in: it says more and counts as full. Else prove '..UptoSaid'. A law counts once. -/
mutual
def uptoBulk {H : Type} : DataW H → Nat
  | .lit (.string bytes) => bytes.length + 1
  | .lit _ => 1
  | .nil => 1
  | .ptr d => uptoBulk d + 1
  | .slice elems spare => uptoBulkAll elems + uptoBulkAll spare + 1
  | .agg parts => uptoBulkAll parts + 1
  | .iface _ d => uptoBulk d + 1
  | .map entries => uptoBulkEntries entries + 1
  | .held _ => 1
def uptoBulkAll {H : Type} : List (DataW H) → Nat
  | [] => 0
  | d :: r => uptoBulk d + uptoBulkAll r
def uptoBulkEntries {H : Type} : List (Lit × DataW H) → Nat
  | [] => 0
  | x :: r => uptoBulkEntry x + uptoBulkEntries r
def uptoBulkEntry {H : Type} : Lit × DataW H → Nat
  | (.string bytes, d) => bytes.length + uptoBulk d + 1
  | (_, d) => uptoBulk d + 1
 end
def uptoSmall : (H : Type) → List (DataW H) → Bool := fun _ ds => decide (uptoBulkAll ds ≤ 1048576)
def OpenSpec.upto (s : _root_.Go.ChangeSpec) : _root_.Go.OpenSpec := { _root_.Go.OpenSpec.ofChange s with cond := some uptoSmall }

/-- 'marquetrylaw17.TokenExpands', WHERE WHAT IT READS IS OF BULK AT MOST 1048576: true; the input reads as it did. -/
def tokenExpandsUptoRow : OpenClaim := { program := "ytnpmnfhmlnhepaa", sum := "86916494118b5beaecf0751c4535bf7548049c5cd614141fff4a35db9327acbf", func := "marquetry/marquetrylaw17.TokenExpands", spec := "tokenExpands", plainKeys := false, apart := false, narrowed := true }
def TokenExpandsUptoSaid : Prop := tokenExpandsUptoRow.holds Try.pinned (OpenSpec.upto tokenExpandsSpec)

/-- 'marquetrylaw17.TokenCovers', WHERE WHAT IT READS IS OF BULK AT MOST 1048576: true; the input reads as it did. -/
def tokenCoversUptoRow : OpenClaim := { program := "ytnpmnfhmlnhepaa", sum := "86916494118b5beaecf0751c4535bf7548049c5cd614141fff4a35db9327acbf", func := "marquetry/marquetrylaw17.TokenCovers", spec := "tokenCovers", plainKeys := false, apart := false, narrowed := true }
def TokenCoversUptoSaid : Prop := tokenCoversUptoRow.holds Try.pinned (OpenSpec.upto tokenCoversSpec)

/-- 'marquetrylaw17.TokenKnowns', WHERE WHAT IT READS IS OF BULK AT MOST 1048576: true; the input reads as it did. -/
def tokenKnownsUptoRow : OpenClaim := { program := "ytnpmnfhmlnhepaa", sum := "86916494118b5beaecf0751c4535bf7548049c5cd614141fff4a35db9327acbf", func := "marquetry/marquetrylaw17.TokenKnowns", spec := "tokenKnowns", plainKeys := false, apart := false, narrowed := true }
def TokenKnownsUptoSaid : Prop := tokenKnownsUptoRow.holds Try.pinned (OpenSpec.upto tokenKnownsSpec)

/-- 'marquetrylaw17.TokenRuns', WHERE WHAT IT READS IS OF BULK AT MOST 1048576: true; the input reads as it did. -/
def tokenRunsUptoRow : OpenClaim := { program := "ytnpmnfhmlnhepaa", sum := "86916494118b5beaecf0751c4535bf7548049c5cd614141fff4a35db9327acbf", func := "marquetry/marquetrylaw17.TokenRuns", spec := "tokenRuns", plainKeys := false, apart := false, narrowed := true }
def TokenRunsUptoSaid : Prop := tokenRunsUptoRow.holds Try.pinned (OpenSpec.upto tokenRunsSpec)

/-- 'marquetrylaw17.TokenGreedy', WHERE WHAT IT READS IS OF BULK AT MOST 1048576: true; the input reads as it did. -/
def tokenGreedyUptoRow : OpenClaim := { program := "ytnpmnfhmlnhepaa", sum := "86916494118b5beaecf0751c4535bf7548049c5cd614141fff4a35db9327acbf", func := "marquetry/marquetrylaw17.TokenGreedy", spec := "tokenGreedy", unfollowed := true, recurses := true, plainKeys := false, apart := false, narrowed := true }
def TokenGreedyUptoSaid : Prop := tokenGreedyUptoRow.holds Try.pinned (OpenSpec.upto tokenGreedySpec)

end Rows
end Go.Proofs.Ytnpmnfhmlnhepaa
