/-
  No cell of these rows narrows 'for every input' (looked for: loops, veiled, ifaces, maps, wideKeys, modest, calm, conditions, laid).
  DERIVED. THE GIVEN ROWS OF THIS SEAT. 6 by the template 'for every input the law returns true; each argument reads behind the call as it read before'; 0 by the template 'total and deterministic' (their statements: YthkocpcjcpohcaaTotals.lean).
  GIVEN WITH THE SEED: the statements are not yours to turn. If you find one false, say at which input.
  Laid BY PROGRAM, IN A SANDBOX (cutbox-rows.mjs): the forced cells as the released guide's own fill.sh prints them over the translation 4ddb1aeed555ffaf… (all of the seat's roots in one cut). By AI agents, Wed Nov 11 2026. No macro, syntax, notation, axiom, sorry.
-/
import Derived.Test.YthkocpcjcpohcaaChecked
import GoSem.Claim
import GoSem.ClaimJoined
import GoSem.ClaimMapViews
import Derived.JoinedTies
import Derived.KernelRfl
namespace Go.Proofs.Ythkocpcjcpohcaa
/- THE CELL 'sum', in the pinned program and in every row, IS THE sha256 OF THE DUMP (.gsa) THAT YthkocpcjcpohcaaProg.lean LOADS. Nothing in Lean hashes anything: it is a label: what it is worth is what the hold of that sum in a sandbox is worth. -/
noncomputable def Try.pinned : Pinned := { name := "ythkocpcjcpohcaa", sum := "4ddb1aeed555ffafb37809d51cb15ac899503a1ed321eebb1e11c024c9dd8e0c", checked := Try.checked }
namespace Rows
def none {H : Type} : Left H := { results := [], args := [] }

/-- 'marquetrylaw25.BoxBack': WHATEVER THE INPUT: true; the input reads as it did. -/
def boxBackSpec : ChangeSpec := { name := "boxBack", fn := fun _ => fun
  | [d] => { results := [.lit (.bool true)], args := [d] }
  | _ => none }
def boxBackRow : OpenClaim := { program := "ythkocpcjcpohcaa", sum := "4ddb1aeed555ffafb37809d51cb15ac899503a1ed321eebb1e11c024c9dd8e0c", func := "marquetry/marquetrylaw25.BoxBack", spec := "boxBack", unfollowed := true, recurses := true, apart := false }
def BoxBackSaid : Prop := boxBackRow.holds Try.pinned (OpenSpec.ofChange boxBackSpec)

/-- ITS FALSE NEIGHBOUR: 'it returns false'. Refute it at one input. -/
def boxBackWrong : ChangeSpec := { name := "boxBack", fn := fun _ => fun
  | [d] => { results := [.lit (.bool false)], args := [d] }
  | _ => none }
def BoxBackWrongFalsely : Prop := boxBackRow.holds Try.pinned (OpenSpec.ofChange boxBackWrong)

/-- 'marquetrylaw25.BoxSame': WHATEVER THE INPUT: true; the input reads as it did. -/
def boxSameSpec : ChangeSpec := { name := "boxSame", fn := fun _ => fun
  | [d1, d2] => { results := [.lit (.bool true)], args := [d1, d2] }
  | _ => none }
def boxSameRow : OpenClaim := { program := "ythkocpcjcpohcaa", sum := "4ddb1aeed555ffafb37809d51cb15ac899503a1ed321eebb1e11c024c9dd8e0c", func := "marquetry/marquetrylaw25.BoxSame", spec := "boxSame", unfollowed := true, recurses := true, apart := false }
def BoxSameSaid : Prop := boxSameRow.holds Try.pinned (OpenSpec.ofChange boxSameSpec)

/-- ITS FALSE NEIGHBOUR: 'it returns false'. Refute it at one input. -/
def boxSameWrong : ChangeSpec := { name := "boxSame", fn := fun _ => fun
  | [d1, d2] => { results := [.lit (.bool false)], args := [d1, d2] }
  | _ => none }
def BoxSameWrongFalsely : Prop := boxSameRow.holds Try.pinned (OpenSpec.ofChange boxSameWrong)

/-- 'marquetrylaw25.BoxTurned': WHATEVER THE INPUT: true; the input reads as it did. -/
def boxTurnedSpec : ChangeSpec := { name := "boxTurned", fn := fun _ => fun
  | [d1, d2, d3] => { results := [.lit (.bool true)], args := [d1, d2, d3] }
  | _ => none }
def boxTurnedRow : OpenClaim := { program := "ythkocpcjcpohcaa", sum := "4ddb1aeed555ffafb37809d51cb15ac899503a1ed321eebb1e11c024c9dd8e0c", func := "marquetry/marquetrylaw25.BoxTurned", spec := "boxTurned", unfollowed := true, recurses := true, apart := false }
def BoxTurnedSaid : Prop := boxTurnedRow.holds Try.pinned (OpenSpec.ofChange boxTurnedSpec)

/-- ITS FALSE NEIGHBOUR: 'it returns false'. Refute it at one input. -/
def boxTurnedWrong : ChangeSpec := { name := "boxTurned", fn := fun _ => fun
  | [d1, d2, d3] => { results := [.lit (.bool false)], args := [d1, d2, d3] }
  | _ => none }
def BoxTurnedWrongFalsely : Prop := boxTurnedRow.holds Try.pinned (OpenSpec.ofChange boxTurnedWrong)

/-- 'marquetrylaw25.BoxPlain': WHATEVER THE INPUT: true; the input reads as it did. -/
def boxPlainSpec : ChangeSpec := { name := "boxPlain", fn := fun _ => fun
  | [d1, d2] => { results := [.lit (.bool true)], args := [d1, d2] }
  | _ => none }
def boxPlainRow : OpenClaim := { program := "ythkocpcjcpohcaa", sum := "4ddb1aeed555ffafb37809d51cb15ac899503a1ed321eebb1e11c024c9dd8e0c", func := "marquetry/marquetrylaw25.BoxPlain", spec := "boxPlain", unfollowed := true, recurses := true, apart := false }
def BoxPlainSaid : Prop := boxPlainRow.holds Try.pinned (OpenSpec.ofChange boxPlainSpec)

/-- ITS FALSE NEIGHBOUR: 'it returns false'. Refute it at one input. -/
def boxPlainWrong : ChangeSpec := { name := "boxPlain", fn := fun _ => fun
  | [d1, d2] => { results := [.lit (.bool false)], args := [d1, d2] }
  | _ => none }
def BoxPlainWrongFalsely : Prop := boxPlainRow.holds Try.pinned (OpenSpec.ofChange boxPlainWrong)

/-- 'marquetrylaw25.BoxOrders': WHATEVER THE INPUT: true; the input reads as it did. -/
def boxOrdersSpec : ChangeSpec := { name := "boxOrders", fn := fun _ => fun
  | [d1, d2, d3] => { results := [.lit (.bool true)], args := [d1, d2, d3] }
  | _ => none }
def boxOrdersRow : OpenClaim := { program := "ythkocpcjcpohcaa", sum := "4ddb1aeed555ffafb37809d51cb15ac899503a1ed321eebb1e11c024c9dd8e0c", func := "marquetry/marquetrylaw25.BoxOrders", spec := "boxOrders", unfollowed := true, recurses := true, apart := false }
def BoxOrdersSaid : Prop := boxOrdersRow.holds Try.pinned (OpenSpec.ofChange boxOrdersSpec)

/-- ITS FALSE NEIGHBOUR: 'it returns false'. Refute it at one input. -/
def boxOrdersWrong : ChangeSpec := { name := "boxOrders", fn := fun _ => fun
  | [d1, d2, d3] => { results := [.lit (.bool false)], args := [d1, d2, d3] }
  | _ => none }
def BoxOrdersWrongFalsely : Prop := boxOrdersRow.holds Try.pinned (OpenSpec.ofChange boxOrdersWrong)

/-- 'marquetrylaw25.BoxLimits': WHATEVER THE INPUT: true; the input reads as it did. -/
def boxLimitsSpec : ChangeSpec := { name := "boxLimits", fn := fun _ => fun
  | [d1, d2] => { results := [.lit (.bool true)], args := [d1, d2] }
  | _ => none }
def boxLimitsRow : OpenClaim := { program := "ythkocpcjcpohcaa", sum := "4ddb1aeed555ffafb37809d51cb15ac899503a1ed321eebb1e11c024c9dd8e0c", func := "marquetry/marquetrylaw25.BoxLimits", spec := "boxLimits", unfollowed := true, recurses := true, apart := false }
def BoxLimitsSaid : Prop := boxLimitsRow.holds Try.pinned (OpenSpec.ofChange boxLimitsSpec)

/-- ITS FALSE NEIGHBOUR: 'it returns false'. Refute it at one input. -/
def boxLimitsWrong : ChangeSpec := { name := "boxLimits", fn := fun _ => fun
  | [d1, d2] => { results := [.lit (.bool false)], args := [d1, d2] }
  | _ => none }
def BoxLimitsWrongFalsely : Prop := boxLimitsRow.holds Try.pinned (OpenSpec.ofChange boxLimitsWrong)

/- THE SECOND FORM. 'bulk': how many values and letters a reading holds, each counted each time it is reached (what is shared counts as often as it is met; a slice's spare places count too). A statement '..UptoSaid' is the law's where the arguments, and the package variables that the reading takes, are together of bulk at most 1048576: NARROWER than '..Said'. Prove '..Said' where nothing that the law and all that it calls make is longer than what came in: it says more and counts as full. Else prove '..UptoSaid'. A law counts once. -/
mutual
def uptoBulk {H : Type} : DataW H → Nat
  | .lit (.string bytes) => bytes.length + 1
  | .lit _ => 1
  | .nil => 1
  | .ptr d => uptoBulk d + 1
  | .slice elems spare => uptoBulkAll elems + uptoBulkAll spare + 1
  | .agg parts => uptoBulkAll parts + 1
  | .iface _ d => uptoBulk d + 1
  | .map entries => uptoBulkEntries entries + 1
  | .held _ => 1
def uptoBulkAll {H : Type} : List (DataW H) → Nat
  | [] => 0
  | d :: r => uptoBulk d + uptoBulkAll r
def uptoBulkEntries {H : Type} : List (Lit × DataW H) → Nat
  | [] => 0
  | x :: r => uptoBulkEntry x + uptoBulkEntries r
def uptoBulkEntry {H : Type} : Lit × DataW H → Nat
  | (.string bytes, d) => bytes.length + uptoBulk d + 1
  | (_, d) => uptoBulk d + 1
 end
def uptoSmall : (H : Type) → List (DataW H) → Bool := fun _ ds => decide (uptoBulkAll ds ≤ 1048576)
def OpenSpec.upto (s : _root_.Go.ChangeSpec) : _root_.Go.OpenSpec := { _root_.Go.OpenSpec.ofChange s with cond := some uptoSmall }

/-- 'marquetrylaw25.BoxBack', WHERE WHAT IT READS IS OF BULK AT MOST 1048576: true; the input reads as it did. -/
def boxBackUptoRow : OpenClaim := { program := "ythkocpcjcpohcaa", sum := "4ddb1aeed555ffafb37809d51cb15ac899503a1ed321eebb1e11c024c9dd8e0c", func := "marquetry/marquetrylaw25.BoxBack", spec := "boxBack", unfollowed := true, recurses := true, apart := false, narrowed := true }
def BoxBackUptoSaid : Prop := boxBackUptoRow.holds Try.pinned (OpenSpec.upto boxBackSpec)

/-- 'marquetrylaw25.BoxSame', WHERE WHAT IT READS IS OF BULK AT MOST 1048576: true; the input reads as it did. -/
def boxSameUptoRow : OpenClaim := { program := "ythkocpcjcpohcaa", sum := "4ddb1aeed555ffafb37809d51cb15ac899503a1ed321eebb1e11c024c9dd8e0c", func := "marquetry/marquetrylaw25.BoxSame", spec := "boxSame", unfollowed := true, recurses := true, apart := false, narrowed := true }
def BoxSameUptoSaid : Prop := boxSameUptoRow.holds Try.pinned (OpenSpec.upto boxSameSpec)

/-- 'marquetrylaw25.BoxTurned', WHERE WHAT IT READS IS OF BULK AT MOST 1048576: true; the input reads as it did. -/
def boxTurnedUptoRow : OpenClaim := { program := "ythkocpcjcpohcaa", sum := "4ddb1aeed555ffafb37809d51cb15ac899503a1ed321eebb1e11c024c9dd8e0c", func := "marquetry/marquetrylaw25.BoxTurned", spec := "boxTurned", unfollowed := true, recurses := true, apart := false, narrowed := true }
def BoxTurnedUptoSaid : Prop := boxTurnedUptoRow.holds Try.pinned (OpenSpec.upto boxTurnedSpec)

/-- 'marquetrylaw25.BoxPlain', WHERE WHAT IT READS IS OF BULK AT MOST 1048576: true; the input reads as it did. -/
def boxPlainUptoRow : OpenClaim := { program := "ythkocpcjcpohcaa", sum := "4ddb1aeed555ffafb37809d51cb15ac899503a1ed321eebb1e11c024c9dd8e0c", func := "marquetry/marquetrylaw25.BoxPlain", spec := "boxPlain", unfollowed := true, recurses := true, apart := false, narrowed := true }
def BoxPlainUptoSaid : Prop := boxPlainUptoRow.holds Try.pinned (OpenSpec.upto boxPlainSpec)

/-- 'marquetrylaw25.BoxOrders', WHERE WHAT IT READS IS OF BULK AT MOST 1048576: true; the input reads as it did. -/
def boxOrdersUptoRow : OpenClaim := { program := "ythkocpcjcpohcaa", sum := "4ddb1aeed555ffafb37809d51cb15ac899503a1ed321eebb1e11c024c9dd8e0c", func := "marquetry/marquetrylaw25.BoxOrders", spec := "boxOrders", unfollowed := true, recurses := true, apart := false, narrowed := true }
def BoxOrdersUptoSaid : Prop := boxOrdersUptoRow.holds Try.pinned (OpenSpec.upto boxOrdersSpec)

/-- 'marquetrylaw25.BoxLimits', WHERE WHAT IT READS IS OF BULK AT MOST 1048576: true; the input reads as it did. -/
def boxLimitsUptoRow : OpenClaim := { program := "ythkocpcjcpohcaa", sum := "4ddb1aeed555ffafb37809d51cb15ac899503a1ed321eebb1e11c024c9dd8e0c", func := "marquetry/marquetrylaw25.BoxLimits", spec := "boxLimits", unfollowed := true, recurses := true, apart := false, narrowed := true }
def BoxLimitsUptoSaid : Prop := boxLimitsUptoRow.holds Try.pinned (OpenSpec.upto boxLimitsSpec)

end Rows
end Go.Proofs.Ythkocpcjcpohcaa
