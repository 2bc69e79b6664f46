/-
  No cell of these rows narrows 'for every input' (looked for: loops, veiled, ifaces, maps, wideKeys, modest, calm, conditions, laid).
  DERIVED. THE GIVEN ROWS OF THIS SEAT. 5 by the template 'for every input the law returns true; each argument reads behind the call as it read before'; 0 by the template 'total and deterministic' (their statements: YtfbkbbognabkkaaTotals.lean).
  GIVEN WITH THE SEED: the statements are not yours to turn. If you find one false, say at which input.
  Laid BY PROGRAM, IN A SANDBOX (cutbox-rows.mjs): the forced cells as the released guide's own fill.sh prints them over the translation 3d91331ee42f350b… (all of the seat's roots in one cut). By AI agents, Wed Nov 11 2026. No macro, syntax, notation, axiom, sorry.
-/
import Derived.Test.YtfbkbbognabkkaaChecked
import GoSem.Claim
import GoSem.ClaimJoined
import GoSem.ClaimMapViews
import Derived.JoinedTies
import Derived.KernelRfl
namespace Go.Proofs.Ytfbkbbognabkkaa
/- THE CELL 'sum', in the pinned program and in every row, IS THE sha256 OF THE DUMP (.gsa) THAT YtfbkbbognabkkaaProg.lean LOADS. Nothing in Lean hashes anything: it is a label: what it is worth is what the hold of that sum in a sandbox is worth. -/
noncomputable def Try.pinned : Pinned := { name := "ytfbkbbognabkkaa", sum := "3d91331ee42f350b58c7f5ebb6b7b493dc42df8d98b862fb1287b78852a30290", checked := Try.checked }
namespace Rows
def none {H : Type} : Left H := { results := [], args := [] }

/-- 'marquetrylaw24.ChunkReads': WHATEVER THE INPUT: true; the input reads as it did. -/
def chunkReadsSpec : ChangeSpec := { name := "chunkReads", fn := fun _ => fun
  | [d] => { results := [.lit (.bool true)], args := [d] }
  | _ => none }
def chunkReadsRow : OpenClaim := { program := "ytfbkbbognabkkaa", sum := "3d91331ee42f350b58c7f5ebb6b7b493dc42df8d98b862fb1287b78852a30290", func := "marquetry/marquetrylaw24.ChunkReads", spec := "chunkReads", apart := false }
def ChunkReadsSaid : Prop := chunkReadsRow.holds Try.pinned (OpenSpec.ofChange chunkReadsSpec)

/-- ITS FALSE NEIGHBOUR: 'it returns false'. Refute it at one input. -/
def chunkReadsWrong : ChangeSpec := { name := "chunkReads", fn := fun _ => fun
  | [d] => { results := [.lit (.bool false)], args := [d] }
  | _ => none }
def ChunkReadsWrongFalsely : Prop := chunkReadsRow.holds Try.pinned (OpenSpec.ofChange chunkReadsWrong)

/-- 'marquetrylaw24.ChunkBack': WHATEVER THE INPUT: true; the input reads as it did. -/
def chunkBackSpec : ChangeSpec := { name := "chunkBack", fn := fun _ => fun
  | [d1, d2] => { results := [.lit (.bool true)], args := [d1, d2] }
  | _ => none }
def chunkBackRow : OpenClaim := { program := "ytfbkbbognabkkaa", sum := "3d91331ee42f350b58c7f5ebb6b7b493dc42df8d98b862fb1287b78852a30290", func := "marquetry/marquetrylaw24.ChunkBack", spec := "chunkBack", apart := false }
def ChunkBackSaid : Prop := chunkBackRow.holds Try.pinned (OpenSpec.ofChange chunkBackSpec)

/-- ITS FALSE NEIGHBOUR: 'it returns false'. Refute it at one input. -/
def chunkBackWrong : ChangeSpec := { name := "chunkBack", fn := fun _ => fun
  | [d1, d2] => { results := [.lit (.bool false)], args := [d1, d2] }
  | _ => none }
def ChunkBackWrongFalsely : Prop := chunkBackRow.holds Try.pinned (OpenSpec.ofChange chunkBackWrong)

/-- 'marquetrylaw24.ChunkCut': WHATEVER THE INPUT: true; the input reads as it did. -/
def chunkCutSpec : ChangeSpec := { name := "chunkCut", fn := fun _ => fun
  | [d1, d2] => { results := [.lit (.bool true)], args := [d1, d2] }
  | _ => none }
def chunkCutRow : OpenClaim := { program := "ytfbkbbognabkkaa", sum := "3d91331ee42f350b58c7f5ebb6b7b493dc42df8d98b862fb1287b78852a30290", func := "marquetry/marquetrylaw24.ChunkCut", spec := "chunkCut", apart := false }
def ChunkCutSaid : Prop := chunkCutRow.holds Try.pinned (OpenSpec.ofChange chunkCutSpec)

/-- ITS FALSE NEIGHBOUR: 'it returns false'. Refute it at one input. -/
def chunkCutWrong : ChangeSpec := { name := "chunkCut", fn := fun _ => fun
  | [d1, d2] => { results := [.lit (.bool false)], args := [d1, d2] }
  | _ => none }
def ChunkCutWrongFalsely : Prop := chunkCutRow.holds Try.pinned (OpenSpec.ofChange chunkCutWrong)

/-- 'marquetrylaw24.ChunkJoins': WHATEVER THE INPUT: true; the input reads as it did. -/
def chunkJoinsSpec : ChangeSpec := { name := "chunkJoins", fn := fun _ => fun
  | [d1, d2] => { results := [.lit (.bool true)], args := [d1, d2] }
  | _ => none }
def chunkJoinsRow : OpenClaim := { program := "ytfbkbbognabkkaa", sum := "3d91331ee42f350b58c7f5ebb6b7b493dc42df8d98b862fb1287b78852a30290", func := "marquetry/marquetrylaw24.ChunkJoins", spec := "chunkJoins", apart := false }
def ChunkJoinsSaid : Prop := chunkJoinsRow.holds Try.pinned (OpenSpec.ofChange chunkJoinsSpec)

/-- ITS FALSE NEIGHBOUR: 'it returns false'. Refute it at one input. -/
def chunkJoinsWrong : ChangeSpec := { name := "chunkJoins", fn := fun _ => fun
  | [d1, d2] => { results := [.lit (.bool false)], args := [d1, d2] }
  | _ => none }
def ChunkJoinsWrongFalsely : Prop := chunkJoinsRow.holds Try.pinned (OpenSpec.ofChange chunkJoinsWrong)

/-- 'marquetrylaw24.ChunkPads': WHATEVER THE INPUT: true; the input reads as it did. -/
def chunkPadsSpec : ChangeSpec := { name := "chunkPads", fn := fun _ => fun
  | [d1, d2] => { results := [.lit (.bool true)], args := [d1, d2] }
  | _ => none }
def chunkPadsRow : OpenClaim := { program := "ytfbkbbognabkkaa", sum := "3d91331ee42f350b58c7f5ebb6b7b493dc42df8d98b862fb1287b78852a30290", func := "marquetry/marquetrylaw24.ChunkPads", spec := "chunkPads", apart := false }
def ChunkPadsSaid : Prop := chunkPadsRow.holds Try.pinned (OpenSpec.ofChange chunkPadsSpec)

/-- ITS FALSE NEIGHBOUR: 'it returns false'. Refute it at one input. -/
def chunkPadsWrong : ChangeSpec := { name := "chunkPads", fn := fun _ => fun
  | [d1, d2] => { results := [.lit (.bool false)], args := [d1, d2] }
  | _ => none }
def ChunkPadsWrongFalsely : Prop := chunkPadsRow.holds Try.pinned (OpenSpec.ofChange chunkPadsWrong)

/- THE SECOND FORM. 'bulk': how many values and letters a reading holds, each counted each time it is reached (what is shared counts as often as it is met; a slice's spare places count too). A statement '..UptoSaid' is the law's where the arguments, and the package variables that the reading takes, are together of bulk at most 1048576: NARROWER than '..Said'. Prove '..Said' where nothing that the law and all that it calls make is longer than what came in: it says more and counts as full. Else prove '..UptoSaid'. A law counts once. -/
mutual
def uptoBulk {H : Type} : DataW H → Nat
  | .lit (.string bytes) => bytes.length + 1
  | .lit _ => 1
  | .nil => 1
  | .ptr d => uptoBulk d + 1
  | .slice elems spare => uptoBulkAll elems + uptoBulkAll spare + 1
  | .agg parts => uptoBulkAll parts + 1
  | .iface _ d => uptoBulk d + 1
  | .map entries => uptoBulkEntries entries + 1
  | .held _ => 1
def uptoBulkAll {H : Type} : List (DataW H) → Nat
  | [] => 0
  | d :: r => uptoBulk d + uptoBulkAll r
def uptoBulkEntries {H : Type} : List (Lit × DataW H) → Nat
  | [] => 0
  | x :: r => uptoBulkEntry x + uptoBulkEntries r
def uptoBulkEntry {H : Type} : Lit × DataW H → Nat
  | (.string bytes, d) => bytes.length + uptoBulk d + 1
  | (_, d) => uptoBulk d + 1
 end
def uptoSmall : (H : Type) → List (DataW H) → Bool := fun _ ds => decide (uptoBulkAll ds ≤ 1048576)
def OpenSpec.upto (s : _root_.Go.ChangeSpec) : _root_.Go.OpenSpec := { _root_.Go.OpenSpec.ofChange s with cond := some uptoSmall }

/-- 'marquetrylaw24.ChunkReads', WHERE WHAT IT READS IS OF BULK AT MOST 1048576: true; the input reads as it did. -/
def chunkReadsUptoRow : OpenClaim := { program := "ytfbkbbognabkkaa", sum := "3d91331ee42f350b58c7f5ebb6b7b493dc42df8d98b862fb1287b78852a30290", func := "marquetry/marquetrylaw24.ChunkReads", spec := "chunkReads", apart := false, narrowed := true }
def ChunkReadsUptoSaid : Prop := chunkReadsUptoRow.holds Try.pinned (OpenSpec.upto chunkReadsSpec)

/-- 'marquetrylaw24.ChunkBack', WHERE WHAT IT READS IS OF BULK AT MOST 1048576: true; the input reads as it did. -/
def chunkBackUptoRow : OpenClaim := { program := "ytfbkbbognabkkaa", sum := "3d91331ee42f350b58c7f5ebb6b7b493dc42df8d98b862fb1287b78852a30290", func := "marquetry/marquetrylaw24.ChunkBack", spec := "chunkBack", apart := false, narrowed := true }
def ChunkBackUptoSaid : Prop := chunkBackUptoRow.holds Try.pinned (OpenSpec.upto chunkBackSpec)

/-- 'marquetrylaw24.ChunkCut', WHERE WHAT IT READS IS OF BULK AT MOST 1048576: true; the input reads as it did. -/
def chunkCutUptoRow : OpenClaim := { program := "ytfbkbbognabkkaa", sum := "3d91331ee42f350b58c7f5ebb6b7b493dc42df8d98b862fb1287b78852a30290", func := "marquetry/marquetrylaw24.ChunkCut", spec := "chunkCut", apart := false, narrowed := true }
def ChunkCutUptoSaid : Prop := chunkCutUptoRow.holds Try.pinned (OpenSpec.upto chunkCutSpec)

/-- 'marquetrylaw24.ChunkJoins', WHERE WHAT IT READS IS OF BULK AT MOST 1048576: true; the input reads as it did. -/
def chunkJoinsUptoRow : OpenClaim := { program := "ytfbkbbognabkkaa", sum := "3d91331ee42f350b58c7f5ebb6b7b493dc42df8d98b862fb1287b78852a30290", func := "marquetry/marquetrylaw24.ChunkJoins", spec := "chunkJoins", apart := false, narrowed := true }
def ChunkJoinsUptoSaid : Prop := chunkJoinsUptoRow.holds Try.pinned (OpenSpec.upto chunkJoinsSpec)

/-- 'marquetrylaw24.ChunkPads', WHERE WHAT IT READS IS OF BULK AT MOST 1048576: true; the input reads as it did. -/
def chunkPadsUptoRow : OpenClaim := { program := "ytfbkbbognabkkaa", sum := "3d91331ee42f350b58c7f5ebb6b7b493dc42df8d98b862fb1287b78852a30290", func := "marquetry/marquetrylaw24.ChunkPads", spec := "chunkPads", apart := false, narrowed := true }
def ChunkPadsUptoSaid : Prop := chunkPadsUptoRow.holds Try.pinned (OpenSpec.upto chunkPadsSpec)

end Rows
end Go.Proofs.Ytfbkbbognabkkaa
