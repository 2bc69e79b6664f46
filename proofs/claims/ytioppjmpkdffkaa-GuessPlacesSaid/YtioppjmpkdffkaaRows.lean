/-
  No cell of these rows narrows 'for every input' (looked for: loops, veiled, ifaces, maps, wideKeys, modest, calm, conditions, laid).
  DERIVED. THE GIVEN ROWS OF THIS SEAT. 4 by the template 'for every input the law returns true; each argument reads behind the call as it read before'; 0 by the template 'total and deterministic' (their statements: YtioppjmpkdffkaaTotals.lean).
  GIVEN WITH THE SEED: the statements are not yours to turn. If you find one false, say at which input.
  Laid BY PROGRAM, IN A SANDBOX (cutbox-rows.mjs): the forced cells as the released guide's own fill.sh prints them over the translation 5bbb681bf783626f… (all of the seat's roots in one cut). By AI agents, Wed Nov 11 2026. No macro, syntax, notation, axiom, sorry.
-/
import Derived.Test.YtioppjmpkdffkaaChecked
import GoSem.Claim
import GoSem.ClaimJoined
import GoSem.ClaimMapViews
import Derived.JoinedTies
import Derived.KernelRfl
namespace Go.Proofs.Ytioppjmpkdffkaa
/- THE CELL 'sum', in the pinned program and in every row, IS THE sha256 OF THE DUMP (.gsa) THAT YtioppjmpkdffkaaProg.lean LOADS. Nothing in Lean hashes anything: it is a label: what it is worth is what the hold of that sum in a sandbox is worth. -/
noncomputable def Try.pinned : Pinned := { name := "ytioppjmpkdffkaa", sum := "5bbb681bf783626fc7b19d2218f0d8e102066747980929f1516258c61106d415", checked := Try.checked }
namespace Rows
def none {H : Type} : Left H := { results := [], args := [] }

/-- 'marquetrylaw12.GuessModes': WHATEVER THE INPUT: true; the input reads as it did. -/
def guessModesSpec : ChangeSpec := { name := "guessModes", fn := fun _ => fun
  | [d1, d2, d3, d4, d5] => { results := [.lit (.bool true)], args := [d1, d2, d3, d4, d5] }
  | _ => none }
def guessModesRow : OpenClaim := { program := "ytioppjmpkdffkaa", sum := "5bbb681bf783626fc7b19d2218f0d8e102066747980929f1516258c61106d415", func := "marquetry/marquetrylaw12.GuessModes", spec := "guessModes", unfollowed := true, recurses := true, apart := false }
def GuessModesSaid : Prop := guessModesRow.holds Try.pinned (OpenSpec.ofChange guessModesSpec)

/-- ITS FALSE NEIGHBOUR: 'it returns false'. Refute it at one input. -/
def guessModesWrong : ChangeSpec := { name := "guessModes", fn := fun _ => fun
  | [d1, d2, d3, d4, d5] => { results := [.lit (.bool false)], args := [d1, d2, d3, d4, d5] }
  | _ => none }
def GuessModesWrongFalsely : Prop := guessModesRow.holds Try.pinned (OpenSpec.ofChange guessModesWrong)

/-- 'marquetrylaw12.GuessFlat': WHATEVER THE INPUT: true; the input reads as it did. -/
def guessFlatSpec : ChangeSpec := { name := "guessFlat", fn := fun _ => fun
  | [d1, d2] => { results := [.lit (.bool true)], args := [d1, d2] }
  | _ => none }
def guessFlatRow : OpenClaim := { program := "ytioppjmpkdffkaa", sum := "5bbb681bf783626fc7b19d2218f0d8e102066747980929f1516258c61106d415", func := "marquetry/marquetrylaw12.GuessFlat", spec := "guessFlat", unfollowed := true, recurses := true, apart := false }
def GuessFlatSaid : Prop := guessFlatRow.holds Try.pinned (OpenSpec.ofChange guessFlatSpec)

/-- ITS FALSE NEIGHBOUR: 'it returns false'. Refute it at one input. -/
def guessFlatWrong : ChangeSpec := { name := "guessFlat", fn := fun _ => fun
  | [d1, d2] => { results := [.lit (.bool false)], args := [d1, d2] }
  | _ => none }
def GuessFlatWrongFalsely : Prop := guessFlatRow.holds Try.pinned (OpenSpec.ofChange guessFlatWrong)

/-- 'marquetrylaw12.GuessAhead': WHATEVER THE INPUT: true; the input reads as it did. -/
def guessAheadSpec : ChangeSpec := { name := "guessAhead", fn := fun _ => fun
  | [d1, d2, d3, d4] => { results := [.lit (.bool true)], args := [d1, d2, d3, d4] }
  | _ => none }
def guessAheadRow : OpenClaim := { program := "ytioppjmpkdffkaa", sum := "5bbb681bf783626fc7b19d2218f0d8e102066747980929f1516258c61106d415", func := "marquetry/marquetrylaw12.GuessAhead", spec := "guessAhead", unfollowed := true, recurses := true, apart := false }
def GuessAheadSaid : Prop := guessAheadRow.holds Try.pinned (OpenSpec.ofChange guessAheadSpec)

/-- ITS FALSE NEIGHBOUR: 'it returns false'. Refute it at one input. -/
def guessAheadWrong : ChangeSpec := { name := "guessAhead", fn := fun _ => fun
  | [d1, d2, d3, d4] => { results := [.lit (.bool false)], args := [d1, d2, d3, d4] }
  | _ => none }
def GuessAheadWrongFalsely : Prop := guessAheadRow.holds Try.pinned (OpenSpec.ofChange guessAheadWrong)

/-- 'marquetrylaw12.GuessPlaces': WHATEVER THE INPUT: true; the input reads as it did. -/
def guessPlacesSpec : ChangeSpec := { name := "guessPlaces", fn := fun _ => fun
  | [d1, d2, d3, d4] => { results := [.lit (.bool true)], args := [d1, d2, d3, d4] }
  | _ => none }
def guessPlacesRow : OpenClaim := { program := "ytioppjmpkdffkaa", sum := "5bbb681bf783626fc7b19d2218f0d8e102066747980929f1516258c61106d415", func := "marquetry/marquetrylaw12.GuessPlaces", spec := "guessPlaces", unfollowed := true, recurses := true, apart := false }
def GuessPlacesSaid : Prop := guessPlacesRow.holds Try.pinned (OpenSpec.ofChange guessPlacesSpec)

/-- ITS FALSE NEIGHBOUR: 'it returns false'. Refute it at one input. -/
def guessPlacesWrong : ChangeSpec := { name := "guessPlaces", fn := fun _ => fun
  | [d1, d2, d3, d4] => { results := [.lit (.bool false)], args := [d1, d2, d3, d4] }
  | _ => none }
def GuessPlacesWrongFalsely : Prop := guessPlacesRow.holds Try.pinned (OpenSpec.ofChange guessPlacesWrong)

/- THE SECOND FORM. 'bulk': how many values and letters a reading holds, each counted each time it is reached (what is shared counts as often as it is met; a slice's spare places count too). A statement '..UptoSaid' is the law's where the arguments, and the package variables that the reading takes, are together of bulk at most 1048576: NARROWER than '..Said'. Prove '..Said' where nothing that the law and all that it calls make is longer than what came in: it says more and counts as full. Else prove '..UptoSaid'. A law counts once. -/
mutual
def uptoBulk {H : Type} : DataW H → Nat
  | .lit (.string bytes) => bytes.length + 1
  | .lit _ => 1
  | .nil => 1
  | .ptr d => uptoBulk d + 1
  | .slice elems spare => uptoBulkAll elems + uptoBulkAll spare + 1
  | .agg parts => uptoBulkAll parts + 1
  | .iface _ d => uptoBulk d + 1
  | .map entries => uptoBulkEntries entries + 1
  | .held _ => 1
def uptoBulkAll {H : Type} : List (DataW H) → Nat
  | [] => 0
  | d :: r => uptoBulk d + uptoBulkAll r
def uptoBulkEntries {H : Type} : List (Lit × DataW H) → Nat
  | [] => 0
  | x :: r => uptoBulkEntry x + uptoBulkEntries r
def uptoBulkEntry {H : Type} : Lit × DataW H → Nat
  | (.string bytes, d) => bytes.length + uptoBulk d + 1
  | (_, d) => uptoBulk d + 1
 end
def uptoSmall : (H : Type) → List (DataW H) → Bool := fun _ ds => decide (uptoBulkAll ds ≤ 1048576)
def OpenSpec.upto (s : _root_.Go.ChangeSpec) : _root_.Go.OpenSpec := { _root_.Go.OpenSpec.ofChange s with cond := some uptoSmall }

/-- 'marquetrylaw12.GuessModes', WHERE WHAT IT READS IS OF BULK AT MOST 1048576: true; the input reads as it did. -/
def guessModesUptoRow : OpenClaim := { program := "ytioppjmpkdffkaa", sum := "5bbb681bf783626fc7b19d2218f0d8e102066747980929f1516258c61106d415", func := "marquetry/marquetrylaw12.GuessModes", spec := "guessModes", unfollowed := true, recurses := true, apart := false, narrowed := true }
def GuessModesUptoSaid : Prop := guessModesUptoRow.holds Try.pinned (OpenSpec.upto guessModesSpec)

/-- 'marquetrylaw12.GuessFlat', WHERE WHAT IT READS IS OF BULK AT MOST 1048576: true; the input reads as it did. -/
def guessFlatUptoRow : OpenClaim := { program := "ytioppjmpkdffkaa", sum := "5bbb681bf783626fc7b19d2218f0d8e102066747980929f1516258c61106d415", func := "marquetry/marquetrylaw12.GuessFlat", spec := "guessFlat", unfollowed := true, recurses := true, apart := false, narrowed := true }
def GuessFlatUptoSaid : Prop := guessFlatUptoRow.holds Try.pinned (OpenSpec.upto guessFlatSpec)

/-- 'marquetrylaw12.GuessAhead', WHERE WHAT IT READS IS OF BULK AT MOST 1048576: true; the input reads as it did. -/
def guessAheadUptoRow : OpenClaim := { program := "ytioppjmpkdffkaa", sum := "5bbb681bf783626fc7b19d2218f0d8e102066747980929f1516258c61106d415", func := "marquetry/marquetrylaw12.GuessAhead", spec := "guessAhead", unfollowed := true, recurses := true, apart := false, narrowed := true }
def GuessAheadUptoSaid : Prop := guessAheadUptoRow.holds Try.pinned (OpenSpec.upto guessAheadSpec)

/-- 'marquetrylaw12.GuessPlaces', WHERE WHAT IT READS IS OF BULK AT MOST 1048576: true; the input reads as it did. -/
def guessPlacesUptoRow : OpenClaim := { program := "ytioppjmpkdffkaa", sum := "5bbb681bf783626fc7b19d2218f0d8e102066747980929f1516258c61106d415", func := "marquetry/marquetrylaw12.GuessPlaces", spec := "guessPlaces", unfollowed := true, recurses := true, apart := false, narrowed := true }
def GuessPlacesUptoSaid : Prop := guessPlacesUptoRow.holds Try.pinned (OpenSpec.upto guessPlacesSpec)

end Rows
end Go.Proofs.Ytioppjmpkdffkaa
