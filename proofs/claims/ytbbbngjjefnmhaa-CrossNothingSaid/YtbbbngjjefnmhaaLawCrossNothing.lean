-- Printed by mp.py (our own program over the kit's printer) out of the translation.
import Derived.Test.YtbbbngjjefnmhaaRows
import Derived.Test.YtbbbngjjefnmhaaPx6
import Derived.Test.YtbbbngjjefnmhaaPureCrossNothing
import Derived.Test.YtbbbngjjefnmhaaOpen
import Derived.WalkKit
import Derived.ProofKit
import Derived.OpenShut
import Derived.ShutString
import Derived.ChangeOld
import Derived.Below
import Derived.SizedLaws
namespace Go.Proofs.Ytbbbngjjefnmhaa.crossNothing
open Go.ChangeShapes Go.WideShapes Go.ChangeAt Go.RowKit Go.Proofs.Ytbbbngjjefnmhaa Go.Proofs.Ytbbbngjjefnmhaa.P Go.Proofs.YtbbbngjjefnmhaaW.PrintWords
open Go.ChangeMaps (open_string shut_string)
set_option linter.unusedVariables false
set_option linter.unusedSimpArgs false
theorem own : ownKnob Try.prog.godebug = none := by kernel_rfl
theorem laidOut : laidOutB Try.prog = true := by kernel_rfl
set_option maxRecDepth 100000 in
set_option maxHeartbeats 1000000 in
theorem lifted (os : Os) (started : os.Started) (H : Type) (enc : TypeId × Value → H) :
    ReturnsInHanded {} Try.checked os 4 .any (Rows.crossNothingSpec.pre6 enc Try.prog Try.f4 Rows.crossNothingRow.domain false) (Rows.crossNothingSpec.post enc Try.prog Try.f4 false true false false) := by
  refine returnsInHanded_of_change_sized (C := Try.checked) own started (by kernel_rfl) Try.func4
    (ChangeSpec.witness6 (enc := enc) (C := Try.checked) false ⟨#[], #[.agg #[.int .i64 0, .int .i64 0, .slice none 0 0], .agg #[.int .i8 0, .int .i8 0, .int .i8 0]], []⟩ 8 (by kernel_rfl) (by kernel_rfl) (by kernel_rfl) (by kernel_rfl)) ?_
  intro W base args ds gs before hval0 hW hcnd hsz0 _
  have hsz : (DataW.weightsEach Try.prog (Try.f4.params.toList ++ Rows.crossNothingSpec.plain.varTypes Try.prog) (ds ++ gs)).all (· ≤ reachBytes) = true := hsz0
  have hval : ∀ (j : Nat) t v, Try.f4.params[j]? = some t → args[j]? = some v → Value.okWide Try.prog W .any base t v := hval0
  have hW' := hW
  obtain ⟨p, q, hA0, hV, rfl, hfz, hnd⟩ := hW
  have hA : DataW.TrodAll enc Try.prog W 0 (fun _ => true) true Try.f4.params.toList args.toList ds p := hA0
  rw [Try.params4] at hA hval hsz
  obtain ⟨v0, vs0, d0, ds0, p0, q0, hargs, rfl, rfl, h0, r0⟩ := trodAll_cons hA
  obtain ⟨v1, vs1, d1, ds1, p1, q1, rfl, rfl, rfl, h1, r1⟩ := trodAll_cons r0
  obtain ⟨rfl, rfl, rfl⟩ := trodAll_nil r1
  obtain rfl : args = #[v0, v1] := by cases args; simp_all
  obtain ⟨rfl, rfl⟩ := trodVars_none hV
  have k0 := h0
  have lt0 : ∀ x ∈ p0, x.block < W.heap.size := by obtain ⟨m, hm⟩ := k0; exact DataW.trod_lt m _ _ _ hm
  obtain ⟨cs0, rfl, cz0⟩ := okWide_struct Try.underlying35 (hval 0 35 v0 rfl rfl)
  obtain ⟨x0, hK0, hQ0⟩ : ∃ x, k35.K W x cs0.toList ∧ q35 x := by
    obtain ⟨fuel, hf⟩ := h0
    exact o35 (by simpa [Value.cells] using hf) (O.light_of hsz (j := 0) rfl rfl)
  obtain ⟨A0_2, c0_2, e0, l0_2, g0_2⟩ := k35_open hK0
  obtain rfl : cs0 = #[.int .i64 x0.f0, .int .i64 x0.f1, .slice A0_2 x0.f2.length c0_2] := by have := congrArg List.toArray e0; simpa using this
  have hq0 : (((Lit.int .i64 x0.f0).wf = true) ∧ (((Lit.int .i64 x0.f1).wf = true) ∧ (x0.f2.length ≤ maxLen ∧ x0.f2.length * 4 ≤ 140737488351232 ∧ ∀ y0 ∈ x0.f2, ((Lit.int .u32 y0).wf = true)))) := hQ0
  have k1 := h1
  have lt1 : ∀ x ∈ p1, x.block < W.heap.size := by obtain ⟨m, hm⟩ := k1; exact DataW.trod_lt m _ _ _ hm
  obtain ⟨cs1, rfl, cz1⟩ := okWide_struct Try.underlying24 (hval 1 24 v1 rfl rfl)
  obtain ⟨x1, hK1, hQ1⟩ : ∃ x, k24.K W x cs1.toList ∧ q24 x := by
    obtain ⟨fuel, hf⟩ := h1
    exact o24 (by simpa [Value.cells] using hf) (O.light_of hsz (j := 1) rfl rfl)
  have e1 := k24_open hK1
  obtain rfl : cs1 = #[.int .i8 x1.f0, .int .i8 x1.f1, .int .i8 x1.f2] := by have := congrArg List.toArray e1; simpa using this
  have hq1 : (((Lit.int .i8 x1.f0).wf = true) ∧ (((Lit.int .i8 x1.f1).wf = true) ∧ ((Lit.int .i8 x1.f2).wf = true))) := hQ1
  clear hA0 hval0 hsz0 hsz
  obtain ⟨k, h⟩ := Pure.CrossNothing x0.f0 x0.f1 x0.f2 x1.f0 x1.f1 x1.f2 hq0.1 hq0.2.1 hq0.2.2.1 hq0.2.2.2.1 hq0.2.2.2.2 hq1.1 hq1.2.1 hq1.2.2
  refine (P.marquetrylaw14_CrossNothing.calls k x0.f0 x0.f1 A0_2 c0_2 x0.f2 x1.f0 x1.f1 x1.f2 true W g0_2 l0_2 h rfl).mono fun e W' ⟨he, bel0⟩ => ?_
  have bel : Below W.heap.size W W' := bel0
  subst he
  exact ⟨_, rfl, _, _, _, [], _, [], hW', trodAll_mk1 (shut_bool Try.underlying4 _), (trodAll_cons_mk (Below.trod laidOut (by kernel_rfl) (of_decide_eq_true (by kernel_rfl)) k0 bel lt0) (trodAll_cons_mk (Below.trod laidOut (by kernel_rfl) (of_decide_eq_true (by kernel_rfl)) k1 bel lt1) trodAll_mk0)), rfl, bel.frame _, fun h => by cases h⟩
theorem over : Rows.crossNothingRow.holds Try.pinned (OpenSpec.ofChange Rows.crossNothingSpec) :=
  OpenClaim.holds_of_wide 4 Try.f4 rfl rfl rfl rfl rfl rfl rfl ⟨rfl, rfl, rfl, rfl, rfl⟩ rfl rfl rfl rfl rfl (by kernel_rfl) Try.func4 (by kernel_rfl)
    (of_decide_eq_true (by kernel_rfl)) (by unfold Func.isWrapper; first | (rw [if_pos (by decide +kernel)]; kernel_rfl) | (rw [if_neg (by decide +kernel)]; exact ⟨rfl, rfl⟩))
    (fun os started H enc _ => lifted os started H enc)
theorem proved : Rows.CrossNothingSaid := over
#print axioms proved
end Go.Proofs.Ytbbbngjjefnmhaa.crossNothing
namespace Go.Proofs.Ytbbbngjjefnmhaa
/-- The row, under a short name, for the claim. -/
theorem crossNothing_holds : Rows.CrossNothingSaid := crossNothing.proved
end Go.Proofs.Ytbbbngjjefnmhaa
