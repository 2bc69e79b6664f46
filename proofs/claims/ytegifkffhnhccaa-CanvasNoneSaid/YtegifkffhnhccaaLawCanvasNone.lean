-- Printed by mp.py (our own program over the kit's printer) out of the translation.
import Derived.Test.YtegifkffhnhccaaRows
import Derived.Test.YtegifkffhnhccaaPx
import Derived.Test.YtegifkffhnhccaaPureCanvasNone
import Derived.Test.YtegifkffhnhccaaOpen
import Derived.WalkKit
import Derived.ProofKit
import Derived.OpenShut
import Derived.ShutString
import Derived.ChangeOld
import Derived.Below
import Derived.SizedLaws
namespace Go.Proofs.Ytegifkffhnhccaa.canvasNone
open Go.ChangeShapes Go.WideShapes Go.ChangeAt Go.RowKit Go.Proofs.Ytegifkffhnhccaa Go.Proofs.Ytegifkffhnhccaa.P Go.Proofs.YtegifkffhnhccaaW.PrintWords
open Go.ChangeMaps (open_string shut_string)
set_option linter.unusedVariables false
set_option linter.unusedSimpArgs false
theorem own : ownKnob Try.prog.godebug = none := by kernel_rfl
theorem laidOut : laidOutB Try.prog = true := by kernel_rfl
set_option maxRecDepth 100000 in
set_option maxHeartbeats 1000000 in
theorem lifted (os : Os) (started : os.Started) (H : Type) (enc : TypeId × Value → H) :
    ReturnsInHanded {} Try.checked os 7 .any (Rows.canvasNoneSpec.pre6 enc Try.prog Try.f7 Rows.canvasNoneRow.domain false) (Rows.canvasNoneSpec.post enc Try.prog Try.f7 false true false false) := by
  refine returnsInHanded_of_change_sized (C := Try.checked) own started (by kernel_rfl) Try.func7
    (ChangeSpec.witness6 (enc := enc) (C := Try.checked) false ⟨#[], #[.agg #[.int .i64 0, .int .i64 0, .bool false, .bool false, .int .i64 0, .int .i64 0, .slice none 0 0]], []⟩ 8 (by kernel_rfl) (by kernel_rfl) (by kernel_rfl) (by kernel_rfl)) ?_
  intro W base args ds gs before hval0 hW hcnd hsz0 _
  have hsz : (DataW.weightsEach Try.prog (Try.f7.params.toList ++ Rows.canvasNoneSpec.plain.varTypes Try.prog) (ds ++ gs)).all (· ≤ reachBytes) = true := hsz0
  have hval : ∀ (j : Nat) t v, Try.f7.params[j]? = some t → args[j]? = some v → Value.okWide Try.prog W .any base t v := hval0
  have hW' := hW
  obtain ⟨p, q, hA0, hV, rfl, hfz, hnd⟩ := hW
  have hA : DataW.TrodAll enc Try.prog W 0 (fun _ => true) true Try.f7.params.toList args.toList ds p := hA0
  rw [Try.params7] at hA hval hsz
  obtain ⟨v0, vs0, d0, ds0, p0, q0, hargs, rfl, rfl, h0, r0⟩ := trodAll_cons hA
  obtain ⟨rfl, rfl, rfl⟩ := trodAll_nil r0
  obtain rfl : args = #[v0] := by cases args; simp_all
  obtain ⟨rfl, rfl⟩ := trodVars_none hV
  have k0 := h0
  have lt0 : ∀ x ∈ p0, x.block < W.heap.size := by obtain ⟨m, hm⟩ := k0; exact DataW.trod_lt m _ _ _ hm
  obtain ⟨cs0, rfl, cz0⟩ := okWide_struct Try.underlying47 (hval 0 47 v0 rfl rfl)
  obtain ⟨x0, hK0, hQ0⟩ : ∃ x, k47.K W x cs0.toList ∧ q47 x := by
    obtain ⟨fuel, hf⟩ := h0
    exact o47 (by simpa [Value.cells] using hf) (O.light_of hsz (j := 0) rfl rfl)
  obtain ⟨A0_6, c0_6, e0, l0_6, g0_6⟩ := k47_open hK0
  obtain rfl : cs0 = #[.int .i64 x0.f0, .int .i64 x0.f1, .bool x0.f2, .bool x0.f3, .int .i64 x0.f4.f0, .int .i64 x0.f4.f1, .slice A0_6 x0.f4.f2.length c0_6] := by have := congrArg List.toArray e0; simpa using this
  have hq0 : (((Lit.int .i64 x0.f0).wf = true) ∧ (((Lit.int .i64 x0.f1).wf = true) ∧ (True ∧ (True ∧ (((Lit.int .i64 x0.f4.f0).wf = true) ∧ (((Lit.int .i64 x0.f4.f1).wf = true) ∧ (x0.f4.f2.length ≤ maxLen ∧ x0.f4.f2.length * 4 ≤ 140737488351232 ∧ ∀ y0 ∈ x0.f4.f2, ((Lit.int .u32 y0).wf = true)))))))) := hQ0
  clear hA0 hval0 hsz0 hsz
  refine (Pure.CanvasNone x0.f0 x0.f1 x0.f2 x0.f3 x0.f4.f0 x0.f4.f1 A0_6 c0_6 x0.f4.f2 W hq0.1 hq0.2.1 hq0.2.2.2.2.1 hq0.2.2.2.2.2.1 hq0.2.2.2.2.2.2.1 hq0.2.2.2.2.2.2.2.1 hq0.2.2.2.2.2.2.2.2 g0_6 l0_6).mono fun e W' ⟨he, bel0⟩ => ?_
  have bel : Below W.heap.size W W' := bel0
  subst he
  exact ⟨_, rfl, _, _, _, [], _, [], hW', trodAll_mk1 (shut_bool Try.underlying4 _), (trodAll_cons_mk (Below.trod laidOut (by kernel_rfl) (of_decide_eq_true (by kernel_rfl)) k0 bel lt0) trodAll_mk0), rfl, bel.frame _, fun h => by cases h⟩
theorem over : Rows.canvasNoneRow.holds Try.pinned (OpenSpec.ofChange Rows.canvasNoneSpec) :=
  OpenClaim.holds_of_wide 7 Try.f7 rfl rfl rfl rfl rfl rfl rfl ⟨rfl, rfl, rfl, rfl, rfl⟩ rfl rfl rfl rfl rfl (by kernel_rfl) Try.func7 (by kernel_rfl)
    (of_decide_eq_true (by kernel_rfl)) (by unfold Func.isWrapper; first | (rw [if_pos (by decide +kernel)]; kernel_rfl) | (rw [if_neg (by decide +kernel)]; exact ⟨rfl, rfl⟩))
    (fun os started H enc _ => lifted os started H enc)
theorem proved : Rows.CanvasNoneSaid := over
#print axioms proved
end Go.Proofs.Ytegifkffhnhccaa.canvasNone
namespace Go.Proofs.Ytegifkffhnhccaa
/-- The row, under a short name, for the claim. -/
theorem canvasNone_holds : Rows.CanvasNoneSaid := canvasNone.proved
end Go.Proofs.Ytegifkffhnhccaa
