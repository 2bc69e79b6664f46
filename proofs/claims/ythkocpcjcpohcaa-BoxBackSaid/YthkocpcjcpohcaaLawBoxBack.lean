-- Printed by mp.py (our own program over the kit's printer) out of the translation.
import Derived.Test.YthkocpcjcpohcaaZD17
import Derived.Test.YthkocpcjcpohcaaRows
import Derived.WalkKit
import Derived.ProofKit
import Derived.OpenShut
import Derived.ShutString
import Derived.ChangeOld
import Derived.Below
import Derived.SizedLaws
namespace Go.Proofs.Ythkocpcjcpohcaa.boxBack
open Go.ChangeShapes Go.WideShapes Go.ChangeAt Go.RowKit Go.Proofs.Ythkocpcjcpohcaa Go.Proofs.Ythkocpcjcpohcaa.P Go.Proofs.YthkocpcjcpohcaaW.PrintWords
open Go.ChangeMaps (open_string shut_string)
set_option linter.unusedVariables false
set_option linter.unusedSimpArgs false
theorem own : ownKnob Try.prog.godebug = none := by kernel_rfl
theorem laidOut : laidOutB Try.prog = true := by kernel_rfl
set_option maxRecDepth 100000 in
set_option maxHeartbeats 1000000 in
theorem lifted (os : Os) (started : os.Started) (H : Type) (enc : TypeId × Value → H) :
    ReturnsInHanded {} Try.checked os 3 .any (Rows.boxBackSpec.pre6 enc Try.prog Try.f3 Rows.boxBackRow.domain false) (Rows.boxBackSpec.post enc Try.prog Try.f3 false true false false) := by
  refine returnsInHanded_of_change_sized (C := Try.checked) own started (by kernel_rfl) Try.func3
    (ChangeSpec.witness6 (enc := enc) (C := Try.checked) false ⟨#[], #[.agg #[.bool false, .int .i64 0, .int .i64 0, .bool false, .bool false, .int .u32 0, .int .i64 0, .slice none 0 0, .slice none 0 0, .slice none 0 0, .bool false, .bool false, .bool false, .slice none 0 0, .slice none 0 0]], []⟩ 8 (by kernel_rfl) (by kernel_rfl) (by kernel_rfl) (by kernel_rfl)) ?_
  intro W base args ds gs before hval0 hW hcnd hsz0 _
  have hsz : (DataW.weightsEach Try.prog (Try.f3.params.toList ++ Rows.boxBackSpec.plain.varTypes Try.prog) (ds ++ gs)).all (· ≤ reachBytes) = true := hsz0
  have hval : ∀ (j : Nat) t v, Try.f3.params[j]? = some t → args[j]? = some v → Value.okWide Try.prog W .any base t v := hval0
  have hW' := hW
  obtain ⟨p, q, hA0, hV, rfl, hfz, hnd⟩ := hW
  have hA : DataW.TrodAll enc Try.prog W 0 (fun _ => true) true Try.f3.params.toList args.toList ds p := hA0
  rw [Try.params3] at hA hval hsz
  obtain ⟨v0, vs0, d0, ds0, p0, q0, hargs, rfl, rfl, h0, r0⟩ := trodAll_cons hA
  obtain ⟨rfl, rfl, rfl⟩ := trodAll_nil r0
  obtain rfl : args = #[v0] := by cases args; simp_all
  obtain ⟨rfl, rfl⟩ := trodVars_none hV
  have k0 := h0
  have lt0 : ∀ x ∈ p0, x.block < W.heap.size := by obtain ⟨m, hm⟩ := k0; exact DataW.trod_lt m _ _ _ hm
  obtain ⟨cs0, rfl, cz0⟩ := okWide_struct Try.underlying27 (hval 0 27 v0 rfl rfl)
  obtain ⟨x0, hK0, hQ0⟩ : ∃ x, k27.K W x cs0.toList ∧ q27 x := by
    obtain ⟨fuel, hf⟩ := h0
    exact o27 (by simpa [Value.cells] using hf) (O.light_of hsz (j := 0) rfl rfl)
  obtain ⟨A0_7, c0_7, A0_8, c0_8, A0_9, c0_9, A0_13, c0_13, A0_14, c0_14, e0, l0_7, g0_7, l0_8, g0_8, l0_9, g0_9, l0_13, g0_13, l0_14, g0_14⟩ := k27_open hK0
  obtain rfl : cs0 = #[.bool x0.f0, .int .i64 x0.f1, .int .i64 x0.f2, .bool x0.f3, .bool x0.f4, .int .u32 x0.f5, .int .i64 x0.f6, .slice A0_7 x0.f7.length c0_7, .slice A0_8 x0.f8.length c0_8, .slice A0_9 x0.f9.length c0_9, .bool x0.f10, .bool x0.f11, .bool x0.f12, .slice A0_13 x0.f13.length c0_13, .slice A0_14 x0.f14.length c0_14] := by have := congrArg List.toArray e0; simpa using this
  have hq0 : (True ∧ (((Lit.int .i64 x0.f1).wf = true) ∧ (((Lit.int .i64 x0.f2).wf = true) ∧ (True ∧ (True ∧ (((Lit.int .u32 x0.f5).wf = true) ∧ (((Lit.int .i64 x0.f6).wf = true) ∧ ((x0.f7.length ≤ maxLen ∧ x0.f7.length * 1 ≤ 140737488351232 ∧ ∀ y0 ∈ x0.f7, ((Lit.int .u8 y0).wf = true)) ∧ ((x0.f8.length ≤ maxLen ∧ x0.f8.length * 1 ≤ 140737488351232 ∧ ∀ y0 ∈ x0.f8, ((Lit.int .u8 y0).wf = true)) ∧ ((x0.f9.length ≤ maxLen ∧ x0.f9.length * 1 ≤ 140737488351232 ∧ ∀ y0 ∈ x0.f9, ((Lit.int .u8 y0).wf = true)) ∧ (True ∧ (True ∧ (True ∧ ((x0.f13.length ≤ maxLen ∧ x0.f13.length * 128 ≤ 140737488351232 ∧ ∀ y0 ∈ x0.f13, (((Lit.int .i64 y0.f0).wf = true) ∧ (((Lit.int .i64 y0.f1).wf = true) ∧ (((Lit.int .i64 y0.f2).wf = true) ∧ (((Lit.int .i64 y0.f3).wf = true) ∧ (((Lit.int .i64 y0.f4).wf = true) ∧ (True ∧ (True ∧ (((Lit.int .i64 y0.f7).wf = true) ∧ ((y0.f8.length ≤ maxLen ∧ y0.f8.length * 1 ≤ 140737488351232 ∧ ∀ y1 ∈ y0.f8, ((Lit.int .u8 y1).wf = true)) ∧ ((y0.f9.length ≤ maxLen ∧ y0.f9.length * 1 ≤ 140737488351232 ∧ ∀ y1 ∈ y0.f9, ((Lit.int .u8 y1).wf = true)) ∧ (y0.f10.length ≤ maxLen ∧ y0.f10.length * 40 ≤ 140737488351232 ∧ ∀ y1 ∈ y0.f10, ((y1.f0.size ≤ 140737488351232) ∧ (y1.f1.length ≤ maxLen ∧ y1.f1.length * 1 ≤ 140737488351232 ∧ ∀ y2 ∈ y1.f1, ((Lit.int .u8 y2).wf = true))))))))))))))) ∧ (x0.f14.length ≤ maxLen ∧ x0.f14.length * 40 ≤ 140737488351232 ∧ ∀ y0 ∈ x0.f14, ((y0.f0.size ≤ 140737488351232) ∧ (y0.f1.length ≤ maxLen ∧ y0.f1.length * 1 ≤ 140737488351232 ∧ ∀ y1 ∈ y0.f1, ((Lit.int .u8 y1).wf = true)))))))))))))))))) := hQ0
  clear hA0 hval0 hsz0 hsz
  refine (Pure.BoxBack x0.f0 x0.f1 x0.f2 x0.f3 x0.f4 x0.f5 x0.f6 A0_7 c0_7 x0.f7 A0_8 c0_8 x0.f8 A0_9 c0_9 x0.f9 x0.f10 x0.f11 x0.f12 A0_13 c0_13 x0.f13 A0_14 c0_14 x0.f14 W hq0.2.1 hq0.2.2.1 hq0.2.2.2.2.2.1 hq0.2.2.2.2.2.2.1 hq0.2.2.2.2.2.2.2.1.1 hq0.2.2.2.2.2.2.2.1.2.1 hq0.2.2.2.2.2.2.2.1.2.2 hq0.2.2.2.2.2.2.2.2.1.1 hq0.2.2.2.2.2.2.2.2.1.2.1 hq0.2.2.2.2.2.2.2.2.1.2.2 hq0.2.2.2.2.2.2.2.2.2.1.1 hq0.2.2.2.2.2.2.2.2.2.1.2.1 hq0.2.2.2.2.2.2.2.2.2.1.2.2 hq0.2.2.2.2.2.2.2.2.2.2.2.2.2.1.1 hq0.2.2.2.2.2.2.2.2.2.2.2.2.2.1.2.1 hq0.2.2.2.2.2.2.2.2.2.2.2.2.2.1.2.2 hq0.2.2.2.2.2.2.2.2.2.2.2.2.2.2.1 hq0.2.2.2.2.2.2.2.2.2.2.2.2.2.2.2.1 hq0.2.2.2.2.2.2.2.2.2.2.2.2.2.2.2.2 g0_7 l0_7 g0_8 l0_8 g0_9 l0_9 g0_13 l0_13 g0_14 l0_14).mono fun e W' ⟨he, bel0⟩ => ?_
  have bel : Below W.heap.size W W' := bel0
  subst he
  exact ⟨_, rfl, _, _, _, [], _, [], hW', trodAll_mk1 (shut_bool Try.underlying4 _), (trodAll_cons_mk (Below.trod laidOut (by kernel_rfl) (of_decide_eq_true (by kernel_rfl)) k0 bel lt0) trodAll_mk0), rfl, bel.frame _, fun h => by cases h⟩
theorem over : Rows.boxBackRow.holds Try.pinned (OpenSpec.ofChange Rows.boxBackSpec) :=
  OpenClaim.holds_of_wide 3 Try.f3 rfl rfl rfl rfl rfl rfl rfl ⟨rfl, rfl, rfl, rfl, rfl⟩ rfl rfl rfl rfl rfl (by kernel_rfl) Try.func3 (by kernel_rfl)
    (of_decide_eq_true (by kernel_rfl)) (by unfold Func.isWrapper; first | (rw [if_pos (by decide +kernel)]; kernel_rfl) | (rw [if_neg (by decide +kernel)]; exact ⟨rfl, rfl⟩))
    (fun os started H enc _ => lifted os started H enc)
theorem proved : Rows.BoxBackSaid := over
#print axioms proved
end Go.Proofs.Ythkocpcjcpohcaa.boxBack
namespace Go.Proofs.Ythkocpcjcpohcaa
/-- The row, under a short name, for the claim. -/
theorem boxBack_holds : Rows.BoxBackSaid := boxBack.proved
end Go.Proofs.Ythkocpcjcpohcaa
