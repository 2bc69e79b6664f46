-- Printed by mp.py (our own program over the kit's printer) out of the translation.
import Derived.Test.YtnpmnfhmlnhepaaRows
import Derived.Test.YtnpmnfhmlnhepaaPx10
import Derived.Test.YtnpmnfhmlnhepaaPureTokenCovers
import Derived.Test.YtnpmnfhmlnhepaaOpen
import Derived.WalkKit
import Derived.ProofKit
import Derived.OpenShut
import Derived.ShutString
import Derived.ChangeOld
import Derived.Below
import Derived.SizedLaws
namespace Go.Proofs.Ytnpmnfhmlnhepaa.tokenCovers
open Go.ChangeShapes Go.WideShapes Go.ChangeAt Go.RowKit Go.Proofs.Ytnpmnfhmlnhepaa Go.Proofs.Ytnpmnfhmlnhepaa.P Go.Proofs.YtnpmnfhmlnhepaaW.PrintWords
open Go.ChangeMaps (open_string shut_string)
set_option linter.unusedVariables false
set_option linter.unusedSimpArgs false
theorem own : ownKnob Try.prog.godebug = none := by kernel_rfl
theorem laidOut : laidOutB Try.prog = true := by kernel_rfl
set_option maxRecDepth 100000 in
set_option maxHeartbeats 1000000 in
theorem lifted (os : Os) (started : os.Started) (H : Type) (enc : TypeId × Value → H) :
    ReturnsInHanded {} Try.checked os 4 .any (Rows.tokenCoversSpec.pre6 enc Try.prog Try.f4 Rows.tokenCoversRow.domain false) (Rows.tokenCoversSpec.post enc Try.prog Try.f4 false true false false) := by
  refine returnsInHanded_of_change_sized (C := Try.checked) own started (by kernel_rfl) Try.func4
    (ChangeSpec.witness6 (enc := enc) (C := Try.checked) false ⟨#[], #[.slice none 0 0, .int .i64 0, .slice none 0 0], []⟩ 8 (by kernel_rfl) (by kernel_rfl) (by kernel_rfl) (by kernel_rfl)) ?_
  intro W base args ds gs before hval0 hW hcnd hsz0 _
  have hsz : (DataW.weightsEach Try.prog (Try.f4.params.toList ++ Rows.tokenCoversSpec.plain.varTypes Try.prog) (ds ++ gs)).all (· ≤ reachBytes) = true := hsz0
  have hval : ∀ (j : Nat) t v, Try.f4.params[j]? = some t → args[j]? = some v → Value.okWide Try.prog W .any base t v := hval0
  have hW' := hW
  obtain ⟨p, q, hA0, hV, rfl, hfz, hnd⟩ := hW
  have hA : DataW.TrodAll enc Try.prog W 0 (fun _ => true) true Try.f4.params.toList args.toList ds p := hA0
  rw [Try.params4] at hA hval hsz
  obtain ⟨v0, vs0, d0, ds0, p0, q0, hargs, rfl, rfl, h0, r0⟩ := trodAll_cons hA
  obtain ⟨v1, vs1, d1, ds1, p1, q1, rfl, rfl, rfl, h1, r1⟩ := trodAll_cons r0
  obtain ⟨v2, vs2, d2, ds2, p2, q2, rfl, rfl, rfl, h2, r2⟩ := trodAll_cons r1
  obtain ⟨rfl, rfl, rfl⟩ := trodAll_nil r2
  obtain rfl : args = #[v0, v1, v2] := by cases args; simp_all
  obtain ⟨rfl, rfl⟩ := trodVars_none hV
  have k0 := h0
  have lt0 : ∀ x ∈ p0, x.block < W.heap.size := by obtain ⟨m, hm⟩ := k0; exact DataW.trod_lt m _ _ _ hm
  obtain ⟨a0, len0, cap0, rfl⟩ := okWide_slice Try.underlying24 (hval 0 24 v0 rfl rfl)
  obtain ⟨x0, hK0, hQ0⟩ : ∃ x, ((Kd.slice 35 (Kd.int .u32))).K W x [.slice a0 len0 cap0] ∧ (x.length ≤ maxLen ∧ x.length * 4 ≤ 140737488351232 ∧ ∀ y ∈ x, ((Lit.int .u32 y).wf = true)) := by
    obtain ⟨fuel, hf⟩ := h0
    exact (O.opens_slice (B := 4) Try.underlying24 (by kernel_rfl) (by kernel_rfl) (O.opens_int Try.underlying35)) (by simpa [Value.cells] using hf) (O.light_of hsz (j := 0) rfl rfl)
  obtain ⟨A0, c0, e0, l0, g0⟩ := hK0
  injection e0 with e0 _
  injection e0 with ea0 eb0 ec0
  subst ea0 eb0 ec0
  obtain ⟨a1, rfl, rfl, rfl, w1⟩ := open_int Try.underlying3 (hval 1 3 v1 rfl rfl) h1
  have k2 := h2
  have lt2 : ∀ x ∈ p2, x.block < W.heap.size := by obtain ⟨m, hm⟩ := k2; exact DataW.trod_lt m _ _ _ hm
  obtain ⟨a2, len2, cap2, rfl⟩ := okWide_slice Try.underlying30 (hval 2 30 v2 rfl rfl)
  obtain ⟨x2, hK2, hQ2⟩ : ∃ x, ((Kd.slice 45 k45)).K W x [.slice a2 len2 cap2] ∧ (x.length ≤ maxLen ∧ x.length * 24 ≤ 140737488351232 ∧ ∀ y ∈ x, q45 y) := by
    obtain ⟨fuel, hf⟩ := h2
    exact (O.opens_slice (B := 24) Try.underlying30 (by kernel_rfl) (by kernel_rfl) o45) (by simpa [Value.cells] using hf) (O.light_of hsz (j := 2) rfl rfl)
  obtain ⟨A2, c2, e2, l2, g2⟩ := hK2
  injection e2 with e2 _
  injection e2 with ea2 eb2 ec2
  subst ea2 eb2 ec2
  clear hA0 hval0 hsz0 hsz
  obtain ⟨k, h⟩ := Pure.TokenCovers x0 a1 x2 hQ0.1 hQ0.2.1 hQ0.2.2 w1 hQ2.1 hQ2.2.1 hQ2.2.2
  refine (P.marquetrylaw17_TokenCovers.calls k a0 cap0 x0 a1 a2 cap2 x2 true W g0 l0 g2 l2 h rfl).mono fun e W' ⟨he, bel0⟩ => ?_
  have bel : Below W.heap.size W W' := bel0
  subst he
  exact ⟨_, rfl, _, _, _, [], _, [], hW', trodAll_mk1 (shut_bool Try.underlying4 _), (trodAll_cons_mk (Below.trod laidOut (by kernel_rfl) (of_decide_eq_true (by kernel_rfl)) k0 bel lt0) (trodAll_cons_mk (shut_int Try.underlying3 w1) (trodAll_cons_mk (Below.trod laidOut (by kernel_rfl) (of_decide_eq_true (by kernel_rfl)) k2 bel lt2) trodAll_mk0))), rfl, bel.frame _, fun h => by cases h⟩
theorem over : Rows.tokenCoversRow.holds Try.pinned (OpenSpec.ofChange Rows.tokenCoversSpec) :=
  OpenClaim.holds_of_wide 4 Try.f4 rfl rfl rfl rfl rfl rfl rfl ⟨rfl, rfl, rfl, rfl, rfl⟩ rfl rfl rfl rfl rfl (by kernel_rfl) Try.func4 (by kernel_rfl)
    (of_decide_eq_true (by kernel_rfl)) (by unfold Func.isWrapper; first | (rw [if_pos (by decide +kernel)]; kernel_rfl) | (rw [if_neg (by decide +kernel)]; exact ⟨rfl, rfl⟩))
    (fun os started H enc _ => lifted os started H enc)
theorem proved : Rows.TokenCoversSaid := over
#print axioms proved
end Go.Proofs.Ytnpmnfhmlnhepaa.tokenCovers
namespace Go.Proofs.Ytnpmnfhmlnhepaa
/-- The row, under a short name, for the claim. -/
theorem tokenCovers_holds : Rows.TokenCoversSaid := tokenCovers.proved
end Go.Proofs.Ytnpmnfhmlnhepaa
