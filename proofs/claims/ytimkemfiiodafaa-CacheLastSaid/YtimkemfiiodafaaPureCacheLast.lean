/- Of all colours of one place the last one stands there. -/
import Derived.Test.YtimkemfiiodafaaCacheLaw
namespace Go.Proofs.Ytimkemfiiodafaa.Pure
open Go Go.RowKit Go.Proofs.Ytimkemfiiodafaa.P Go.Proofs.YtimkemfiiodafaaW.PrintWords Go.Proofs.YtimkemfiiodafaaW.PrintLast Go.Proofs.YtimkemfiiodafaaW.PrintMore Go.Proofs.Ytimkemfiiodafaa.U
set_option linter.unusedVariables false
set_option linter.unusedSimpArgs false
theorem take_snoc {l : List Int} {k : Nat} (h : k < l.length) : l.take (k + 1) = l.take k ++ [rd l k] := by
  rw [List.take_succ_eq_append_getElem h]
  simp [rd, h]
set_option maxHeartbeats 1000000 in
set_option maxRecDepth 100000 in
theorem CacheLast (A0 : Option Addr) (c0 : Nat) (l : List Int) (b : Int) (w : World) (w0 : l.length ≤ maxLen) (w1 : l.length * 4 ≤ 140737488351232) (w2 : ∀ y ∈ l, (Lit.int .u32 y).wf = true) (wb : (Lit.int .u8 b).wf = true)
    (hr : Kd.C (Kd.int .u32) w A0 l.length l) (hc : l.length ≤ c0) :
    Calls Try.prog 6 #[.slice A0 l.length c0, .int .u8 b] w fun e w' => e = .returned (.bool true) ∧ Below w.heap.size w w' := by
  have hb := wf_u8 wb
  unfold maxLen at w0
  by_cases h1 : 200 < l.length
  · have t0 : decide (200 < (l.length : Int)) = true := decide_eq_true (by omega)
    go_enter Try.func6, Try.ntmps6
    go_wp2_with fail
    refine (answers_calls _).mono ?_; rintro e w1 ⟨rfl, hb⟩
    go_wp2
    go_ret
    exact ⟨rfl, hb⟩
  have t0 : decide (200 < (l.length : Int)) = false := decide_eq_false (by omega)
  by_cases h2 : l.length = 0
  · have t1 : ((l.length : Int) == 0) = true := by simp [h2]
    clear h2
    go_enter Try.func6, Try.ntmps6
    go_wp2_with fail
    refine (answers_calls _).mono ?_; rintro e w1 ⟨rfl, hb⟩
    go_wp2
    go_ret
    exact ⟨rfl, hb⟩
  have t1 : ((l.length : Int) == 0) = false := by simpa using h2
  have hm : Int.tmod b 11 = b % 11 := Int.tmod_eq_emod_of_nonneg hb.1
  obtain ⟨m, hm'⟩ : ∃ m, b % 11 + 1 = m := ⟨_, rfl⟩
  have m0 : 1 ≤ m := by omega
  have m1 : m ≤ 11 := by omega
  obtain ⟨ad, rfl, hat⟩ := C_int_at hr (by omega)
  have HR := Aside0.mk hr; clear hr
  go_enter Try.func6, Try.ntmps6
  go_wp2_with fail
  refine (cache_New_in m _ _ _ m0 m1 (St.refl w)).mono ?_; rintro e w1 ⟨g, rfl, hs⟩
  go_wp2_with fail
  go_loopw [8] (fun i wr => ∃ k : Nat, k ≤ l.length ∧ i = .int .i64 k ∧ St w wr (cacheA g m (playN m (List.replicate (2 ^ m.toNat) 0) (l.take k)) * Asrt.emp)) (fun i _ => l.length - (intOf i).toNat)
  case atStart => exact ⟨0, Nat.zero_le _, rfl, by simpa [playN] using hs⟩
  case round =>
    obtain ⟨k, hk, rfl, hsk⟩ := hrel
    by_cases hlt : k < l.length
    · have tl : decide ((k : Int) < l.length) = true := decide_eq_true (by omega)
      have hcell := pw_cell_below hsk.below (hat k hlt)
      have hu := wf_u32 (w2 _ (rd_mem (l := l) (i := k) (by omega) (by omega)))
      have HS := Aside0.mk hsk; clear hsk
      go_wp2_with fail
      refine (cache_Add_in g m _ _ _ _ _ m0 m1 hu (by simp [playN_length]) HS.out).mono ?_; rintro e w3 ⟨rfl, hs3⟩
      rw [← playN_snoc, ← take_snoc hlt] at hs3
      have HS3 := Aside0.mk hs3; clear hs3
      go_wp2_with fail
      go_roundw
      case rel => exact ⟨k + 1, by omega, by go_num, HS3.out⟩
      case measure => simp [intOf]; omega
    · have tl : decide ((k : Int) < l.length) = false := decide_eq_false (by omega)
      obtain rfl : k = l.length := by omega
      rw [List.take_length] at hsk
      have hl := pw_cell_below hsk.below (hat (l.length - 1) (by omega))
      obtain ⟨x, hx⟩ : ∃ x, rd l ((l.length - 1 : Nat) : Int) = x := ⟨_, rfl⟩
      rw [hx] at hl
      have hu : 0 ≤ x ∧ x ≤ 4294967295 := by rw [← hx]; exact wf_u32 (w2 _ (rd_mem (l := l) (by omega) (by omega)))
      obtain ⟨c, hc⟩ : ∃ c, playN m (List.replicate (2 ^ m.toNat) 0) l = c := ⟨_, rfl⟩
      have hcl : c.length = 2 ^ m.toNat := by rw [← hc, playN_length, List.length_replicate]
      have hsl := slotN_bd (argb := x) m0 m1
      have hsl2 : slotN x m < c.length := by rw [hcl]; exact_mod_cast hsl.2
      have hhit : rd c (slotN x m) = x := by
        have e : l = l.take (l.length - 1) ++ [x] := by
          have := take_snoc (l := l) (k := l.length - 1) (by omega)
          rw [show l.length - 1 + 1 = l.length by omega, List.take_length, hx] at this
          exact this
        rw [← hc, e, playN_snoc]
        refine rd_set_same _ _ _ hsl.1 ?_
        rw [playN_length, List.length_replicate]
        exact_mod_cast hsl.2
      rw [hc] at hsk
      obtain ⟨q, hq, hq2, hq3⟩ := pow11 m0 m1
      have hqc : q = c.length := by rw [hq2, hcl]
      have e1 : (slotR x m) = slotN x m := if_pos ⟨m0, m1⟩
      have h0 := hsl.1
      clear hsl
      have HX := Aside0.mk hx; clear hx
      have HC := Aside0.mk hc; clear hc
      have HCL := Aside0.mk hcl; clear hcl
      have HH := Aside0.mk hhit; clear hhit
      have HQ2 := Aside0.mk hq2; clear hq2
      have HQC := Aside0.mk hqc; clear hqc
      have HS := Aside0.mk hsk; clear hsk
      have HE := Aside0.mk e1; clear e1
      go_wp2_with fail
      refine (cache_Find_hit g m x c _ _ _ m0 m1 hu HCL.out HS.out HH.out).mono ?_; rintro e w3 ⟨rfl, ⟨nd, rfl⟩⟩
      go_wp2_with fail
      refine (cache_Get_in g m c _ _ _ _ h0 hsl2 (HS.out.drewN nd)).mono ?_; rintro e w3 ⟨rfl, rfl⟩
      rw [HH.out]
      go_wp2_with fail
      refine (cache_Get_out g m c _ _ _ _ (by right; rw [HQC.out]; exact Int.le_refl _) (HS.out.drewN nd)).mono ?_; rintro e w3 ⟨rfl, rfl⟩
      go_wp2_with fail
      refine (answers_calls _).mono ?_; rintro e w3 ⟨rfl, hb3⟩
      go_wp2_with fail
      refine (ref_slot_calls _ _ _ hu).mono ?_; rintro e w4 ⟨rfl, ⟨nd4, rfl⟩⟩
      rw [HE.out]
      go_wp2_with fail
      go_ret
      exact ⟨rfl, pw_below_drewN (below_step (pw_below_drewN HS.out.below nd) hb3) _⟩
end Go.Proofs.Ytimkemfiiodafaa.Pure
