/- A step of the document's painter; the pixels of steps. -/
import Derived.Test.YtnpmnfhmlnhepaaMpaint
namespace Go.Proofs.Ytnpmnfhmlnhepaa.P
open Go Go.RowKit Go.Proofs.YtnpmnfhmlnhepaaW.PrintWords Go.Proofs.YtnpmnfhmlnhepaaW.PrintLast Go.Proofs.YtnpmnfhmlnhepaaW.PrintMore Go.Proofs.Ytnpmnfhmlnhepaa.U
set_option linter.unusedVariables false
set_option linter.unusedSimpArgs false
attribute [local go_sem] max2_int min2_int max_two min_two max_three min_three max_four min_four
/-- The four ways of a step. -/
def way (most : Int) (s : PS) (t : Tk) : Nat :=
  if t.f0 = 1 ∧ (s.pix.length : Int) < most then 1 else
  if t.f0 = 2 ∧ mayCopy most s t then 2 else
  if t.f0 = 3 ∧ (0 ≤ t.f3 ∧ t.f3 < s.cl.length) ∧ (s.pix.length : Int) < most then 3 else 0
def PS.stepW (bits : Int) (s : PS) (t : Tk) : Nat → Option PS
  | 1 => some (s.add bits t.f4)
  | 2 => some (s.copy bits t.f2 t.f1.toNat)
  | 3 => some (s.add bits (rd s.cl t.f3))
  | _ => none
theorem step_way (bits most : Int) (s : PS) (t : Tk) : s.step bits most t = s.stepW bits t (way most s t) := by
  unfold PS.step way
  by_cases c0 : (s.pix.length : Int) ≥ most
  · rw [if_pos c0, if_neg (fun h => by omega), if_neg (fun h => by unfold mayCopy at h; omega), if_neg (fun h => by omega)]
    rfl
  rw [if_neg c0]
  by_cases k1 : t.f0 = 1
  · rw [if_pos k1, if_pos ⟨k1, by omega⟩]
    rfl
  rw [if_neg k1, if_neg (show ¬ (t.f0 = 1 ∧ (s.pix.length : Int) < most) from fun h => k1 h.1)]
  by_cases k2 : t.f0 = 2
  · rw [if_pos k2]
    by_cases m : mayCopy most s t
    · rw [if_pos m, if_pos ⟨k2, m⟩]
      rfl
    · rw [if_neg m, if_neg (fun h => m h.2), if_neg (fun h => by omega)]
      rfl
  rw [if_neg k2, if_neg (show ¬ (t.f0 = 2 ∧ mayCopy most s t) from fun h => k2 h.1)]
  by_cases k3 : t.f0 = 3
  · rw [if_pos k3]
    by_cases m : 0 ≤ t.f3 ∧ t.f3 < (s.cl.length : Int)
    · rw [if_pos m, if_pos ⟨k3, m, by omega⟩]
      rfl
    · rw [if_neg m, if_neg (fun h => m h.2.1)]
      rfl
  · rw [if_neg k3, if_neg (fun h => k3 h.1)]
    rfl
section
variable {w0 w : World} {g : Nat} {bits most : Int} {s : PS} {r : Asrt}
/-- What the reads of a step need. -/
theorem refA_cells {t5 : Nat} {cs : Array Value} (h : St w0 w (Asrt.blk t5 37 cs * (refA g bits s * r))) : ∃ B c K, w.cell? ⟨g, 0, none⟩ = some (.slice B s.pix.length c) ∧ w.cell? ⟨g, 1, none⟩ = some (.slice K s.cl.length s.cl.length) ∧ (0 < s.pix.length → ∃ b, B = some ⟨b, 0, none⟩ ∧ ∀ i : Nat, i < s.pix.length → w.cell? ⟨b, i, none⟩ = some (.int .u32 (rd s.pix i))) ∧
    (1 ≤ bits → ∃ b, K = some ⟨b, 0, none⟩ ∧ ∀ i : Nat, i < s.cl.length → w.cell? ⟨b, i, none⟩ = some (.int .u32 (rd s.cl i))) := by
  obtain ⟨B, c, K, h1⟩ := refA_open h.drop
  refine ⟨B, c, K, (h1.cell 0).trans rfl, (h1.cell 1).trans rfl, fun hp => ?_, fun hb => ?_⟩
  · obtain ⟨b, rfl⟩ := h1.swap.rowForm hp
    exact ⟨b, rfl, fun i hi => by have := (h1.swap.rowAt (i : Int) (by omega) (by omega)).1; simpa using this⟩
  · obtain ⟨b, rfl, h2⟩ := cacheR_some hb h1.drop.drop
    exact ⟨b, rfl, fun i hi => by have := (h2.cell i).trans (nums_at .u32 s.cl (i : Int) (by omega) (by omega)); simpa using this⟩
end
set_option maxHeartbeats 4000000 in
set_option maxRecDepth 100000 in
theorem ref_Step (g : Nat) (bits most : Int) (s : PS) (t : Tk) (r : Asrt) (w0 w : World) (hk : s.ok bits) (ht : U32 t.f4) (hl : (s.pix.length : Int) ≤ 268435456) (hm : most ≤ 268435456) (h0 : 0 ≤ most) (hs : St w0 w (refA g bits s * r)) :
    Calls Try.prog 22 #[.pointer (some ⟨g, 0, none⟩), .agg #[.int .i64 t.f0, .int .i64 t.f1, .int .i64 t.f2, .int .i64 t.f3, .int .u32 t.f4], .int .i64 most] w fun e w' => e = .returned (.bool (s.step bits most t).isSome) ∧ St w0 w' (refA g bits ((s.step bits most t).getD s) * r) := by
  have hs2 := hs.alloc #[.int .i64 t.f0, .int .i64 t.f1, .int .i64 t.f2, .int .i64 t.f3, .int .u32 t.f4] 37
  obtain ⟨B, c, K, m0, m1, hpix, hcl⟩ := refA_cells hs2
  have t0 := (hs2.cell 0).trans rfl
  have t1 := (hs2.cell 1).trans rfl
  have t2 := (hs2.cell 2).trans rfl
  have t3 := (hs2.cell 3).trans rfl
  have t4 := (hs2.cell 4).trans rfl
  have q1 : wrap64 (most - (s.pix.length : Int)) = most - s.pix.length := w64 (by omega) (by omega)
  have q2 := i64_w (most - (s.pix.length : Int)); rw [q1] at q2
  rw [step_way]
  have HS := Aside0.mk hs2
  have HK := Aside0.mk hk
  have HT := Aside0.mk ht
  by_cases k1 : t.f0 = 1
  · have z1 : (t.f0 == 1) = true := by simp [k1]
    have z2 : (t.f0 == 2) = false := by simp [k1]
    have z3 : (t.f0 == 3) = false := by simp [k1]
    by_cases c1 : (s.pix.length : Int) < most
    · have e : way most s t = 1 := by unfold way; rw [if_pos ⟨k1, c1⟩]
      rw [e]
      have y1 : decide ((s.pix.length : Int) < most) = true := decide_eq_true c1
      have hlen : s.pix.length < 268435456 := by omega
      clear hs hs2 hk ht k1 c1 e hpix hcl
      go_enter Try.func22, Try.ntmps22
      go_wp2_with fail
      refine (ref_Add g bits t.f4 s _ w0 _ HK.out HT.out hlen HS.out.swap).mono ?_; rintro e w3 ⟨rfl, hs⟩
      have HS3 := Aside0.mk hs.swap.drop; clear hs
      go_wp2_with fail
      go_ret
      exact ⟨rfl, HS3.out⟩
    · have e : way most s t = 0 := by unfold way; rw [if_neg (fun h => c1 h.2), if_neg (fun h => by omega), if_neg (fun h => by omega)]
      rw [e]
      have y1 : decide ((s.pix.length : Int) < most) = false := decide_eq_false c1
      clear hs hs2 hk ht k1 c1 e hpix hcl
      go_enter Try.func22, Try.ntmps22
      go_wp2_with fail
      generalize w.alloc (.cells #[.int .i64 t.f0, .int .i64 t.f1, .int .i64 t.f2, .int .i64 t.f3, .int .u32 t.f4] 37) = W1 at *
      go_quiet (fail)
      have HS1 := Aside0.mk (HS.out.drewN nq)
      obtain ⟨B, c, K, m0, m1, _, _⟩ := refA_cells HS1.out
      have t0 := (HS1.out.cell 0).trans rfl
      have t3 := (HS1.out.cell 3).trans rfl
      generalize W1.drewN nq = W2 at *
      go_wp2_with fail
      go_quiet (fail)
      go_wp2_with fail
      go_ret
      exact ⟨rfl, (HS1.out.drewN nq).drop⟩
  have z1 : (t.f0 == 1) = false := by simp [k1]
  by_cases k2 : t.f0 = 2
  · have z2 : (t.f0 == 2) = true := by simp [k2]
    have z3 : (t.f0 == 3) = false := by simp [k2]
    have noway : ¬ mayCopy most s t → way most s t = 0 := fun h => by unfold way; rw [if_neg (fun h => k1 h.1), if_neg (fun hh => h hh.2), if_neg (fun h => by omega)]
    have NW := Aside0.mk noway
    clear noway
    by_cases c1 : t.f1 < 1
    · rw [NW.out (fun h : mayCopy most s t => by have := h.1; omega)]
      have e1 : decide (1 ≤ t.f1) = false := decide_eq_false (by omega)
      clear hs hs2 hk ht k1 k2 c1 hpix hcl NW
      go_enter Try.func22, Try.ntmps22
      go_wp2_with fail
      generalize w.alloc (.cells #[.int .i64 t.f0, .int .i64 t.f1, .int .i64 t.f2, .int .i64 t.f3, .int .u32 t.f4] 37) = W1 at *
      go_quiet (fail)
      have HS1 := Aside0.mk (HS.out.drewN nq)
      obtain ⟨B, c, K, m0, m1, _, _⟩ := refA_cells HS1.out
      have t0 := (HS1.out.cell 0).trans rfl
      have t1 := (HS1.out.cell 1).trans rfl
      have t2 := (HS1.out.cell 2).trans rfl
      have t3 := (HS1.out.cell 3).trans rfl
      generalize W1.drewN nq = W2 at *
      go_wp2_with fail
      go_quiet (fail)
      go_wp2_with fail
      go_ret
      exact ⟨rfl, (HS1.out.drewN nq).drop⟩
    have e1 : decide (1 ≤ t.f1) = true := decide_eq_true (by omega)
    by_cases c2 : t.f1 > 4096
    · rw [NW.out (fun h : mayCopy most s t => by have := h.2.1; omega)]
      have e2 : decide (t.f1 ≤ 4096) = false := decide_eq_false (by omega)
      clear hs hs2 hk ht k1 k2 c1 c2 hpix hcl NW
      go_enter Try.func22, Try.ntmps22
      go_wp2_with fail
      generalize w.alloc (.cells #[.int .i64 t.f0, .int .i64 t.f1, .int .i64 t.f2, .int .i64 t.f3, .int .u32 t.f4] 37) = W1 at *
      go_quiet (fail)
      have HS1 := Aside0.mk (HS.out.drewN nq)
      obtain ⟨B, c, K, m0, m1, _, _⟩ := refA_cells HS1.out
      have t0 := (HS1.out.cell 0).trans rfl
      have t1 := (HS1.out.cell 1).trans rfl
      have t2 := (HS1.out.cell 2).trans rfl
      have t3 := (HS1.out.cell 3).trans rfl
      generalize W1.drewN nq = W2 at *
      go_wp2_with fail
      go_quiet (fail)
      go_wp2_with fail
      go_ret
      exact ⟨rfl, (HS1.out.drewN nq).drop⟩
    have e2 : decide (t.f1 ≤ 4096) = true := decide_eq_true (by omega)
    by_cases c3 : t.f2 < 1
    · rw [NW.out (fun h : mayCopy most s t => by have := h.2.2.1; omega)]
      have e3 : decide (1 ≤ t.f2) = false := decide_eq_false (by omega)
      clear hs hs2 hk ht k1 k2 c1 c2 c3 hpix hcl NW
      go_enter Try.func22, Try.ntmps22
      go_wp2_with fail
      generalize w.alloc (.cells #[.int .i64 t.f0, .int .i64 t.f1, .int .i64 t.f2, .int .i64 t.f3, .int .u32 t.f4] 37) = W1 at *
      go_quiet (fail)
      have HS1 := Aside0.mk (HS.out.drewN nq)
      obtain ⟨B, c, K, m0, m1, _, _⟩ := refA_cells HS1.out
      have t0 := (HS1.out.cell 0).trans rfl
      have t1 := (HS1.out.cell 1).trans rfl
      have t2 := (HS1.out.cell 2).trans rfl
      have t3 := (HS1.out.cell 3).trans rfl
      generalize W1.drewN nq = W2 at *
      go_wp2_with fail
      go_quiet (fail)
      go_wp2_with fail
      go_ret
      exact ⟨rfl, (HS1.out.drewN nq).drop⟩
    have e3 : decide (1 ≤ t.f2) = true := decide_eq_true (by omega)
    by_cases c4 : t.f2 > s.pix.length
    · rw [NW.out (fun h : mayCopy most s t => by have := h.2.2.2.1; omega)]
      have e4 : decide (t.f2 ≤ (s.pix.length : Int)) = false := decide_eq_false (by omega)
      clear hs hs2 hk ht k1 k2 c1 c2 c3 c4 hpix hcl NW
      go_enter Try.func22, Try.ntmps22
      go_wp2_with fail
      generalize w.alloc (.cells #[.int .i64 t.f0, .int .i64 t.f1, .int .i64 t.f2, .int .i64 t.f3, .int .u32 t.f4] 37) = W1 at *
      go_quiet (fail)
      have HS1 := Aside0.mk (HS.out.drewN nq)
      obtain ⟨B, c, K, m0, m1, _, _⟩ := refA_cells HS1.out
      have t0 := (HS1.out.cell 0).trans rfl
      have t1 := (HS1.out.cell 1).trans rfl
      have t2 := (HS1.out.cell 2).trans rfl
      have t3 := (HS1.out.cell 3).trans rfl
      generalize W1.drewN nq = W2 at *
      go_wp2_with fail
      go_quiet (fail)
      go_wp2_with fail
      go_ret
      exact ⟨rfl, (HS1.out.drewN nq).drop⟩
    have e4 : decide (t.f2 ≤ (s.pix.length : Int)) = true := decide_eq_true (by omega)
    by_cases c5 : t.f1 > most - s.pix.length
    · rw [NW.out (fun h : mayCopy most s t => by have := h.2.2.2.2; omega)]
      have e5 : decide (t.f1 ≤ most - (s.pix.length : Int)) = false := decide_eq_false (by omega)
      clear hs hs2 hk ht k1 k2 c1 c2 c3 c4 c5 hpix hcl NW
      go_enter Try.func22, Try.ntmps22
      go_wp2_with fail
      generalize w.alloc (.cells #[.int .i64 t.f0, .int .i64 t.f1, .int .i64 t.f2, .int .i64 t.f3, .int .u32 t.f4] 37) = W1 at *
      go_quiet (fail)
      have HS1 := Aside0.mk (HS.out.drewN nq)
      obtain ⟨B, c, K, m0, m1, _, _⟩ := refA_cells HS1.out
      have t0 := (HS1.out.cell 0).trans rfl
      have t1 := (HS1.out.cell 1).trans rfl
      have t2 := (HS1.out.cell 2).trans rfl
      have t3 := (HS1.out.cell 3).trans rfl
      generalize W1.drewN nq = W2 at *
      go_wp2_with fail
      go_quiet (fail)
      go_wp2_with fail
      go_ret
      exact ⟨rfl, (HS1.out.drewN nq).drop⟩
    have e5 : decide (t.f1 ≤ most - (s.pix.length : Int)) = true := decide_eq_true (by omega)
    have hmay : mayCopy most s t := ⟨by omega, by omega, by omega, by omega, by omega⟩
    have e : way most s t = 2 := by unfold way; rw [if_neg (fun h => k1 h.1), if_pos ⟨k2, hmay⟩]
    rw [e]
    obtain ⟨N, hN⟩ := Int.eq_ofNat_of_zero_le (show 0 ≤ t.f1 by omega)
    have hN2 : N ≤ 4096 := by omega
    have hfit : (s.pix.length : Int) + N ≤ most := by omega
    have hd1 : 1 ≤ t.f2 := by omega
    have hd2 : t.f2 ≤ s.pix.length := by omega
    have eN : t.f1.toNat = N := by omega
    show Calls _ _ _ _ fun e w' => e = .returned (.bool true) ∧ St w0 w' (refA g bits (s.copy bits t.f2 t.f1.toNat) * r)
    rw [eN]
    clear c1 c2 c3 c4 c5 hmay eN NW e hs hs2 hk ht k1 k2 hpix hcl
    rw [hN] at HS m0 m1 t0 t1 t2 t3 t4 e1 e2 e5 ⊢
    go_enter Try.func22, Try.ntmps22
    go_wp2_with fail
    generalize w.alloc (.cells #[.int .i64 t.f0, .int .i64 N, .int .i64 t.f2, .int .i64 t.f3, .int .u32 t.f4] 37) = W1 at *
    go_quiet (fail)
    have HS1 := Aside0.mk (HS.out.drewN nq)
    have u1 := (HS1.out.cell 1).trans rfl
    generalize W1.drewN nq = W2 at *
    go_wp2_with fail
    go_loopw [7] (fun i wr => ∃ k : Nat, k ≤ N ∧ i = .int .i64 k ∧ St w0 wr (Asrt.blk w.heap.size 37 #[.int .i64 t.f0, .int .i64 N, .int .i64 t.f2, .int .i64 t.f3, .int .u32 t.f4] * (refA g bits (s.copy bits t.f2 k) * r))) (fun i _ => N - (intOf i).toNat)
    case atStart => exact ⟨0, by omega, rfl, HS1.out⟩
    case round =>
      obtain ⟨k, hk, rfl, hs⟩ := hrel
      clear HS1 HS m0 m1 t0 t1 t2 t3 t4 e1 e2 e3 e4 e5 u1
      have t1 := (hs.cell 1).trans rfl
      by_cases hlt : k < N
      · have y1 : decide ((k : Int) < N) = true := decide_eq_true (by omega)
        have y2 : decide (k < N) = true := decide_eq_true hlt
        have hln : (s.copy bits t.f2 k).pix.length = s.pix.length + k := PS.copy_len k
        have hok := PS.copy_ok HK.out hd1 hd2 k
        generalize hcs : s.copy bits t.f2 k = u at *
        obtain ⟨B1, c1, K1, m0, _, hpx, _⟩ := refA_cells hs
        obtain ⟨b1, hb1, hpx2⟩ := hpx (by omega)
        subst hb1
        obtain ⟨I, hI⟩ := Int.eq_ofNat_of_zero_le (show 0 ≤ (u.pix.length : Int) - t.f2 by omega)
        have q3 : wrap64 ((u.pix.length : Int) - t.f2) = I := by rw [hI]; exact w64 (by omega) (by omega)
        have q4 := i64_w ((u.pix.length : Int) - t.f2); rw [q3] at q4
        have hIl : I < u.pix.length := by omega
        have cI := hpx2 I hIl
        have t2 := (hs.cell 2).trans rfl
        have i1 : decide ((I : Int) < u.pix.length) = true := decide_eq_true (by omega)
        have i2 : (I < u.pix.length) = True := eq_true hIl
        have i3 : ((I : Int) < u.pix.length) = True := eq_true (by omega)
        have hUx : U32 (rd u.pix I) := hok.2 _ (rd_mem (by omega) (by omega))
        have HSS := Aside0.mk (hs.swap.drew)
        have HUK := Aside0.mk hok
        have HUX := Aside0.mk hUx
        have HCS := Aside0.mk hcs
        have HI := Aside0.mk hI
        have HLT := Aside0.mk hlt
        have hlen : u.pix.length < 268435456 := by omega
        clear hs hok hUx hcs hI hlt hln hpx hpx2
        go_wp2_with fail
        go_still_tail 15, (by kernel_rfl)
        repeat still_step
        (try refine wpStill_nil ?_)
        go_wp2_with fail
        refine (ref_Add g bits (rd u.pix I) u _ w0 _ HUK.out HUX.out hlen HSS.out).mono ?_; rintro e w3 ⟨rfl, hs⟩
        have HS3 := Aside0.mk hs.swap; clear hs
        go_wp2_with fail
        go_roundw
        case rel =>
          refine ⟨k + 1, HLT.out, by go_num, ?_⟩
          have e : s.copy bits t.f2 (k + 1) = u.add bits (rd u.pix I) := by
            show (s.copy bits t.f2 k).add bits _ = _
            rw [HCS.out, HI.out]
          rw [e]
          exact HS3.out
        case measure => have := HLT.out; simp [intOf]; omega
      · have y1 : decide ((k : Int) < N) = false := decide_eq_false (by omega)
        have y2 : decide (k < N) = false := decide_eq_false hlt
        obtain rfl : k = N := by omega
        have HSS := Aside0.mk hs.drop
        clear hs
        go_wp2_with fail
        go_ret
        exact ⟨rfl, HSS.out⟩
  have z2 : (t.f0 == 2) = false := by simp [k2]
  by_cases k3 : t.f0 = 3
  · have z3 : (t.f0 == 3) = true := by simp [k3]
    have noway : ¬ ((0 ≤ t.f3 ∧ t.f3 < s.cl.length) ∧ (s.pix.length : Int) < most) → way most s t = 0 := fun h => by unfold way; rw [if_neg (fun h => k1 h.1), if_neg (fun h => k2 h.1), if_neg (fun hh => h hh.2)]
    have NW := Aside0.mk noway
    clear noway
    by_cases c1 : t.f3 < 0
    · rw [NW.out (by omega)]
      have e1 : decide (0 ≤ t.f3) = false := decide_eq_false (by omega)
      clear hs hs2 hk ht k1 k2 k3 c1 hpix hcl NW
      go_enter Try.func22, Try.ntmps22
      go_wp2_with fail
      generalize w.alloc (.cells #[.int .i64 t.f0, .int .i64 t.f1, .int .i64 t.f2, .int .i64 t.f3, .int .u32 t.f4] 37) = W1 at *
      go_quiet (fail)
      have HS1 := Aside0.mk (HS.out.drewN nq)
      obtain ⟨B, c, K, m0, m1, _, _⟩ := refA_cells HS1.out
      have t0 := (HS1.out.cell 0).trans rfl
      have t1 := (HS1.out.cell 1).trans rfl
      have t2 := (HS1.out.cell 2).trans rfl
      have t3 := (HS1.out.cell 3).trans rfl
      generalize W1.drewN nq = W2 at *
      go_wp2_with fail
      go_quiet (fail)
      go_wp2_with fail
      go_ret
      exact ⟨rfl, (HS1.out.drewN nq).drop⟩
    have e1 : decide (0 ≤ t.f3) = true := decide_eq_true (by omega)
    by_cases c2 : t.f3 ≥ (s.cl.length : Int)
    · rw [NW.out (by omega)]
      have e2 : decide (t.f3 < (s.cl.length : Int)) = false := decide_eq_false (by omega)
      clear hs hs2 hk ht k1 k2 k3 c1 c2 hpix hcl NW
      go_enter Try.func22, Try.ntmps22
      go_wp2_with fail
      generalize w.alloc (.cells #[.int .i64 t.f0, .int .i64 t.f1, .int .i64 t.f2, .int .i64 t.f3, .int .u32 t.f4] 37) = W1 at *
      go_quiet (fail)
      have HS1 := Aside0.mk (HS.out.drewN nq)
      obtain ⟨B, c, K, m0, m1, _, _⟩ := refA_cells HS1.out
      have t0 := (HS1.out.cell 0).trans rfl
      have t1 := (HS1.out.cell 1).trans rfl
      have t2 := (HS1.out.cell 2).trans rfl
      have t3 := (HS1.out.cell 3).trans rfl
      generalize W1.drewN nq = W2 at *
      go_wp2_with fail
      go_quiet (fail)
      go_wp2_with fail
      go_ret
      exact ⟨rfl, (HS1.out.drewN nq).drop⟩
    have e2 : decide (t.f3 < (s.cl.length : Int)) = true := decide_eq_true (by omega)
    by_cases c3 : (s.pix.length : Int) ≥ most
    · rw [NW.out (by omega)]
      have e3 : decide ((s.pix.length : Int) < most) = false := decide_eq_false (by omega)
      clear hs hs2 hk ht k1 k2 k3 c1 c2 c3 hpix hcl NW
      go_enter Try.func22, Try.ntmps22
      go_wp2_with fail
      generalize w.alloc (.cells #[.int .i64 t.f0, .int .i64 t.f1, .int .i64 t.f2, .int .i64 t.f3, .int .u32 t.f4] 37) = W1 at *
      go_quiet (fail)
      have HS1 := Aside0.mk (HS.out.drewN nq)
      obtain ⟨B, c, K, m0, m1, _, _⟩ := refA_cells HS1.out
      have t0 := (HS1.out.cell 0).trans rfl
      have t1 := (HS1.out.cell 1).trans rfl
      have t2 := (HS1.out.cell 2).trans rfl
      have t3 := (HS1.out.cell 3).trans rfl
      generalize W1.drewN nq = W2 at *
      go_wp2_with fail
      go_quiet (fail)
      go_wp2_with fail
      go_ret
      exact ⟨rfl, (HS1.out.drewN nq).drop⟩
    have e3 : decide ((s.pix.length : Int) < most) = true := decide_eq_true (by omega)
    have e : way most s t = 3 := by unfold way; rw [if_neg (fun h => k1 h.1), if_neg (fun h => k2 h.1), if_pos ⟨k3, ⟨by omega, by omega⟩, by omega⟩]
    rw [e]
    have hb1 : 1 ≤ bits := hk.1.1.elim (fun h => by have := h.2; rw [this] at c2; simp at c2; omega) (fun h => h.1)
    obtain ⟨I, hI⟩ := Int.eq_ofNat_of_zero_le (show 0 ≤ t.f3 by omega)
    have hIl : I < s.cl.length := by omega
    have HUX := Aside0.mk (hk.1.2 _ (rd_mem (l := s.cl) (i := t.f3) (by omega) (by omega)))
    show Calls _ _ _ _ fun e w' => e = .returned (.bool true) ∧ St w0 w' (refA g bits (s.add bits (rd s.cl t.f3)) * r)
    rw [hI] at HS m0 m1 t0 t1 t2 t3 t4 e1 e2 HUX ⊢
    have hlen : s.pix.length < 268435456 := by omega
    have i2 : (I < s.cl.length) = True := eq_true hIl
    have i3 : decide (I < s.cl.length) = true := decide_eq_true hIl
    have HB1 := Aside0.mk hb1
    clear hs hs2 hk ht k1 k2 k3 c1 c2 c3 hpix hcl NW e hI hb1
    go_enter Try.func22, Try.ntmps22
    go_wp2_with fail
    generalize w.alloc (.cells #[.int .i64 t.f0, .int .i64 t.f1, .int .i64 t.f2, .int .i64 I, .int .u32 t.f4] 37) = W1 at *
    go_quiet (fail)
    have HS1 := Aside0.mk (HS.out.drewN nq)
    obtain ⟨B, c, K, m0, m1, _, _⟩ := refA_cells HS1.out
    have t0 := (HS1.out.cell 0).trans rfl
    have t3 := (HS1.out.cell 3).trans rfl
    generalize W1.drewN nq = W2 at *
    go_wp2_with fail
    go_quiet (fail)
    have HS2 := Aside0.mk (HS1.out.drewN nq)
    obtain ⟨B, c, K, m0, m1, _, hcl⟩ := refA_cells HS2.out
    obtain ⟨b, hbk, hcl2⟩ := hcl HB1.out
    subst hbk
    have d0 := hcl2 I hIl
    have t3 := (HS2.out.cell 3).trans rfl
    generalize W2.drewN nq = W3 at *
    have HSS := Aside0.mk HS2.out.swap.drew
    clear hcl hcl2
    go_wp2_with fail
    go_still_tail 9, (by kernel_rfl)
    repeat still_step
    (try refine wpStill_nil ?_)
    go_wp2_with fail
    refine (ref_Add g bits (rd s.cl I) s _ w0 _ HK.out HUX.out hlen HSS.out).mono ?_; rintro e w3 ⟨rfl, hs⟩
    have HS3 := Aside0.mk hs.swap.drop; clear hs
    go_wp2_with fail
    go_ret
    exact ⟨rfl, HS3.out⟩
  have z3 : (t.f0 == 3) = false := by simp [k3]
  have e : way most s t = 0 := by unfold way; rw [if_neg (fun h => k1 h.1), if_neg (fun h => k2 h.1), if_neg (fun h => k3 h.1)]
  rw [e]
  clear hs hs2 hk ht k1 k2 k3 e hpix hcl
  go_enter Try.func22, Try.ntmps22
  go_wp2_with fail
  generalize w.alloc (.cells #[.int .i64 t.f0, .int .i64 t.f1, .int .i64 t.f2, .int .i64 t.f3, .int .u32 t.f4] 37) = W1 at *
  go_quiet (fail)
  have HS1 := Aside0.mk (HS.out.drewN nq)
  obtain ⟨B, c, K, m0, m1, _, _⟩ := refA_cells HS1.out
  have t0 := (HS1.out.cell 0).trans rfl
  have t1 := (HS1.out.cell 1).trans rfl
  have t2 := (HS1.out.cell 2).trans rfl
  have t3 := (HS1.out.cell 3).trans rfl
  generalize W1.drewN nq = W2 at *
  go_wp2_with fail
  go_quiet (fail)
  go_wp2_with fail
  go_ret
  exact ⟨rfl, (HS1.out.drewN nq).drop⟩
end Go.Proofs.Ytnpmnfhmlnhepaa.P
