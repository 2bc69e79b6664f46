/- A step of the painter; the pixels of steps. -/
import Derived.Test.YtnpmnfhmlnhepaaMtok2
import Derived.Test.YtnpmnfhmlnhepaaMfits
namespace Go.Proofs.Ytnpmnfhmlnhepaa.P
open Go Go.RowKit Go.Proofs.YtnpmnfhmlnhepaaW.PrintWords Go.Proofs.YtnpmnfhmlnhepaaW.PrintLast Go.Proofs.YtnpmnfhmlnhepaaW.PrintMore
set_option linter.unusedVariables false
set_option linter.unusedSimpArgs false
attribute [local go_sem] max2_int min2_int max_two min_two max_three min_three max_four min_four
set_option maxHeartbeats 4000000 in
set_option maxRecDepth 100000 in
theorem paint_Step (g : Nat) (bits most : Int) (s : PS) (t : Tk) (r : Asrt) (w0 w : World) (hk : s.ok bits) (ht : U32 t.f4) (hm : most ≤ 268435456) (hs : St w0 w (paintA g bits most s * r)) :
    Calls Try.prog 19 #[.pointer (some ⟨g, 0, none⟩), .agg #[.int .i64 t.f0, .int .i64 t.f1, .int .i64 t.f2, .int .i64 t.f3, .int .u32 t.f4]] w fun e w' => e = .returned (.bool (s.step bits most t).isSome) ∧ St w0 w' (paintA g bits most ((s.step bits most t).getD s) * r) := by
  obtain ⟨B, c, v, h1⟩ := paintA_open hs
  have h2 := h1.alloc #[.int .i64 t.f0, .int .i64 t.f1, .int .i64 t.f2, .int .i64 t.f3, .int .u32 t.f4] 37
  have m0 := (h2.swap.cell 0).trans rfl
  have m1 := (h2.swap.cell 1).trans rfl
  have hs2 := hs.alloc #[.int .i64 t.f0, .int .i64 t.f1, .int .i64 t.f2, .int .i64 t.f3, .int .u32 t.f4] 37
  have HS := Aside0.mk hs2
  have H1 := Aside0.mk h2
  have HK := Aside0.mk hk
  have HT := Aside0.mk ht
  clear hs h1 h2 hs2 hk ht
  by_cases c0 : (s.pix.length : Int) ≥ most
  · have e : s.step bits most t = none := by unfold PS.step; rw [if_pos c0]
    rw [e]
    have y1 : decide (most ≤ (s.pix.length : Int)) = true := decide_eq_true c0
    clear c0 e
    go_enter Try.func19, Try.ntmps19
    go_wp2_with fail
    generalize w.alloc (.cells #[.int .i64 t.f0, .int .i64 t.f1, .int .i64 t.f2, .int .i64 t.f3, .int .u32 t.f4] 37) = W1 at *
    go_quiet (fail)
    go_wp2_with fail
    go_ret
    exact ⟨rfl, (HS.out.drewN nq).drop⟩
  have y1 : decide (most ≤ (s.pix.length : Int)) = false := decide_eq_false c0
  have hlen : s.pix.length < 268435456 := by omega
  by_cases k1 : t.f0 = 1
  · have e : s.step bits most t = some (s.add bits t.f4) := by unfold PS.step; rw [if_neg c0, if_pos k1]
    rw [e]
    have z1 : (t.f0 == 1) = true := by simp [k1]
    clear c0 e k1
    go_enter Try.func19, Try.ntmps19
    go_wp2_with fail
    generalize w.alloc (.cells #[.int .i64 t.f0, .int .i64 t.f1, .int .i64 t.f2, .int .i64 t.f3, .int .u32 t.f4] 37) = W1 at *
    go_quiet (fail)
    have HS1 := Aside0.mk (HS.out.drewN nq)
    have u0 := (HS1.out.cell 0).trans rfl
    have u4 := (HS1.out.cell 4).trans rfl
    generalize W1.drewN nq = W2 at *
    clear m0 m1
    go_wp2_with fail
    refine (paint_add g bits most t.f4 s _ w0 _ HK.out HT.out hlen HS1.out.swap).mono ?_; rintro e w3 ⟨rfl, hs⟩
    have HS3 := Aside0.mk hs.swap.drop; clear hs
    go_wp2_with fail
    go_ret
    exact ⟨rfl, HS3.out⟩
  have z1 : (t.f0 == 1) = false := by simp [k1]
  by_cases k2 : t.f0 = 2
  · have e : s.step bits most t = if mayCopy most s t then some (s.copy bits t.f2 t.f1.toNat) else none := by unfold PS.step; rw [if_neg c0, if_neg k1, if_pos k2]
    have z2 : (t.f0 == 2) = true := by simp [k2]
    have hle : (s.pix.length : Int) ≤ most := by omega
    have HCP := Aside0.mk (fun W (h : St w0 W (paintA g bits most s * (Asrt.blk w.heap.size 37 #[.int .i64 t.f0, .int .i64 t.f1, .int .i64 t.f2, .int .i64 t.f3, .int .u32 t.f4] * r))) => paint_copy g bits most s t _ w0 W HK.out hm hle h)
    by_cases hmc : mayCopy most s t
    · rw [if_pos hmc] at e
      rw [e]
      rw [decide_eq_true hmc, if_pos hmc] at HCP
      clear c0 e k1 k2 hmc
      go_enter Try.func19, Try.ntmps19
      go_wp2_with fail
      generalize w.alloc (.cells #[.int .i64 t.f0, .int .i64 t.f1, .int .i64 t.f2, .int .i64 t.f3, .int .u32 t.f4] 37) = W1 at *
      go_quiet (fail)
      have HS1 := Aside0.mk (HS.out.drewN nq)
      have u0 := (HS1.out.cell 0).trans rfl
      have u1 := (HS1.out.cell 1).trans rfl
      have u2 := (HS1.out.cell 2).trans rfl
      have u3 := (HS1.out.cell 3).trans rfl
      have u4 := (HS1.out.cell 4).trans rfl
      generalize W1.drewN nq = W2 at *
      clear m0 m1
      go_wp2_with fail
      refine (HCP.out _ HS1.out.swap).mono ?_; rintro e w3 ⟨rfl, hs⟩
      have HS3 := Aside0.mk hs.swap.drop; clear hs
      go_wp2_with fail
      go_ret
      exact ⟨rfl, HS3.out⟩
    · rw [if_neg hmc] at e
      rw [e]
      rw [decide_eq_false hmc, if_neg hmc] at HCP
      clear c0 e k1 k2 hmc
      go_enter Try.func19, Try.ntmps19
      go_wp2_with fail
      generalize w.alloc (.cells #[.int .i64 t.f0, .int .i64 t.f1, .int .i64 t.f2, .int .i64 t.f3, .int .u32 t.f4] 37) = W1 at *
      go_quiet (fail)
      have HS1 := Aside0.mk (HS.out.drewN nq)
      have u0 := (HS1.out.cell 0).trans rfl
      have u1 := (HS1.out.cell 1).trans rfl
      have u2 := (HS1.out.cell 2).trans rfl
      have u3 := (HS1.out.cell 3).trans rfl
      have u4 := (HS1.out.cell 4).trans rfl
      generalize W1.drewN nq = W2 at *
      clear m0 m1
      go_wp2_with fail
      refine (HCP.out _ HS1.out.swap).mono ?_; rintro e w3 ⟨rfl, hs⟩
      have HS3 := Aside0.mk hs.swap.drop; clear hs
      go_wp2_with fail
      go_ret
      exact ⟨rfl, HS3.out⟩
  have z2 : (t.f0 == 2) = false := by simp [k2]
  by_cases k3 : t.f0 = 3
  · have z3 : (t.f0 == 3) = true := by simp [k3]
    have HG := Aside0.mk (fun W (h : St w0 W _) => cacheO_Get v bits t.f3 s.cl (Asrt.blk w.heap.size 37 #[.int .i64 t.f0, .int .i64 t.f1, .int .i64 t.f2, .int .i64 t.f3, .int .u32 t.f4] * (Asrt.blk g 52 #[.slice B s.pix.length c, .int .i64 most, .pointer v] * (Asrt.row 35 1 (.slice B s.pix.length c) s.pix.length (nums .u32 s.pix) * r))) w0 W HK.out.1 h)
    by_cases c3 : 0 ≤ t.f3 ∧ t.f3 < (s.cl.length : Int)
    · have e : s.step bits most t = some (s.add bits (rd s.cl t.f3)) := by unfold PS.step; rw [if_neg c0, if_neg k1, if_neg k2, if_pos k3, if_pos c3]
      rw [e]
      have HUX := Aside0.mk (HK.out.1.2 _ (rd_mem c3.1 c3.2))
      rw [if_pos c3, decide_eq_true c3] at HG
      clear c0 e c3 k1 k2 k3
      go_enter Try.func19, Try.ntmps19
      go_wp2_with fail
      generalize w.alloc (.cells #[.int .i64 t.f0, .int .i64 t.f1, .int .i64 t.f2, .int .i64 t.f3, .int .u32 t.f4] 37) = W1 at *
      go_quiet (fail)
      have HS1 := Aside0.mk (HS.out.drewN nq)
      have HH1 := Aside0.mk (H1.out.drewN nq).rot4
      have u0 := (HS1.out.cell 0).trans rfl
      have u3 := (HS1.out.cell 3).trans rfl
      have p2 := (HH1.out.rot3.cell 2).trans rfl
      generalize W1.drewN nq = W2 at *
      clear m0 m1
      go_wp2_with fail
      go_quiet ((go_at_call 32; with_reducible exact Calls.quiet_of_same (still_of (HG.out _ (HH1.out.drewN _)))))
      have HS2 := Aside0.mk (HS1.out.drewN nq)
      generalize W2.drewN nq = W3 at *
      go_wp2_with fail
      refine (paint_add g bits most (rd s.cl t.f3) s _ w0 _ HK.out HUX.out hlen HS2.out.swap).mono ?_; rintro e w3 ⟨rfl, hs⟩
      have HS3 := Aside0.mk hs.swap.drop; clear hs
      go_wp2_with fail
      go_ret
      exact ⟨rfl, HS3.out⟩
    · have e : s.step bits most t = none := by unfold PS.step; rw [if_neg c0, if_neg k1, if_neg k2, if_pos k3, if_neg c3]
      rw [e]
      rw [if_neg c3, decide_eq_false c3] at HG
      clear c0 e c3 k1 k2 k3
      go_enter Try.func19, Try.ntmps19
      go_wp2_with fail
      generalize w.alloc (.cells #[.int .i64 t.f0, .int .i64 t.f1, .int .i64 t.f2, .int .i64 t.f3, .int .u32 t.f4] 37) = W1 at *
      go_quiet (fail)
      have HS1 := Aside0.mk (HS.out.drewN nq)
      have HH1 := Aside0.mk (H1.out.drewN nq).rot4
      have u0 := (HS1.out.cell 0).trans rfl
      have u3 := (HS1.out.cell 3).trans rfl
      have p2 := (HH1.out.rot3.cell 2).trans rfl
      generalize W1.drewN nq = W2 at *
      clear m0 m1
      go_wp2_with fail
      go_quiet ((go_at_call 32; with_reducible exact Calls.quiet_of_same (still_of (HG.out _ (HH1.out.drewN _)))))
      have HS2 := Aside0.mk (HS1.out.drewN nq)
      generalize W2.drewN nq = W3 at *
      go_wp2_with fail
      go_ret
      exact ⟨rfl, HS2.out.drop⟩
  have z3 : (t.f0 == 3) = false := by simp [k3]
  have e : s.step bits most t = none := by unfold PS.step; rw [if_neg c0, if_neg k1, if_neg k2, if_neg k3]
  rw [e]
  clear c0 e k1 k2 k3
  go_enter Try.func19, Try.ntmps19
  go_wp2_with fail
  generalize w.alloc (.cells #[.int .i64 t.f0, .int .i64 t.f1, .int .i64 t.f2, .int .i64 t.f3, .int .u32 t.f4] 37) = W1 at *
  go_quiet (fail)
  have HS1 := Aside0.mk (HS.out.drewN nq)
  have u0 := (HS1.out.cell 0).trans rfl
  generalize W1.drewN nq = W2 at *
  clear m0 m1
  go_wp2_with fail
  go_ret
  exact ⟨rfl, HS1.out.drop⟩
end Go.Proofs.Ytnpmnfhmlnhepaa.P
