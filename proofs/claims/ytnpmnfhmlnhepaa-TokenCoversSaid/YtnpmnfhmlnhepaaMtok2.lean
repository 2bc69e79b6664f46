/- The painter's ways. -/
import Derived.Test.YtnpmnfhmlnhepaaMtok
namespace Go.Proofs.Ytnpmnfhmlnhepaa.P
open Go Go.RowKit Go.Proofs.YtnpmnfhmlnhepaaW.PrintWords Go.Proofs.YtnpmnfhmlnhepaaW.PrintLast Go.Proofs.YtnpmnfhmlnhepaaW.PrintMore
set_option linter.unusedVariables false
set_option linter.unusedSimpArgs false
attribute [local go_sem] max2_int min2_int max_two min_two max_three min_three max_four min_four
theorem tk_w64 {n : Int} (h0 : -9223372036854775808 ≤ n) (h1 : n ≤ 9223372036854775807) : wrap64 n = n := by unfold wrap64; omega
/-- A painter at block g. -/
def paintA (g : Nat) (bits most : Int) (s : PS) : Asrt := Asrt.ex fun z : Option Addr × Nat × Option Addr => Asrt.blk g 52 #[.slice z.1 s.pix.length z.2.1, .int .i64 most, .pointer z.2.2] * (Asrt.row 35 1 (.slice z.1 s.pix.length z.2.1) s.pix.length (nums .u32 s.pix) * cacheO z.2.2 bits s.cl)
section
variable {w0 w : World} {g : Nat} {bits most : Int} {s : PS} {r : Asrt}
theorem paintA_open (h : St w0 w (paintA g bits most s * r)) : ∃ B c v, St w0 w (Asrt.blk g 52 #[.slice B s.pix.length c, .int .i64 most, .pointer v] * (Asrt.row 35 1 (.slice B s.pix.length c) s.pix.length (nums .u32 s.pix) * (cacheO v bits s.cl * r))) := by
  obtain ⟨z, hz⟩ := h.ex
  exact ⟨z.1, z.2.1, z.2.2, hz.assoc.imp (Asrt.mono_r (Asrt.assoc _ _ _))⟩
theorem paintA_shut {B : Option Addr} {c : Nat} {v : Option Addr} (h : St w0 w (Asrt.blk g 52 #[.slice B s.pix.length c, .int .i64 most, .pointer v] * (Asrt.row 35 1 (.slice B s.pix.length c) s.pix.length (nums .u32 s.pix) * (cacheO v bits s.cl * r)))) : St w0 w (paintA g bits most s * r) :=
  St.toEx (B, c, v) ((h.imp (Asrt.mono_r (Asrt.assoc' _ _ _))).assoc')
end
set_option maxHeartbeats 1000000 in
set_option maxRecDepth 100000 in
theorem paint_New (most bits : Int) (r : Asrt) (w0 w : World) (hb : bitsOk bits) (hs : St w0 w r) :
    Calls Try.prog 18 #[.int .i64 most, .int .i64 bits] w fun e w' => ∃ g, e = .returned (.pointer (some ⟨g, 0, none⟩)) ∧ St w0 w' (paintA g bits most (PS.start bits) * r) := by
  have HS := Aside0.mk hs; clear hs
  go_enter Try.func18, Try.ntmps18
  go_wp2_with fail
  refine (cacheO_New bits r w0 w hb HS.out).mono ?_; rintro e w1 ⟨v, x, rfl, hs⟩
  have HS1 := Aside0.mk hs; clear hs HS
  go_wp2_with fail
  go_ret
  refine ⟨_, rfl, paintA_shut (s := PS.start bits) (B := none) (c := 0) (v := v) ?_⟩
  exact ((HS1.out.rowNil 35 1).alloc #[.slice none 0 0, .int .i64 most, .pointer v] 52)
set_option maxHeartbeats 1000000 in
set_option maxRecDepth 100000 in
theorem paint_add (g : Nat) (bits most x : Int) (s : PS) (r : Asrt) (w0 w : World) (hk : s.ok bits) (hx : U32 x) (hl : s.pix.length < 268435456) (hs : St w0 w (paintA g bits most s * r)) :
    Calls Try.prog 30 #[.pointer (some ⟨g, 0, none⟩), .int .u32 x] w fun e w' => e = .returned (.tuple #[]) ∧ St w0 w' (paintA g bits most (s.add bits x) * r) := by
  obtain ⟨B, c, v, h1⟩ := paintA_open hs
  have m0 := (h1.cell 0).trans rfl
  have hy : (s.pix.length + 1) * 4 ≤ 140737488355328 := by omega
  have HS := Aside0.mk h1.swap
  have HK := Aside0.mk hk
  have HX := Aside0.mk hx
  clear hs h1 hk hx
  go_enter Try.func30, Try.ntmps30
  go_wp2_with (at_builtin; refine St.append_num (w0 := w0) rfl (.tmp 8) (.tmp 10) 24 35 .u32 4 rfl Try.underlying24 (by kernel_rfl) (by decide) _ s.pix.length s.pix x rfl rfl HS.out hy ?_; intro A4 x4 w3 hs3; have k2 := (hs3.swap.cell 0).trans rfl; have f2 := hs3.swap.frozen 0; have h4 := (hs3.swap.set 0 (.slice A4 (s.pix.length + 1) x4)); have p2 := (h4.cell 2).trans rfl; have HS3 := Aside0.mk h4; clear hs3 h4)
  refine (cacheO_Add v bits x s.cl _ w0 _ HK.out.1 HX.out HS3.out.rot3).mono ?_; rintro e w4 ⟨rfl, hs⟩
  have HS4 := Aside0.mk hs.unrot3; clear hs HS3 HS m0 k2 f2 p2
  go_wp2_with fail
  go_end0
  refine ⟨rfl, paintA_shut (s := s.add bits x) (B := A4) (c := x4) (v := v) ?_⟩
  have e : (s.add bits x).pix.length = s.pix.length + 1 := by simp [PS.add]
  rw [e]
  exact HS4.out
set_option maxHeartbeats 1000000 in
set_option maxRecDepth 100000 in
theorem paint_Full (g : Nat) (bits most : Int) (s : PS) (r : Asrt) (w0 w : World) (hs : St w0 w (paintA g bits most s * r)) :
    Calls Try.prog 20 #[.pointer (some ⟨g, 0, none⟩)] w fun e w' => e = .returned (.bool (decide (most ≤ (s.pix.length : Int)))) ∧ Drawn0 w w' := by
  obtain ⟨B, c, v, h1⟩ := paintA_open hs
  have m0 := (h1.cell 0).trans rfl
  have m1 := (h1.cell 1).trans rfl
  clear hs h1
  go_enter Try.func20, Try.ntmps20
  go_wp2_with fail
  go_quiet (fail)
  go_wp2_with fail
  go_ret
  exact ⟨rfl, ⟨_, rfl⟩⟩
set_option maxHeartbeats 4000000 in
set_option maxRecDepth 100000 in
theorem paint_copy (g : Nat) (bits most : Int) (s : PS) (t : Tk) (r : Asrt) (w0 w : World) (hk : s.ok bits) (hm : most ≤ 268435456) (hl : (s.pix.length : Int) ≤ most) (hs : St w0 w (paintA g bits most s * r)) :
    Calls Try.prog 31 #[.pointer (some ⟨g, 0, none⟩), .agg #[.int .i64 t.f0, .int .i64 t.f1, .int .i64 t.f2, .int .i64 t.f3, .int .u32 t.f4]] w fun e w' => e = .returned (.bool (decide (mayCopy most s t))) ∧ St w0 w' (paintA g bits most (if mayCopy most s t then s.copy bits t.f2 t.f1.toNat else s) * r) := by
  obtain ⟨B, c, v, h1⟩ := paintA_open hs
  have h2 := h1.alloc #[.int .i64 t.f0, .int .i64 t.f1, .int .i64 t.f2, .int .i64 t.f3, .int .u32 t.f4] 37
  have m0 := (h2.swap.cell 0).trans rfl
  have m1 := (h2.swap.cell 1).trans rfl
  have t1 := (h2.cell 1).trans rfl
  have t2 := (h2.cell 2).trans rfl
  have hs2 := hs.alloc #[.int .i64 t.f0, .int .i64 t.f1, .int .i64 t.f2, .int .i64 t.f3, .int .u32 t.f4] 37
  have HS := Aside0.mk hs2
  have HK := Aside0.mk hk
  clear hs h1 h2 hs2 hk
  have no : ∀ W : World, St w0 W (Asrt.blk w.heap.size 37 #[.int .i64 t.f0, .int .i64 t.f1, .int .i64 t.f2, .int .i64 t.f3, .int .u32 t.f4] * (paintA g bits most s * r)) → ∀ nq, St w0 (W.drewN nq) (paintA g bits most s * r) := fun W h nq => (h.drewN nq).drop
  have NO := Aside0.mk no
  clear no
  by_cases c1 : t.f1 < 1
  · rw [decide_eq_false (fun h : mayCopy most s t => by have := h.1; omega), if_neg (fun h : mayCopy most s t => by have := h.1; omega)]
    have e1 : decide (t.f1 < 1) = true := decide_eq_true c1
    clear c1
    go_enter Try.func31, Try.ntmps31
    go_wp2_with fail
    generalize w.alloc (.cells #[.int .i64 t.f0, .int .i64 t.f1, .int .i64 t.f2, .int .i64 t.f3, .int .u32 t.f4] 37) = W1 at *
    go_quiet (fail)
    go_wp2_with fail
    go_ret
    exact ⟨rfl, NO.out _ HS.out _⟩
  have e1 : decide (t.f1 < 1) = false := decide_eq_false c1
  by_cases c2 : t.f1 > 4096
  · rw [decide_eq_false (fun h : mayCopy most s t => by have := h.2.1; omega), if_neg (fun h : mayCopy most s t => by have := h.2.1; omega)]
    have e2 : decide (4096 < t.f1) = true := decide_eq_true c2
    clear c1 c2
    go_enter Try.func31, Try.ntmps31
    go_wp2_with fail
    generalize w.alloc (.cells #[.int .i64 t.f0, .int .i64 t.f1, .int .i64 t.f2, .int .i64 t.f3, .int .u32 t.f4] 37) = W1 at *
    go_quiet (fail)
    go_wp2_with fail
    go_ret
    exact ⟨rfl, NO.out _ HS.out _⟩
  have e2 : decide (4096 < t.f1) = false := decide_eq_false c2
  by_cases c3 : t.f2 < 1
  · rw [decide_eq_false (fun h : mayCopy most s t => by have := h.2.2.1; omega), if_neg (fun h : mayCopy most s t => by have := h.2.2.1; omega)]
    have e3 : decide (t.f2 < 1) = true := decide_eq_true c3
    clear c1 c2 c3
    go_enter Try.func31, Try.ntmps31
    go_wp2_with fail
    generalize w.alloc (.cells #[.int .i64 t.f0, .int .i64 t.f1, .int .i64 t.f2, .int .i64 t.f3, .int .u32 t.f4] 37) = W1 at *
    go_quiet (fail)
    go_wp2_with fail
    go_ret
    exact ⟨rfl, NO.out _ HS.out _⟩
  have e3 : decide (t.f2 < 1) = false := decide_eq_false c3
  by_cases c4 : t.f2 > s.pix.length
  · rw [decide_eq_false (fun h : mayCopy most s t => by have := h.2.2.2.1; omega), if_neg (fun h : mayCopy most s t => by have := h.2.2.2.1; omega)]
    have e4 : decide ((s.pix.length : Int) < t.f2) = true := decide_eq_true c4
    clear c1 c2 c3 c4
    go_enter Try.func31, Try.ntmps31
    go_wp2_with fail
    generalize w.alloc (.cells #[.int .i64 t.f0, .int .i64 t.f1, .int .i64 t.f2, .int .i64 t.f3, .int .u32 t.f4] 37) = W1 at *
    go_quiet (fail)
    go_wp2_with fail
    go_ret
    exact ⟨rfl, NO.out _ HS.out _⟩
  have e4 : decide ((s.pix.length : Int) < t.f2) = false := decide_eq_false c4
  have q1 : wrap64 (most - (s.pix.length : Int)) = most - s.pix.length := tk_w64 (by omega) (by omega)
  have q2 := i64_w (most - (s.pix.length : Int)); rw [q1] at q2
  by_cases c5 : t.f1 > most - s.pix.length
  · rw [decide_eq_false (fun h : mayCopy most s t => by have := h.2.2.2.2; omega), if_neg (fun h : mayCopy most s t => by have := h.2.2.2.2; omega)]
    have e5 : decide (most - (s.pix.length : Int) < t.f1) = true := decide_eq_true c5
    clear c1 c2 c3 c4 c5
    go_enter Try.func31, Try.ntmps31
    go_wp2_with fail
    generalize w.alloc (.cells #[.int .i64 t.f0, .int .i64 t.f1, .int .i64 t.f2, .int .i64 t.f3, .int .u32 t.f4] 37) = W1 at *
    go_quiet (fail)
    go_wp2_with fail
    go_ret
    exact ⟨rfl, NO.out _ HS.out _⟩
  have e5 : decide (most - (s.pix.length : Int) < t.f1) = false := decide_eq_false c5
  have hmay : mayCopy most s t := ⟨by omega, by omega, by omega, by omega, by omega⟩
  rw [decide_eq_true hmay, if_pos hmay]
  obtain ⟨N, hN⟩ := Int.eq_ofNat_of_zero_le (show 0 ≤ t.f1 by omega)
  have hN2 : N ≤ 4096 := by omega
  have hfit : (s.pix.length : Int) + N ≤ most := by omega
  have hd1 : 1 ≤ t.f2 := by omega
  have hd2 : t.f2 ≤ s.pix.length := by omega
  have eN : t.f1.toNat = N := by omega
  rw [eN]
  clear c1 c2 c3 c4 c5 hmay eN NO
  rw [hN] at HS m0 m1 t1 t2 e1 e2 e5 ⊢
  go_enter Try.func31, Try.ntmps31
  go_wp2_with fail
  generalize w.alloc (.cells #[.int .i64 t.f0, .int .i64 N, .int .i64 t.f2, .int .i64 t.f3, .int .u32 t.f4] 37) = W1 at *
  go_quiet (fail)
  have HS1 := Aside0.mk (HS.out.drewN nq)
  have u1 := (HS1.out.cell 1).trans rfl
  generalize W1.drewN nq = W2 at *
  go_wp2_with fail
  go_loopw [45] (fun i wr => ∃ k : Nat, k ≤ N ∧ i = .int .i64 k ∧ St w0 wr (Asrt.blk w.heap.size 37 #[.int .i64 t.f0, .int .i64 N, .int .i64 t.f2, .int .i64 t.f3, .int .u32 t.f4] * (paintA g bits most (s.copy bits t.f2 k) * r))) (fun i _ => N - (intOf i).toNat)
  case atStart => exact ⟨0, by omega, rfl, HS1.out⟩
  case round =>
    obtain ⟨k, hk, rfl, hs⟩ := hrel
    clear HS1 HS m0 m1 t1 t2 e1 e2 e3 e4 e5 u1
    by_cases hlt : k < N
    · have y1 : decide ((k : Int) < N) = true := decide_eq_true (by omega)
      have y2 : decide (k < N) = true := decide_eq_true hlt
      have hln : (s.copy bits t.f2 k).pix.length = s.pix.length + k := PS.copy_len k
      have hok := PS.copy_ok HK.out hd1 hd2 k
      generalize hcs : s.copy bits t.f2 k = u at *
      obtain ⟨B1, c1, v1, h1⟩ := paintA_open hs.swap
      have m0 := (h1.cell 0).trans rfl
      obtain ⟨b1, rfl⟩ := h1.swap.rowForm (by omega)
      obtain ⟨I, hI⟩ := Int.eq_ofNat_of_zero_le (show 0 ≤ (u.pix.length : Int) - t.f2 by omega)
      have q3 : wrap64 ((u.pix.length : Int) - t.f2) = I := by rw [hI]; exact tk_w64 (by omega) (by omega)
      have q4 := i64_w ((u.pix.length : Int) - t.f2); rw [q3] at q4
      have hIl : I < u.pix.length := by omega
      have cI := (h1.swap.rowAt (I : Int) (by omega) (by omega)).1
      simp only [Int.toNat_natCast] at cI
      have t2 := (hs.cell 2).trans rfl
      have i1 : decide ((I : Int) < u.pix.length) = true := decide_eq_true (by omega)
      have i2 : (I < u.pix.length) = True := eq_true hIl
      have i3 : ((I : Int) < u.pix.length) = True := eq_true (by omega)
      have hUx : U32 (rd u.pix I) := hok.2 _ (rd_mem (by omega) (by omega))
      have HSS := Aside0.mk (hs.swap.drew)
      have HUK := Aside0.mk hok
      have HUX := Aside0.mk hUx
      have HCS := Aside0.mk hcs
      have HI := Aside0.mk hI
      have HLT := Aside0.mk hlt
      have hlen : u.pix.length < 268435456 := by omega
      clear hs h1 hok hUx hcs hI hlt hln
      go_wp2_with fail
      go_still_tail 15, (by kernel_rfl)
      repeat still_step
      (try refine wpStill_nil ?_)
      go_wp2_with fail
      refine (paint_add g bits most (rd u.pix I) u _ w0 _ HUK.out HUX.out hlen HSS.out).mono ?_; rintro e w3 ⟨rfl, hs⟩
      have HS3 := Aside0.mk hs.swap; clear hs
      go_wp2_with fail
      go_roundw
      case rel =>
        refine ⟨k + 1, HLT.out, by go_num, ?_⟩
        have e : s.copy bits t.f2 (k + 1) = u.add bits (rd u.pix I) := by
          show (s.copy bits t.f2 k).add bits _ = _
          rw [HCS.out, HI.out]
        rw [e]
        exact HS3.out
      case measure => have := HLT.out; simp [intOf]; omega
    · have y1 : decide ((k : Int) < N) = false := decide_eq_false (by omega)
      have y2 : decide (k < N) = false := decide_eq_false hlt
      obtain rfl : k = N := by omega
      have HSS := Aside0.mk hs.drop
      clear hs
      go_wp2_with fail
      go_ret
      exact ⟨rfl, HSS.out⟩
end Go.Proofs.Ytnpmnfhmlnhepaa.P
