/- The document's painter. -/
import Derived.Test.YtnpmnfhmlnhepaaMtok4
namespace Go.Proofs.Ytnpmnfhmlnhepaa.P
open Go Go.RowKit Go.Proofs.YtnpmnfhmlnhepaaW.PrintWords Go.Proofs.YtnpmnfhmlnhepaaW.PrintLast Go.Proofs.YtnpmnfhmlnhepaaW.PrintMore Go.Proofs.Ytnpmnfhmlnhepaa.U
set_option linter.unusedVariables false
set_option linter.unusedSimpArgs false
attribute [local go_sem] max2_int min2_int max_two min_two max_three min_three max_four min_four
theorem half_step {p : Int} (hp : 0 ≤ p ∧ p < 4294967296) (i : Nat) : 0 ≤ p / 2 ^ i ∧ p / 2 ^ i < 4294967296 ∧ p / 2 ^ i / 2 = p / 2 ^ (i + 1) := by
  have hq2 : p / 2 ^ i ≤ p := Int.ediv_le_self _ hp.1
  refine ⟨Int.ediv_nonneg hp.1 (by have := pow_pos i; omega), by omega, ?_⟩
  rw [Int.ediv_ediv_of_nonneg (by have := pow_pos i; omega), pow_add]
  rfl
set_option maxHeartbeats 1000000 in
set_option maxRecDepth 100000 in
theorem ref_slot_in (argb bits : Int) (w : World) (hu : U32 argb) (h0 : 1 ≤ bits) (h1 : bits ≤ 11) :
    Calls Try.prog 27 #[.int .u32 argb, .int .i64 bits] w fun e w' => e = .returned (.int .i64 (slotN argb bits)) ∧ w = w' := by
  obtain ⟨u0, u1⟩ := hu
  obtain ⟨b, hb⟩ := Int.eq_ofNat_of_zero_le (show 0 ≤ 32 - bits by omega)
  have t1 : decide (bits < 1) = false := decide_eq_false (by omega)
  have t2 : decide (11 < bits) = false := decide_eq_false (by omega)
  have e1 : IntKind.u64.wrap argb = argb := wu64 (by omega) (by omega)
  have e2 : IntKind.u64.wrap (argb * 506832829) = argb * 506832829 := wu64 (by omega) (by omega)
  have e3 : Int.tmod (argb * 506832829) 4294967296 = (506832829 * argb) % 4294967296 := by rw [Int.tmod_eq_emod_of_nonneg (by omega), Int.mul_comm]
  have e4 : wrap64 (32 - bits) = b := by rw [hb]; exact w64 (by omega) (by omega)
  have e5 := i64_w (32 - bits); rw [e4] at e5
  have hs : slotN argb bits = (506832829 * argb) % 4294967296 / 2 ^ b := by unfold slotN; rw [show (32 - bits).toNat = b by omega]
  have hP : 0 ≤ (506832829 * argb) % 4294967296 ∧ (506832829 * argb) % 4294967296 < 4294967296 := by omega
  rw [hs]
  have f1 : argb % 18446744073709551616 = argb := by omega
  have f2 : argb * 506832829 % 18446744073709551616 = argb * 506832829 := by omega
  generalize hp : (506832829 * argb) % 4294967296 = p at *
  have HP := Aside0.mk hP
  have hb31 : b ≤ 31 := by omega
  clear hs hP hb h0 h1 u0 u1 hp
  go_enter Try.func27, Try.ntmps27
  go_wp2_with fail
  go_loopw [5, 6] (fun v i wr => ∃ k : Nat, k ≤ b ∧ v = .int .u64 (p / 2 ^ k) ∧ i = .int .i64 k ∧ wr = w) (fun _ i _ => b - (intOf i).toNat)
  case atStart => exact ⟨0, by omega, by simp, rfl, rfl⟩
  case round =>
    obtain ⟨k, hk, rfl, rfl, rfl⟩ := hrel
    obtain ⟨q0, q1, q2⟩ := half_step HP.out k
    by_cases hlt : k < b
    · have y1 : decide ((k : Int) < b) = true := decide_eq_true (by omega)
      have y2 : decide (k < b) = true := decide_eq_true hlt
      have HLT := Aside0.mk hlt
      have Q2 := Aside0.mk q2
      generalize p / 2 ^ k = z at *
      have z1 : Int.tdiv z 2 = z / 2 := Int.tdiv_eq_ediv_of_nonneg q0
      have z2 : IntKind.u64.wrap (z / 2) = z / 2 := wu64 (by omega) (by omega)
      have z3 : z / 2 % 18446744073709551616 = z / 2 := by omega
      clear hlt q2
      go_wp2_with fail
      go_roundw
      case rel => exact ⟨k + 1, HLT.out, by rw [← Q2.out], by go_num, by first | rfl | trivial⟩
      case measure => have := HLT.out; simp [intOf]; omega
    · have y1 : decide ((k : Int) < b) = false := decide_eq_false (by omega)
      have y2 : decide (k < b) = false := decide_eq_false hlt
      obtain rfl : k = b := by omega
      generalize hz : p / 2 ^ k = z at *
      have HZ := Aside0.mk hz
      clear hz
      have z1 : wrap64 z = z := w64 (by omega) (by omega)
      have z2 := i64_w z; rw [z1] at z2
      clear hlt q2
      go_wp2_with fail
      go_ret
      rw [HZ.out]
      first | exact ⟨rfl, rfl⟩ | exact ⟨by simp [z1], rfl⟩
/-- The document's cache: a row, or none. -/
def cacheR (K : Option Addr) (bits : Int) (cl : List Int) : Asrt := Asrt.ex fun b : Nat => Asrt.lift ((bits = 0 ∧ K = none ∧ cl = []) ∨ (1 ≤ bits ∧ K = some ⟨b, 0, none⟩)) (if bits = 0 then Asrt.emp else Asrt.blk b 35 (nums .u32 cl).toArray)
section
variable {w0 w : World} {K : Option Addr} {bits : Int} {cl : List Int} {r : Asrt}
theorem cacheR_none (h : bits = 0) (hs : St w0 w (cacheR K bits cl * r)) : (K = none ∧ cl = []) ∧ St w0 w r := by
  obtain ⟨g, hg⟩ := hs.ex
  obtain ⟨hl, hg⟩ := hg.lift
  rw [if_pos h] at hg
  exact ⟨hl.elim (fun h => h.2) (fun h' => by omega), hg.drop⟩
theorem cacheR_some (h : 1 ≤ bits) (hs : St w0 w (cacheR K bits cl * r)) : ∃ b, K = some ⟨b, 0, none⟩ ∧ St w0 w (Asrt.blk b 35 (nums .u32 cl).toArray * r) := by
  obtain ⟨g, hg⟩ := hs.ex
  obtain ⟨hl, hg⟩ := hg.lift
  rw [if_neg (by omega)] at hg
  exact ⟨g, hl.elim (fun h' => by omega) (fun h => h.2), hg⟩
theorem cacheR_mk0 (h : bits = 0) (hs : St w0 w r) : St w0 w (cacheR none bits [] * r) := by
  refine St.toEx 0 (St.toLift (.inl ⟨h, rfl, rfl⟩) ?_)
  rw [if_pos h]
  exact hs.imp (Asrt.emp_l' r)
theorem cacheR_mk1 {b : Nat} (h : 1 ≤ bits) (hs : St w0 w (Asrt.blk b 35 (nums .u32 cl).toArray * r)) : St w0 w (cacheR (some ⟨b, 0, none⟩) bits cl * r) := by
  refine St.toEx b (St.toLift (.inr ⟨h, rfl⟩) ?_)
  rw [if_neg (by omega)]
  exact hs
end
/-- The document's painter at block g. -/
def refA (g : Nat) (bits : Int) (s : PS) : Asrt := Asrt.ex fun z : Option Addr × Nat × Option Addr => Asrt.blk g 57 #[.slice z.1 s.pix.length z.2.1, .slice z.2.2 s.cl.length s.cl.length, .int .i64 bits] * (Asrt.row 35 1 (.slice z.1 s.pix.length z.2.1) s.pix.length (nums .u32 s.pix) * cacheR z.2.2 bits s.cl)
section
variable {w0 w : World} {g : Nat} {bits : Int} {s : PS} {r : Asrt}
theorem refA_open (h : St w0 w (refA g bits s * r)) : ∃ B c K, St w0 w (Asrt.blk g 57 #[.slice B s.pix.length c, .slice K s.cl.length s.cl.length, .int .i64 bits] * (Asrt.row 35 1 (.slice B s.pix.length c) s.pix.length (nums .u32 s.pix) * (cacheR K bits s.cl * r))) := by
  obtain ⟨z, hz⟩ := h.ex
  exact ⟨z.1, z.2.1, z.2.2, hz.assoc.imp (Asrt.mono_r (Asrt.assoc _ _ _))⟩
theorem refA_shut {B : Option Addr} {c : Nat} {K : Option Addr} (h : St w0 w (Asrt.blk g 57 #[.slice B s.pix.length c, .slice K s.cl.length s.cl.length, .int .i64 bits] * (Asrt.row 35 1 (.slice B s.pix.length c) s.pix.length (nums .u32 s.pix) * (cacheR K bits s.cl * r)))) : St w0 w (refA g bits s * r) :=
  St.toEx (B, c, K) ((h.imp (Asrt.mono_r (Asrt.assoc' _ _ _))).assoc')
end
set_option maxHeartbeats 1000000 in
set_option maxRecDepth 100000 in
theorem ref_New (bits : Int) (r : Asrt) (w0 w : World) (hb : bitsOk bits) (hs : St w0 w r) :
    Calls Try.prog 21 #[.int .i64 bits] w fun e w' => ∃ g, e = .returned (.pointer (some ⟨g, 0, none⟩)) ∧ St w0 w' (refA g bits (PS.start bits) * r) := by
  by_cases c : bits = 0
  · subst c
    have h2 := (hs.rowNil 35 1).alloc #[.slice none 0 0, .slice none 0 0, .int .i64 0] 57
    have h3 := (cacheR_mk0 (bits := 0) rfl h2).swap.swap2
    have H3 := Aside0.mk h3
    clear hs h2 h3
    go_enter Try.func21, Try.ntmps21
    go_wp2_with fail
    go_ret
    refine ⟨_, rfl, ?_⟩
    have e : PS.start 0 = ⟨[], []⟩ := rfl
    rw [e]
    exact refA_shut (s := ⟨[], []⟩) (B := none) (c := 0) (K := none) H3.out
  · have hb1 : 1 ≤ bits := by unfold bitsOk at hb; omega
    obtain ⟨m, hm, hm2, hm3⟩ := pow11 hb1 hb.2
    have hmk := print_make (P := Try.prog) 24 35 .u32 4 Try.underlying24 (by kernel_rfl) (by decide) m (by omega)
    have y1 : decide (0 < bits) = true := decide_eq_true (by omega)
    have hb2 := hb.2
    have y3 : decide (bits < 0) = false := decide_eq_false (by omega)
    have y4 : (bits < 0) = False := eq_false (by omega)
    have y5 : (0 ≤ bits) = True := eq_true (by omega)
    have y6 : decide (0 ≤ bits) = true := decide_eq_true (by omega)
    have HM := Aside0.mk hm2; clear hm2
    have hu64 : IntKind.u64.wrap bits = bits := wu64 (by omega) (by have := hb.2; omega)
    have hmod : bits % 18446744073709551616 = bits := by have := hb.2; omega
    have h3 := (hs.alloc #[.slice none 0 0, .slice (some ⟨w.heap.size + 1, 0, none⟩) m m, .int .i64 bits] 57).alloc (madeCells #[Value.int .u32 0] m) 35
    rw [show (w.alloc (.cells #[.slice none 0 0, .slice (some ⟨w.heap.size + 1, 0, none⟩) m m, .int .i64 bits] 57)).heap.size = w.heap.size + 1 by simp] at h3
    have H3 := Aside0.mk h3
    have HB1 := Aside0.mk hb1
    have HC := Aside0.mk c
    clear hs h3 hb c
    go_enter Try.func21, Try.ntmps21
    go_wp2_with fail
    go_ret
    refine ⟨_, rfl, ?_⟩
    have e : (madeCells #[Value.int .u32 0] m) = (nums .u32 (List.replicate m 0)).toArray := by
      have h1 : (madeCells #[Value.int .u32 0] m).toList = nums .u32 (List.replicate m 0) := by
        apply List.ext_getElem
        · simp [nums, madeCells]
        · intro i h1 h2
          simp [nums, madeCells, Nat.mod_one]
      rw [← h1]
    have e2 : PS.start bits = ⟨[], List.replicate m 0⟩ := by unfold PS.start startC; rw [if_neg HC.out, HM.out]
    rw [e2]
    have h4 := H3.out
    rw [e] at h4 ⊢
    refine refA_shut (s := ⟨[], List.replicate m 0⟩) (B := none) (c := 0) (K := some ⟨w.heap.size + 1, 0, none⟩) ?_
    have h5 := ((cacheR_mk1 HB1.out h4).swap.rowNil 35 1).swap
    simpa [show nums .u32 ([] : List Int) = [] from rfl] using h5
set_option maxHeartbeats 1000000 in
set_option maxRecDepth 100000 in
theorem ref_Add (g : Nat) (bits x : Int) (s : PS) (r : Asrt) (w0 w : World) (hk : s.ok bits) (hx : U32 x) (hl : s.pix.length < 268435456) (hs : St w0 w (refA g bits s * r)) :
    Calls Try.prog 33 #[.pointer (some ⟨g, 0, none⟩), .int .u32 x] w fun e w' => e = .returned (.tuple #[]) ∧ St w0 w' (refA g bits (s.add bits x) * r) := by
  obtain ⟨B, c, K, h1⟩ := refA_open hs
  have m0 := (h1.cell 0).trans rfl
  have hy : (s.pix.length + 1) * 4 ≤ 140737488355328 := by omega
  have elen : (s.add bits x).pix.length = s.pix.length + 1 := by simp [PS.add]
  by_cases c0 : bits = 0
  · obtain ⟨⟨rfl, hcl⟩, _⟩ := cacheR_none c0 h1.drop.drop
    have e1 : (s.add bits x).cl = s.cl := by show addC bits s.cl x = s.cl; unfold addC; rw [if_pos c0]
    have y1 : decide (0 < bits) = false := decide_eq_false (by omega)
    have HS := Aside0.mk h1.swap
    have E1 := Aside0.mk e1
    have E2 := Aside0.mk elen
    clear hs h1 hk hx hcl e1 elen c0
    go_enter Try.func33, Try.ntmps33
    go_wp2_with (at_builtin; refine St.append_num (w0 := w0) rfl (.tmp 8) (.tmp 10) 24 35 .u32 4 rfl Try.underlying24 (by kernel_rfl) (by decide) _ s.pix.length s.pix x rfl rfl HS.out hy ?_; intro A4 x4 w3 hs3; have k2 := (hs3.swap.cell 0).trans rfl; have f2 := hs3.swap.frozen 0; have h4 := (hs3.swap.set 0 (.slice A4 (s.pix.length + 1) x4)); have p2 := (h4.cell 2).trans rfl; have HS3 := Aside0.mk h4; clear hs3 h4)
    go_end0
    refine ⟨rfl, refA_shut (s := s.add bits x) (B := A4) (c := x4) (K := none) ?_⟩
    rw [E2.out, E1.out]
    exact HS3.out
  · obtain ⟨hb1, hb2, hcl⟩ : 1 ≤ bits ∧ bits ≤ 11 ∧ s.cl.length = 2 ^ bits.toNat := hk.1.1.elim (fun h => absurd h.1 c0) id
    obtain ⟨b, rfl, _⟩ := cacheR_some hb1 h1.drop.drop
    have e1 : (s.add bits x).cl = s.cl.set (slotN x bits).toNat x := by show addC bits s.cl x = _; unfold addC; rw [if_neg c0]
    have y1 : decide (0 < bits) = true := decide_eq_true (by omega)
    have hs0 := (slotN_bd (argb := x) hb1 hb2).1
    have hs1 : slotN x bits < s.cl.length := by have := (slotN_bd (argb := x) hb1 hb2).2; rw [hcl]; exact_mod_cast this
    have hop : ∀ {W : World} {A : Asrt}, St w0 W (A * (cacheR (some ⟨b, 0, none⟩) bits s.cl * r)) → St w0 W (A * (Asrt.blk b 35 (nums .u32 s.cl).toArray * r)) := fun {W} {A} h => by
      obtain ⟨b', hb', h2⟩ := cacheR_some hb1 h.swap
      injection hb' with hb'
      injection hb' with hb'
      subst hb'
      exact h2.swap
    have HS := Aside0.mk h1.swap
    have HOP : Aside0 (∀ (W : World) (A : Asrt), St w0 W (A * (cacheR (some ⟨b, 0, none⟩) bits s.cl * r)) → St w0 W (A * (Asrt.blk b 35 (nums .u32 s.cl).toArray * r))) := ⟨fun W A h => hop h⟩
    have E1 := Aside0.mk e1
    have E2 := Aside0.mk elen
    have HX := Aside0.mk hx
    have HB1 := Aside0.mk hb1
    have HB2 := Aside0.mk hb2
    clear hs h1 hk hx hcl e1 elen c0 hop
    go_enter Try.func33, Try.ntmps33
    go_upto_region 2 with (at_builtin; refine St.append_num (w0 := w0) rfl (.tmp 8) (.tmp 10) 24 35 .u32 4 rfl Try.underlying24 (by kernel_rfl) (by decide) _ s.pix.length s.pix x rfl rfl HS.out hy ?_; intro A4 x4 w3 hs3; have k2 := (hs3.swap.cell 0).trans rfl; have f2 := hs3.swap.frozen 0; have h4 := (hs3.swap.set 0 (.slice A4 (s.pix.length + 1) x4)); have p2 := (h4.cell 2).trans rfl; have h5 := (HOP.out _ _ h4.assoc').assoc; have p1 := (h5.cell 1).trans rfl; have p3 := (h5.cell 2).trans rfl; have d0 := (h5.rot3.cell (slotN x bits).toNat).trans (nums_at .u32 s.cl (slotN x bits) hs0 hs1); have f0 := h5.rot3.frozen (slotN x bits).toNat; have HS3 := Aside0.mk h5; clear hs3 h4 h5)
    generalize w3.setCell ⟨g, 0, none⟩ (.slice A4 (s.pix.length + 1) x4) = W3 at *
    go_still_tail 12, (by kernel_rfl)
    still_call (still_of (ref_slot_in x bits _ HX.out HB1.out HB2.out))
    repeat still_step
    (try refine wpStill_nil ?_)
    go_wp2_with fail
    go_end0
    have h6 := ((HS3.out.drew.rot3).set (slotN x bits).toNat (.int .u32 x)).unrot3
    rw [nums_set] at h6
    have h7 := (cacheR_mk1 HB1.out (h6.rot3)).unrot3
    refine ⟨rfl, refA_shut (s := s.add bits x) (B := A4) (c := x4) (K := some ⟨b, 0, none⟩) ?_⟩
    rw [E2.out, E1.out, List.length_set]
    exact h7
end Go.Proofs.Ytnpmnfhmlnhepaa.P
