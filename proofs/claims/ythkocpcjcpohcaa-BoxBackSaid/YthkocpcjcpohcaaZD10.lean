/- The part of our texts, and of the print's, that these laws' proofs use. -/
import Derived.Test.YthkocpcjcpohcaaZD9
import Derived.Laws.BitsLemmas
import Derived.BigGuardPart
import Derived.Deep.CutRange
set_option linter.unusedVariables false
set_option linter.unusedSimpArgs false
section
namespace Go.Proofs.Ythkocpcjcpohcaa.P
open Go.RowKit Go.Proofs.YthkocpcjcpohcaaW.PrintWords Go.Proofs.YthkocpcjcpohcaaW.PrintLast Go.Proofs.YthkocpcjcpohcaaW.PrintMore
attribute [local go_sem] max2_int min2_int max_two min_two max_three min_three max_four min_four   -- for this text's walks alone
def marquetryref24_get.f (k : Nat) (l0 : List Int) (a1 : Int) (a2 : Int) : Option (Int) := (marquetryref01_Get.f k l0 a1 a2).bind fun bt281 => (some (wrap64 (bt281.1)))
theorem marquetryref24_get.mono : ∀ a0 a1 a2 k, LeO (marquetryref24_get.f k a0 a1 a2) (marquetryref24_get.f (k + 1) a0 a1 a2) := by
  intro a0 a1 a2 k
  unfold marquetryref24_get.f
  repeat' first
      | (with_reducible exact marquetryref01_Get.mono _ _ _ _)
      | (with_reducible exact LeO.refl _)
      | (with_reducible exact LeO.none _)
      | (with_reducible refine LeO.ite ?_ ?_)
      | (with_reducible refine LeO.bind ?_ (fun _ => ?_))
      | exact marquetryref01_Get.mono _ _ _ _
      | exact LeO.none _
      | refine LeO.ite ?_ ?_
      | refine LeO.bind ?_ (fun _ => ?_)
set_option maxHeartbeats 8000000 in
set_option maxRecDepth 100000 in
theorem marquetryref24_get.calls (k : Nat) (A0 : Option Addr) (c0 : Nat) (l0 : List Int) (a1 : Int) (a2 : Int) (r : Int) (w : World) (hr0 : Kd.C (Kd.int .u8) w A0 l0.length l0) (hc0 : l0.length ≤ c0) (h : marquetryref24_get.f k l0 a1 a2 = some r) :
    Calls Try.prog 51 #[.slice A0 l0.length c0, .int .i64 a1, .int .i64 a2] w fun e w' => e = .returned (.int .i64 r) ∧ Drawn0 w w' := by
  have HR0 := asiD hr0
  have HC0 := asiD hc0
  clear hr0 hc0
  have H : ((marquetryref01_Get.f k l0 a1 a2).bind fun bt281 => (some (wrap64 (bt281.1)))) = some r := h
  clear h
  replace H := Option.bind_eq_some_iff.mp H
  obtain ⟨⟨t281, t282⟩, A40, H⟩ := H
  replace H : (some (wrap64 (t281))) = some r := H
  have A4 := asiD A40
  clear A40
  obtain rfl := Option.some.inj H
  go_enter Try.func51, Try.ntmps51
  go_wp2_with (first | ((with_reducible refine gate_callee (f := 76) rfl ?_); refine goesL_ (some 13) rfl rfl Try.func76 (by kernel_rfl) rfl #[.slice A0 l0.length c0, .int .i64 a1, .int .i64 a2] rfl (by (try simp only [List.map_toArray, List.map_cons, List.map_nil]); first | done | rfl | (simp only [List.length_drop, List.length_take]; rfl)) ?_; (with_reducible refine (marquetryref01_Get.calls k _ _ l0 a1 a2 t281 t282 _ ?side1 ?side2 A4.out).mono ?_); (case side1 => repeat (first | exact HR0.out | (with_reducible refine Kd.C_alloc ?_ _) | (with_reducible refine Kd.C_drewN ?_ _) | (with_reducible refine Kd.C_drew ?_))); (case side2 => exact HC0.out); rintro e w' ⟨rfl, ⟨nd, rfl⟩⟩; refine ⟨_, rfl, ?_⟩) | (go_at_call 76; (with_reducible refine (marquetryref01_Get.calls k _ _ l0 a1 a2 t281 t282 _ ?side1 ?side2 A4.out).mono ?_); (case side1 => repeat (first | exact HR0.out | (with_reducible refine Kd.C_alloc ?_ _) | (with_reducible refine Kd.C_drewN ?_ _) | (with_reducible refine Kd.C_drew ?_))); (case side2 => exact HC0.out); rintro e w' ⟨rfl, ⟨nd, rfl⟩⟩))
  go_ret
  exact ⟨by first | rfl | (simp; done) | (simp [*]; done), by repeat (first | exact Drawn0.refl _ | apply Drawn0.step)⟩
end Go.Proofs.Ythkocpcjcpohcaa.P
end
section
namespace Go.Proofs.Ythkocpcjcpohcaa.U
open Go Go.RowKit Go.Proofs.YthkocpcjcpohcaaW.PrintWords Go.Proofs.YthkocpcjcpohcaaW.PrintLast
theorem w64 {n : Int} (h0 : -9223372036854775808 ≤ n) (h1 : n ≤ 9223372036854775807) : wrap64 n = n := by unfold wrap64; omega
theorem wu64 {n : Int} (h0 : 0 ≤ n) (h1 : n ≤ 18446744073709551615) : IntKind.u64.wrap n = n := by simp [IntKind.wrap, IntKind.bits, IntKind.signed]; omega
theorem wu64_def (n : Int) : IntKind.u64.wrap n = n % 18446744073709551616 := by simp [IntKind.wrap, IntKind.bits, IntKind.signed]
theorem wi64 {n : Int} (h0 : -9223372036854775808 ≤ n) (h1 : n ≤ 9223372036854775807) : IntKind.i64.wrap n = n := by rw [IntKind.wrap_i64]; omega
theorem wf_i64 {n : Int} (h : (Lit.int .i64 n).wf = true) : -9223372036854775808 ≤ n ∧ n ≤ 9223372036854775807 := by
  simp [Lit.wf, IntKind.min, IntKind.max, IntKind.bits, IntKind.signed] at h; omega
theorem wf_u32 {n : Int} (h : (Lit.int .u32 n).wf = true) : 0 ≤ n ∧ n ≤ 4294967295 := by
  simp [Lit.wf, IntKind.min, IntKind.max, IntKind.bits, IntKind.signed] at h; omega
theorem wf_u8 {n : Int} (h : (Lit.int .u8 n).wf = true) : 0 ≤ n ∧ n ≤ 255 := by
  simp [Lit.wf, IntKind.min, IntKind.max, IntKind.bits, IntKind.signed] at h; omega
section
variable {α : Type} {r : α}
theorem Ev.ite_pos {c : Prop} [Decidable c] {A B : Nat → Option α} (h : c) (e : Ev A r) : Ev (fun k => if c then A k else B k) r := by
  simpa only [if_pos h] using e
theorem Ev.ite_neg {c : Prop} [Decidable c] {A B : Nat → Option α} (h : ¬ c) (e : Ev B r) : Ev (fun k => if c then A k else B k) r := by
  simpa only [if_neg h] using e
theorem Ev.succ {g : Nat → Option α} (e : Ev (fun k => g (k + 1)) r) : Ev g r := Ev.step (fun _ => rfl) e
theorem Ev.fin {x : α} (h : x = r) : Ev (fun _ => some x) r := h ▸ Ev.now x
theorem Ev.bindo {β : Type} {o : Option β} {b : β} {f : Nat → β → Option α} (h : o = some b) (k : Ev (fun n => f n b) r) : Ev (fun n => o.bind (f n)) r := by
  subst h; exact k
end
theorem shr_any {k : IntKind} {x y : Int} (h1 : y ≤ k.bits) : shr k x y = x / 2 ^ y.toNat := by
  unfold shr
  rw [Nat.min_eq_left (by omega)]
theorem shl_u64 {x y : Int} (h1 : y ≤ 64) : shl .u64 x y = (x * 2 ^ y.toNat) % 18446744073709551616 := by
  unfold shl
  rw [Nat.min_eq_left (by simp [IntKind.bits]; omega), wu64_def]
theorem pow_pos (n : Nat) : (0 : Int) < 2 ^ n := Int.pow_pos (by decide)
theorem pow_le {a b : Nat} (h : a ≤ b) : (2 : Int) ^ a ≤ 2 ^ b := by
  have : (2 : Nat) ^ a ≤ 2 ^ b := Nat.pow_le_pow_right (by decide) h
  exact_mod_cast this
theorem pow_add (a b : Nat) : (2 : Int) ^ (a + b) = 2 ^ a * 2 ^ b := Int.pow_add _ _ _
theorem or_u64 {x y : Int} {i : Nat} (hi : i ≤ 64) (hx0 : 0 ≤ x) (hx : x < 2 ^ i) (hy0 : 0 ≤ y) (hy : y % 2 ^ i = 0) (hy1 : y < 18446744073709551616) : Go.bits .or .u64 x y = x + y := by
  have hw : ∀ n : Int, 0 ≤ n → n < 2 ^ 64 → IntKind.u64.wrap n = n := fun n h0 h1 => wu64 h0 (by omega)
  obtain ⟨a, rfl⟩ := Int.eq_ofNat_of_zero_le hx0
  obtain ⟨b, rfl⟩ := Int.eq_ofNat_of_zero_le hy0
  have ha' : (a : Int) < 2 ^ 64 := Int.lt_of_lt_of_le hx (pow_le hi)
  have ha : a < 2 ^ 64 := by exact_mod_cast ha'
  have hb : b < 2 ^ 64 := by omega
  rw [(bits_nat .u64 64 (by decide) hw a b ha hb).2]
  have hlt : a < 2 ^ i := by exact_mod_cast hx
  have hmod : b % 2 ^ i = 0 := by exact_mod_cast hy
  have hq : b = 2 ^ i * (b / 2 ^ i) := by have := Nat.div_add_mod b (2 ^ i); omega
  have : a ||| b = b + a := by
    rw [Nat.or_comm, hq, ← Nat.two_pow_add_eq_or_of_lt hlt]
  rw [this, Int.natCast_add, Int.add_comm]
end Go.Proofs.Ythkocpcjcpohcaa.U
end
section
namespace Go.Proofs.Ythkocpcjcpohcaa.P
open Go Go.RowKit Go.Proofs.YthkocpcjcpohcaaW.PrintWords Go.Proofs.YthkocpcjcpohcaaW.PrintLast Go.Proofs.YthkocpcjcpohcaaW.PrintMore Go.Proofs.Ythkocpcjcpohcaa.U
attribute [local go_sem] max2_int min2_int max_two min_two max_three min_three max_four min_four
abbrev Ch := S42
abbrev Fr := S44
abbrev Dc := S27
instance : DecidableEq Ch := fun x y => decidable_of_iff (x.f0 = y.f0 ∧ x.f1 = y.f1) (by cases x; cases y; simp)
instance : DecidableEq Fr := fun x y => decidable_of_iff (x.f0 = y.f0 ∧ x.f1 = y.f1 ∧ x.f2 = y.f2 ∧ x.f3 = y.f3 ∧ x.f4 = y.f4 ∧ x.f5 = y.f5 ∧ x.f6 = y.f6 ∧ x.f7 = y.f7 ∧ x.f8 = y.f8 ∧ x.f9 = y.f9 ∧ x.f10 = y.f10) (by cases x; cases y; simp)
def byteL (l : List Int) : Prop := ∀ b ∈ l, 0 ≤ b ∧ b ≤ 255
def i64r (n : Int) : Prop := -9223372036854775808 ≤ n ∧ n ≤ 9223372036854775807
def datL (l : List Int) : Prop := byteL l ∧ l.length ≤ 140737488351232
def okCh (x : Ch) : Prop := x.f0.size ≤ 140737488351232 ∧ datL x.f1
def chsL (l : List Ch) : Prop := l.length * 40 ≤ 140737488351232 ∧ ∀ c ∈ l, okCh c
structure okFr (x : Fr) : Prop where
  i0 : i64r x.f0
  i1 : i64r x.f1
  i2 : i64r x.f2
  i3 : i64r x.f3
  i4 : i64r x.f4
  i7 : i64r x.f7
  al : datL x.f8
  da : datL x.f9
  mo : chsL x.f10
theorem bthen {w X w4 : World} (h1 : Below w.heap.size w X) (h2 : Below X.heap.size X w4) : Below w.heap.size w w4 := h1.trans (h2.mono h1.size)
theorem nat_byte {a : Int} (h : 0 ≤ a ∧ a ≤ 255) : ((UInt8.ofNat a.toNat).toNat : Int) = a := by
  rw [UInt8.toNat_ofNat']; omega
theorem str_inj {a b : List Int} (ha : byteL a) (hb : byteL b) : ((strOfNums a).toList == (strOfNums b).toList) = decide (a = b) := by
  have h : ∀ {l : List Int}, byteL l → (l.map fun n => UInt8.ofNat n.toNat).map (fun u => (u.toNat : Int)) = l := by
    intro l hl
    rw [List.map_map]
    conv => rhs; rw [← List.map_id l]
    exact List.map_congr_left fun x hx => nat_byte (hl x hx)
  have e : ∀ l : List Int, (strOfNums l).toList = l.map fun n => UInt8.ofNat n.toNat := fun l => by
    rw [ByteArray.toList_eq]
    rfl
  rw [e, e]
  by_cases c : a = b
  · subst c; simp
  · rw [decide_eq_false c]
    refine beq_eq_false_iff_ne.2 fun hh => c ?_
    rw [← h ha, ← h hb, hh]
theorem Equal_calls (A0 : Option Addr) (c0 : Nat) (l0 : List Int) (A1 : Option Addr) (c1 : Nat) (l1 : List Int) (w : World) (h0 : byteL l0) (h1 : byteL l1) (hr0 : Kd.C (Kd.int .u8) w A0 l0.length l0) (hc0 : l0.length ≤ c0) (hr1 : Kd.C (Kd.int .u8) w A1 l1.length l1) (hc1 : l1.length ≤ c1) :
    Calls Try.prog 42 #[.slice A0 l0.length c0, .slice A1 l1.length c1] w fun e w' => e = .returned (.bool (decide (l0 = l1))) ∧ Drawn0 w w' :=
  bytes_Equal.calls A0 c0 l0 A1 c1 l1 _ w hr0 hc0 hr1 hc1 (by unfold bytes_Equal.f; rw [str_inj h0 h1])
theorem str_ext {a b : ByteArray} : a = b ↔ a.toList = b.toList := by
  refine ⟨fun h => by rw [h], fun h => ?_⟩
  rw [ByteArray.toList_eq, ByteArray.toList_eq] at h
  cases a; cases b
  simp only [ByteArray.mk.injEq]
  exact Array.toList_inj.1 h
theorem ch_eq {x y : Ch} : x = y ↔ x.f0.toList = y.f0.toList ∧ x.f1 = y.f1 := by rw [← str_ext]; cases x; cases y; simp
theorem fr_eq {x y : Fr} : x = y ↔ x.f0 = y.f0 ∧ x.f1 = y.f1 ∧ x.f2 = y.f2 ∧ x.f3 = y.f3 ∧ x.f4 = y.f4 ∧ x.f5 = y.f5 ∧ x.f6 = y.f6 ∧ x.f7 = y.f7 ∧ x.f8 = y.f8 ∧ x.f9 = y.f9 ∧ x.f10 = y.f10 := by cases x; cases y; simp
set_option maxHeartbeats 4000000 in
set_option maxRecDepth 100000 in
theorem sameChunk_calls (x y : Ch) (cs ds : List Value) (w : World) (hx : k42.K w x cs) (hy : k42.K w y ds) (bx : okCh x) (bY : okCh y) :
    Calls Try.prog 46 #[.agg cs.toArray, .agg ds.toArray] w fun e w' => e = .returned (.bool (decide (x = y))) ∧ Below w.heap.size w w' := by
  obtain ⟨A1, c1, rfl, l1, g1⟩ := k42_open hx
  obtain ⟨A2, c2, rfl, l2, g2⟩ := k42_open hy
  have HS := asiD ((((St.refl w).alloc #[.string x.f0, .slice A1 x.f1.length c1] 42).alloc #[.string y.f0, .slice A2 y.f1.length c2] 42))
  have HE := asiD (Equal_calls A1 c1 x.f1 A2 c2 y.f1 _ bx.2.1 bY.2.1 (Kd.C_below g1 HS.out.below) l1 (Kd.C_below g2 HS.out.below) l2)
  have HXY := asiD (@ch_eq x y)
  clear hx hy g1 g2
  go_enter Try.func46, Try.ntmps46
  go_wp2_with (go_at_call 42; refine HE.out.mono ?_; rintro e w1 ⟨rfl, hd⟩; have HB := asiD (HS.out.belowR hd.below).below; clear hd)
  all_goals go_ret
  all_goals exact ⟨by simp [HXY.out, *], by first | exact HB.out | exact HS.out.below⟩
theorem take_next {α : Type} [DecidableEq α] {l1 l2 : List α} {k : Nat} (d : α) (h1 : k < l1.length) (hl : l1.length = l2.length) (ht : l1.take k = l2.take k) : (l1.getD k d = l2.getD k d → l1.take (k + 1) = l2.take (k + 1)) ∧ (l1.getD k d ≠ l2.getD k d → l1 ≠ l2) := by
  refine ⟨fun h => ?_, fun h h2 => h (by rw [h2])⟩
  rw [List.take_succ_eq_append_getElem h1, List.take_succ_eq_append_getElem (by omega), ht]
  rw [List.getD_eq_getElem?_getD, List.getD_eq_getElem?_getD, List.getElem?_eq_getElem h1, List.getElem?_eq_getElem (by omega)] at h
  rw [show l1[k] = l2[k] from h]
theorem getD_in {α : Type} {l : List α} {k : Nat} (d : α) (h : k < l.length) : l.getD k d ∈ l := by
  rw [List.getD_eq_getElem?_getD, List.getElem?_eq_getElem h]
  exact List.getElem_mem _
set_option maxHeartbeats 4000000 in
set_option maxRecDepth 100000 in
theorem EqChunks_calls (A1 : Option Addr) (c1 : Nat) (l1 : List Ch) (A2 : Option Addr) (c2 : Nat) (l2 : List Ch) (w : World) (h1 : k42.C w A1 l1.length l1) (h2 : k42.C w A2 l2.length l2) (b1 : ∀ x ∈ l1, okCh x) (b2 : ∀ x ∈ l2, okCh x) :
    Calls Try.prog 45 #[.slice A1 l1.length c1, .slice A2 l2.length c2, .func (.func 46) #[] #[]] w fun e w' => e = .returned (.bool (decide (l1 = l2))) ∧ Below w.heap.size w w' := by
  have hm := h1.2.1
  have H1 := asiD h1
  have H2 := asiD h2
  have HB1 := asiD b1
  have HB2 := asiD b2
  clear h1 h2 b1 b2
  go_enter Try.func45, Try.ntmps45
  by_cases hl : l1.length = l2.length
  case neg =>
    have HN : Aside0 (decide (l1 = l2) = false) := ⟨decide_eq_false fun h => hl (by rw [h])⟩
    have z : ((l1.length : Int) != (l2.length : Int)) = true := by simp; omega
    clear hl
    go_wp2_with fail
    go_ret
    exact ⟨by rw [HN.out]; rfl, Below.refl _ _⟩
  have HL := asiD hl
  have z : ((l1.length : Int) != (l2.length : Int)) = false := by simp [hl]
  clear hl
  go_wp2_with fail
  go_loopw [6, 17] (fun r i wr => ∃ k : Nat, k ≤ l1.length ∧ r = .bool false ∧ i = .int .i64 k ∧ l1.take k = l2.take k ∧ Below w.heap.size w wr) (fun _ i _ => l1.length - (intOf i).toNat)
  case atStart => exact ⟨0, Nat.zero_le _, rfl, rfl, rfl, Below.refl _ _⟩
  case round =>
    obtain ⟨k, hk, rfl, rfl, ht, hb⟩ := hrel
    by_cases hlt : k < l1.length
    · have y1 : decide ((k : Int) < l1.length) = true := decide_eq_true (by omega)
      have y2 : decide (k < l1.length) = true := decide_eq_true hlt
      have y3 : (k < l1.length) = True := eq_true hlt
      have y4 : ((k : Int) < l1.length) = True := eq_true (by omega)
      have y5 : (k < l2.length) = True := eq_true (by have := HL.out; omega)
      have y6 : ((k : Int) < l2.length) = True := eq_true (by have := HL.out; omega)
      have k16 : k ≤ 9223372036854775806 := by omega
      obtain ⟨ad1, B1_1, e1_1, rfl, d1_0, d1_1, m1_1, g1_1⟩ := at_T42 (Kd.C_below H1.out hb) (k : Int) (by omega) (by omega)
      obtain ⟨ad2, B2_1, e2_1, rfl, d2_0, d2_1, m2_1, g2_1⟩ := at_T42 (Kd.C_below H2.out hb) (k : Int) (by omega) (by have := HL.out; omega)
      simp only [Int.toNat_natCast] at d1_0 d1_1 d2_0 d2_1
      have htn := take_next z42 hlt HL.out ht
      have bx := HB1.out _ (getD_in z42 hlt)
      have bY := HB2.out _ (getD_in z42 (show k < l2.length by have := HL.out; omega))
      rw [show l1.getD k z42 = rd_T42 l1 k from rfl, show l2.getD k z42 = rd_T42 l2 k from rfl] at htn
      rw [show l1.getD k z42 = rd_T42 l1 k from rfl] at bx
      rw [show l2.getD k z42 = rd_T42 l2 k from rfl] at bY
      generalize rd_T42 l1 k = x at *
      generalize rd_T42 l2 k = y at *
      have hsa := ((St.refl wr).alloc #[.string x.f0, .slice B1_1 x.f1.length e1_1] 42).below
      have n0 := (cellL hsa d2_0)
      have n1 := (cellL hsa d2_1)
      clear hsa
      have HS := asiD ((((St.refl wr).alloc #[.string x.f0, .slice B1_1 x.f1.length e1_1] 42).alloc #[.string y.f0, .slice B2_1 y.f1.length e2_1] 42))
      have HE := asiD (sameChunk_calls x y _ _ _ (k42_mk _ x m1_1 (Kd.C_below g1_1 HS.out.below)) (k42_mk _ y m2_1 (Kd.C_below g2_1 HS.out.below)) bx bY)
      have HT := asiD htn
      have HLT := asiD hlt
      have HBB := asiD hb
      clear htn bx bY ht hb hlt hk g1_1 g2_1
      by_cases hxy : x = y
      · rw [decide_eq_true hxy] at HE
        have HXY := asiD hxy
        clear hxy
        go_wp2_with (go_at_call 46; refine HE.out.mono ?_; rintro e w1 ⟨rfl, hd⟩; have HD := asiD (HS.out.belowR hd).below; clear hd)
        go_roundw
        case rel => exact ⟨k + 1, HLT.out, rfl, by go_num, HT.out.1 HXY.out, HBB.out.trans (HD.out.mono HBB.out.size)⟩
        case measure => have := HLT.out; simp [intOf]; omega
      · rw [decide_eq_false hxy] at HE
        have HN : Aside0 (decide (l1 = l2) = false) := ⟨decide_eq_false (HT.out.2 hxy)⟩
        clear hxy
        go_wp2_with (go_at_call 46; refine HE.out.mono ?_; rintro e w1 ⟨rfl, hd⟩; have HD := asiD (HS.out.belowR hd).below; clear hd)
        go_ret
        exact ⟨by rw [HN.out]; rfl, HBB.out.trans (HD.out.mono HBB.out.size)⟩
    · have y1 : decide ((k : Int) < l1.length) = false := decide_eq_false (by omega)
      have y2 : decide (k < l1.length) = false := decide_eq_false hlt
      obtain rfl : k = l1.length := by omega
      have HN : Aside0 (decide (l1 = l2) = true) := ⟨decide_eq_true (by rw [List.take_length] at ht; rw [ht, HL.out, List.take_length])⟩
      have HBB := asiD hb
      clear ht hb hlt hk
      go_wp2_with fail
      go_ret
      exact ⟨by rw [HN.out]; rfl, HBB.out⟩
set_option maxHeartbeats 8000000 in
set_option maxRecDepth 100000 in
theorem sameFrame_calls (x y : Fr) (cs ds : List Value) (w : World) (hx : k44.K w x cs) (hy : k44.K w y ds) (bx : okFr x) (bY : okFr y) :
    Calls Try.prog 44 #[.agg cs.toArray, .agg ds.toArray] w fun e w' => e = .returned (.bool (decide (x = y))) ∧ Below w.heap.size w w' := by
  obtain ⟨A1, c1, A2, c2, A3, c3, rfl, l1, g1, l2, g2, l3, g3⟩ := k44_open hx
  obtain ⟨B1, d1, B2, d2, B3, d3, rfl, m1, h1, m2, h2, m3, h3⟩ := k44_open hy
  have HE1 := asiD fun (W : World) (hb : Below w.heap.size w W) => Equal_calls A1 c1 x.f8 B1 d1 y.f8 W bx.al.1 bY.al.1 (Kd.C_below g1 hb) l1 (Kd.C_below h1 hb) m1
  have HE2 := asiD fun (W : World) (hb : Below w.heap.size w W) => Equal_calls A2 c2 x.f9 B2 d2 y.f9 W bx.da.1 bY.da.1 (Kd.C_below g2 hb) l2 (Kd.C_below h2 hb) m2
  have HE3 := asiD fun (W : World) (hb : Below w.heap.size w W) => EqChunks_calls A3 c3 x.f10 B3 d3 y.f10 W (Kd.C_below g3 hb) (Kd.C_below h3 hb) bx.mo.2 bY.mo.2
  have HXY := asiD (@fr_eq x y)
  clear hx hy g1 g2 g3 h1 h2 h3
  go_enter Try.func44, Try.ntmps44
  go_wp2_with (first
    | (go_at_call 42; with_reducible refine (HE1.out _ (by repeat (first | exact Below.refl _ _ | apply pw_below_drewN | apply below_alloc))).mono ?_; clear HE1; rintro e w1 ⟨rfl, ⟨n1, rfl⟩⟩)
    | (go_at_call 42; with_reducible refine (HE2.out _ (by repeat (first | exact Below.refl _ _ | apply pw_below_drewN | apply below_alloc))).mono ?_; clear HE2; rintro e w1 ⟨rfl, ⟨n2, rfl⟩⟩)
    | (go_at_call 45; with_reducible refine (HE3.out _ (by repeat (first | exact Below.refl _ _ | apply pw_below_drewN | apply below_alloc))).mono ?_; rintro e w1 ⟨rfl, hd⟩; have HB := asiD (bthen (show Below w.heap.size w _ by repeat (first | exact Below.refl _ _ | apply pw_below_drewN | apply below_alloc)) hd); clear hd))
  all_goals go_ret
  all_goals exact ⟨by simp [HXY.out, *], by first | exact HB.out | (repeat (first | exact Below.refl _ _ | apply pw_below_drewN | apply below_alloc))⟩
set_option maxHeartbeats 4000000 in
set_option maxRecDepth 100000 in
theorem EqFrames_calls (A1 : Option Addr) (c1 : Nat) (l1 : List Fr) (A2 : Option Addr) (c2 : Nat) (l2 : List Fr) (w : World) (h1 : k44.C w A1 l1.length l1) (h2 : k44.C w A2 l2.length l2) (b1 : ∀ x ∈ l1, okFr x) (b2 : ∀ x ∈ l2, okFr x) :
    Calls Try.prog 43 #[.slice A1 l1.length c1, .slice A2 l2.length c2, .func (.func 44) #[] #[]] w fun e w' => e = .returned (.bool (decide (l1 = l2))) ∧ Below w.heap.size w w' := by
  have hm := h1.2.1
  have H1 := asiD h1
  have H2 := asiD h2
  have HB1 := asiD b1
  have HB2 := asiD b2
  clear h1 h2 b1 b2
  go_enter Try.func43, Try.ntmps43
  by_cases hl : l1.length = l2.length
  case neg =>
    have HN : Aside0 (decide (l1 = l2) = false) := ⟨decide_eq_false fun h => hl (by rw [h])⟩
    have z : ((l1.length : Int) != (l2.length : Int)) = true := by simp; omega
    clear hl
    go_wp2_with fail
    go_ret
    exact ⟨by rw [HN.out]; rfl, Below.refl _ _⟩
  have HL := asiD hl
  have z : ((l1.length : Int) != (l2.length : Int)) = false := by simp [hl]
  clear hl
  go_wp2_with fail
  go_loopw [6, 17] (fun r i wr => ∃ k : Nat, k ≤ l1.length ∧ r = .bool false ∧ i = .int .i64 k ∧ l1.take k = l2.take k ∧ Below w.heap.size w wr) (fun _ i _ => l1.length - (intOf i).toNat)
  case atStart => exact ⟨0, Nat.zero_le _, rfl, rfl, rfl, Below.refl _ _⟩
  case round =>
    obtain ⟨k, hk, rfl, rfl, ht, hb⟩ := hrel
    by_cases hlt : k < l1.length
    · have y1 : decide ((k : Int) < l1.length) = true := decide_eq_true (by omega)
      have y2 : decide (k < l1.length) = true := decide_eq_true hlt
      have y3 : (k < l1.length) = True := eq_true hlt
      have y4 : ((k : Int) < l1.length) = True := eq_true (by omega)
      have y5 : (k < l2.length) = True := eq_true (by have := HL.out; omega)
      have y6 : ((k : Int) < l2.length) = True := eq_true (by have := HL.out; omega)
      have k16 : k ≤ 9223372036854775806 := by omega
      obtain ⟨ad1, B1_8, e1_8, B1_9, e1_9, B1_10, e1_10, rfl, d1_0, d1_1, d1_2, d1_3, d1_4, d1_5, d1_6, d1_7, d1_8, d1_9, d1_10, m1_8, g1_8, m1_9, g1_9, m1_10, g1_10⟩ := at_T44 (Kd.C_below H1.out hb) (k : Int) (by omega) (by omega)
      obtain ⟨ad2, B2_8, e2_8, B2_9, e2_9, B2_10, e2_10, rfl, d2_0, d2_1, d2_2, d2_3, d2_4, d2_5, d2_6, d2_7, d2_8, d2_9, d2_10, m2_8, g2_8, m2_9, g2_9, m2_10, g2_10⟩ := at_T44 (Kd.C_below H2.out hb) (k : Int) (by omega) (by have := HL.out; omega)
      simp only [Int.toNat_natCast] at d1_0 d1_1 d1_2 d1_3 d1_4 d1_5 d1_6 d1_7 d1_8 d1_9 d1_10 d2_0 d2_1 d2_2 d2_3 d2_4 d2_5 d2_6 d2_7 d2_8 d2_9 d2_10
      have htn := take_next z44 hlt HL.out ht
      have bx := HB1.out _ (getD_in z44 hlt)
      have bY := HB2.out _ (getD_in z44 (show k < l2.length by have := HL.out; omega))
      rw [show l1.getD k z44 = rd_T44 l1 k from rfl, show l2.getD k z44 = rd_T44 l2 k from rfl] at htn
      rw [show l1.getD k z44 = rd_T44 l1 k from rfl] at bx
      rw [show l2.getD k z44 = rd_T44 l2 k from rfl] at bY
      generalize rd_T44 l1 k = x at *
      generalize rd_T44 l2 k = y at *
      have hsa := ((St.refl wr).alloc #[.int .i64 x.f0, .int .i64 x.f1, .int .i64 x.f2, .int .i64 x.f3, .int .i64 x.f4, .bool x.f5, .bool x.f6, .int .i64 x.f7, .slice B1_8 x.f8.length e1_8, .slice B1_9 x.f9.length e1_9, .slice B1_10 x.f10.length e1_10] 44).below
      have n0 := (cellL hsa d2_0)
      have n1 := (cellL hsa d2_1)
      have n2 := (cellL hsa d2_2)
      have n3 := (cellL hsa d2_3)
      have n4 := (cellL hsa d2_4)
      have n5 := (cellL hsa d2_5)
      have n6 := (cellL hsa d2_6)
      have n7 := (cellL hsa d2_7)
      have n8 := (cellL hsa d2_8)
      have n9 := (cellL hsa d2_9)
      have n10 := (cellL hsa d2_10)
      clear hsa
      have HS := asiD ((((St.refl wr).alloc #[.int .i64 x.f0, .int .i64 x.f1, .int .i64 x.f2, .int .i64 x.f3, .int .i64 x.f4, .bool x.f5, .bool x.f6, .int .i64 x.f7, .slice B1_8 x.f8.length e1_8, .slice B1_9 x.f9.length e1_9, .slice B1_10 x.f10.length e1_10] 44).alloc #[.int .i64 y.f0, .int .i64 y.f1, .int .i64 y.f2, .int .i64 y.f3, .int .i64 y.f4, .bool y.f5, .bool y.f6, .int .i64 y.f7, .slice B2_8 y.f8.length e2_8, .slice B2_9 y.f9.length e2_9, .slice B2_10 y.f10.length e2_10] 44))
      have HE := asiD (sameFrame_calls x y _ _ _ (k44_mk _ x m1_8 (Kd.C_below g1_8 HS.out.below) m1_9 (Kd.C_below g1_9 HS.out.below) m1_10 (Kd.C_below g1_10 HS.out.below)) (k44_mk _ y m2_8 (Kd.C_below g2_8 HS.out.below) m2_9 (Kd.C_below g2_9 HS.out.below) m2_10 (Kd.C_below g2_10 HS.out.below)) bx bY)
      have HT := asiD htn
      have HLT := asiD hlt
      have HBB := asiD hb
      clear htn bx bY ht hb hlt hk g1_8 g1_9 g1_10 g2_8 g2_9 g2_10
      by_cases hxy : x = y
      · rw [decide_eq_true hxy] at HE
        have HXY := asiD hxy
        clear hxy
        go_wp2_with (go_at_call 44; refine HE.out.mono ?_; rintro e w1 ⟨rfl, hd⟩; have HD := asiD (HS.out.belowR hd).below; clear hd)
        go_roundw
        case rel => exact ⟨k + 1, HLT.out, rfl, by go_num, HT.out.1 HXY.out, HBB.out.trans (HD.out.mono HBB.out.size)⟩
        case measure => have := HLT.out; simp [intOf]; omega
      · rw [decide_eq_false hxy] at HE
        have HN : Aside0 (decide (l1 = l2) = false) := ⟨decide_eq_false (HT.out.2 hxy)⟩
        clear hxy
        go_wp2_with (go_at_call 44; refine HE.out.mono ?_; rintro e w1 ⟨rfl, hd⟩; have HD := asiD (HS.out.belowR hd).below; clear hd)
        go_ret
        exact ⟨by rw [HN.out]; rfl, HBB.out.trans (HD.out.mono HBB.out.size)⟩
    · have y1 : decide ((k : Int) < l1.length) = false := decide_eq_false (by omega)
      have y2 : decide (k < l1.length) = false := decide_eq_false hlt
      obtain rfl : k = l1.length := by omega
      have HN : Aside0 (decide (l1 = l2) = true) := ⟨decide_eq_true (by rw [List.take_length] at ht; rw [ht, HL.out, List.take_length])⟩
      have HBB := asiD hb
      clear ht hb hlt hk
      go_wp2_with fail
      go_ret
      exact ⟨by rw [HN.out]; rfl, HBB.out⟩
theorem cells2 {w w1 : World} {P Q : Array Value} {T T' : TypeId} (hx : Below ((w.alloc (.cells P T)).alloc (.cells Q T')).heap.size ((w.alloc (.cells P T)).alloc (.cells Q T')) w1) (i : Nat) : w1.cell? ⟨w.heap.size, i, none⟩ = P[i]? ∧ w1.cell? ⟨w.heap.size + 1, i, none⟩ = Q[i]? := by
  have h := (((St.refl w).alloc P T).alloc Q T').belowR hx
  have e : (w.alloc (.cells P T)).heap.size = w.heap.size + 1 := by simp
  rw [e] at h
  exact ⟨h.swap.cell i, h.cell i⟩
instance : DecidableEq Dc := fun x y => decidable_of_iff (x.f0 = y.f0 ∧ x.f1 = y.f1 ∧ x.f2 = y.f2 ∧ x.f3 = y.f3 ∧ x.f4 = y.f4 ∧ x.f5 = y.f5 ∧ x.f6 = y.f6 ∧ x.f7 = y.f7 ∧ x.f8 = y.f8 ∧ x.f9 = y.f9 ∧ x.f10 = y.f10 ∧ x.f11 = y.f11 ∧ x.f12 = y.f12 ∧ x.f13 = y.f13 ∧ x.f14 = y.f14) (by cases x; cases y; simp)
theorem dc_eq {x y : Dc} : x = y ↔ x.f0 = y.f0 ∧ x.f1 = y.f1 ∧ x.f2 = y.f2 ∧ x.f3 = y.f3 ∧ x.f4 = y.f4 ∧ x.f5 = y.f5 ∧ x.f6 = y.f6 ∧ x.f7 = y.f7 ∧ x.f8 = y.f8 ∧ x.f9 = y.f9 ∧ x.f10 = y.f10 ∧ x.f11 = y.f11 ∧ x.f12 = y.f12 ∧ x.f13 = y.f13 ∧ x.f14 = y.f14 := by cases x; cases y; simp
structure okDc (x : Dc) : Prop where
  i1 : i64r x.f1
  i2 : i64r x.f2
  i5 : 0 ≤ x.f5 ∧ x.f5 ≤ 4294967295
  i6 : i64r x.f6
  pr : datL x.f7
  ex : datL x.f8
  xm : datL x.f9
  fr : x.f13.length * 128 ≤ 140737488351232 ∧ ∀ f ∈ x.f13, okFr f
  mo : chsL x.f14
set_option maxHeartbeats 8000000 in
set_option maxRecDepth 100000 in
theorem Same_calls (x y : Dc) (cs ds : List Value) (w : World) (hx : k27.K w x cs) (hy : k27.K w y ds) (bx : okDc x) (bY : okDc y) :
    Calls Try.prog 19 #[.agg cs.toArray, .agg ds.toArray] w fun e w' => e = .returned (.bool (decide (x = y))) ∧ Below w.heap.size w w' := by
  obtain ⟨A1, c1, A2, c2, A3, c3, A4, c4, A5, c5, rfl, l1, g1, l2, g2, l3, g3, l4, g4, l5, g5⟩ := k27_open hx
  obtain ⟨B1, d1, B2, d2, B3, d3, B4, d4, B5, d5, rfl, m1, h1, m2, h2, m3, h3, m4, h4, m5, h5⟩ := k27_open hy
  have HE1 := asiD fun (W : World) (hb : Below w.heap.size w W) => Equal_calls A1 c1 x.f7 B1 d1 y.f7 W bx.pr.1 bY.pr.1 (Kd.C_below g1 hb) l1 (Kd.C_below h1 hb) m1
  have HE2 := asiD fun (W : World) (hb : Below w.heap.size w W) => Equal_calls A2 c2 x.f8 B2 d2 y.f8 W bx.ex.1 bY.ex.1 (Kd.C_below g2 hb) l2 (Kd.C_below h2 hb) m2
  have HE3 := asiD fun (W : World) (hb : Below w.heap.size w W) => Equal_calls A3 c3 x.f9 B3 d3 y.f9 W bx.xm.1 bY.xm.1 (Kd.C_below g3 hb) l3 (Kd.C_below h3 hb) m3
  have HE4 := asiD fun (W : World) (hb : Below w.heap.size w W) => EqFrames_calls A4 c4 x.f13 B4 d4 y.f13 W (Kd.C_below g4 hb) (Kd.C_below h4 hb) bx.fr.2 bY.fr.2
  have HE5 := asiD fun (W : World) (hb : Below w.heap.size w W) => EqChunks_calls A5 c5 x.f14 B5 d5 y.f14 W (Kd.C_below g5 hb) (Kd.C_below h5 hb) bx.mo.2 bY.mo.2
  have HXY := asiD (@dc_eq x y)
  clear hx hy g1 g2 g3 h1 h2 h3 g4 g5 h4 h5
  go_enter Try.func19, Try.ntmps19
  go_wp2_with (first
    | (go_at_call 42; with_reducible refine (HE1.out _ (by repeat (first | exact Below.refl _ _ | apply pw_below_drewN | apply below_alloc))).mono ?_; clear HE1; rintro e w1 ⟨rfl, ⟨n1, rfl⟩⟩)
    | (go_at_call 42; with_reducible refine (HE2.out _ (by repeat (first | exact Below.refl _ _ | apply pw_below_drewN | apply below_alloc))).mono ?_; clear HE2; rintro e w1 ⟨rfl, ⟨n2, rfl⟩⟩)
    | (go_at_call 42; with_reducible refine (HE3.out _ (by repeat (first | exact Below.refl _ _ | apply pw_below_drewN | apply below_alloc))).mono ?_; clear HE3; rintro e w1 ⟨rfl, ⟨n3, rfl⟩⟩)
    | (go_at_call 43; with_reducible refine (HE4.out _ (by repeat (first | exact Below.refl _ _ | apply pw_below_drewN | apply below_alloc))).mono ?_; rintro e w1 ⟨rfl, hd⟩; have hx := bthen (show Below _ ((w.alloc _).alloc _) _ by repeat (first | exact Below.refl _ _ | apply pw_below_drewN | apply below_alloc)) hd; have n4 : w1.cell? ⟨w.heap.size, 14, none⟩ = some (.slice A5 x.f14.length c5) := (cells2 hx 14).1.trans rfl; have n5 : w1.cell? ⟨w.heap.size + 1, 14, none⟩ = some (.slice B5 y.f14.length d5) := (cells2 hx 14).2.trans rfl; have HB4 := asiD (bthen (show Below w.heap.size w _ by repeat (first | exact Below.refl _ _ | apply pw_below_drewN | apply below_alloc)) hd); clear hd hx)
    | (go_at_call 45; with_reducible refine (HE5.out _ HB4.out).mono ?_; rintro e w2 ⟨rfl, hd⟩; have HB := asiD (bthen HB4.out hd); clear hd))
  all_goals go_ret
  all_goals exact ⟨by simp [HXY.out, *], by first | exact HB.out | exact HB4.out | (repeat (first | exact Below.refl _ _ | apply pw_below_drewN | apply below_alloc))⟩
end Go.Proofs.Ythkocpcjcpohcaa.P
end
section
namespace Go.Proofs.Ythkocpcjcpohcaa.Pure
open Go Go.RowKit Go.Proofs.Ythkocpcjcpohcaa.P Go.Proofs.YthkocpcjcpohcaaW.PrintWords Go.Proofs.YthkocpcjcpohcaaW.PrintLast Go.Proofs.YthkocpcjcpohcaaW.PrintMore Go.Proofs.Ythkocpcjcpohcaa.U
def IsLen (v r : Int) : Prop := 0 ≤ r ∧ r ≤ 64 ∧ ∀ m : Nat, r ≤ m ↔ v < 2 ^ m
set_option maxRecDepth 100000 in
def T8 : ByteArray := ⟨#[0, 1, 2, 2, 3, 3, 3, 3, 4, 4, 4, 4, 4, 4, 4, 4, 5, 5, 5, 5, 5, 5, 5, 5, 5, 5, 5, 5, 5, 5, 5, 5, 6, 6, 6, 6, 6, 6, 6, 6, 6, 6, 6, 6, 6, 6, 6, 6, 6, 6, 6, 6, 6, 6, 6, 6, 6, 6, 6, 6, 6, 6, 6, 6, 7, 7, 7, 7, 7, 7, 7, 7, 7, 7, 7, 7, 7, 7, 7, 7, 7, 7, 7, 7, 7, 7, 7, 7, 7, 7, 7, 7, 7, 7, 7, 7, 7, 7, 7, 7, 7, 7, 7, 7, 7, 7, 7, 7, 7, 7, 7, 7, 7, 7, 7, 7, 7, 7, 7, 7, 7, 7, 7, 7, 7, 7, 7, 7, 8, 8, 8, 8, 8, 8, 8, 8, 8, 8, 8, 8, 8, 8, 8, 8, 8, 8, 8, 8, 8, 8, 8, 8, 8, 8, 8, 8, 8, 8, 8, 8, 8, 8, 8, 8, 8, 8, 8, 8, 8, 8, 8, 8, 8, 8, 8, 8, 8, 8, 8, 8, 8, 8, 8, 8, 8, 8, 8, 8, 8, 8, 8, 8, 8, 8, 8, 8, 8, 8, 8, 8, 8, 8, 8, 8, 8, 8, 8, 8, 8, 8, 8, 8, 8, 8, 8, 8, 8, 8, 8, 8, 8, 8, 8, 8, 8, 8, 8, 8, 8, 8, 8, 8, 8, 8, 8, 8, 8, 8, 8, 8, 8, 8, 8, 8, 8, 8, 8, 8, 8, 8, 8, 8, 8, 8, 8, 8]⟩
set_option maxRecDepth 100000 in
theorem j0_eq (k : Nat) (x0 x2 : Int) : bits_Len64.j0 (k + 1) x0 x2 = if x0 ≥ 65536 then (if (x0 / 65536) ≥ 256 then (if 0 ≤ (((x0 / 65536) / 256) % 256) then (if (((x0 / 65536) / 256) % 256) < 256 then (some (wrap64 ((wrap64 ((wrap64 (x2 + 16)) + 8)) + (wrap64 (bt T8 (((x0 / 65536) / 256) % 256)))))) else (none)) else (none)) else (if 0 ≤ ((x0 / 65536) % 256) then (if ((x0 / 65536) % 256) < 256 then (some (wrap64 ((wrap64 (x2 + 16)) + (wrap64 (bt T8 ((x0 / 65536) % 256)))))) else (none)) else (none))) else (if x0 ≥ 256 then (if 0 ≤ ((x0 / 256) % 256) then (if ((x0 / 256) % 256) < 256 then (some (wrap64 ((wrap64 (x2 + 8)) + (wrap64 (bt T8 ((x0 / 256) % 256)))))) else (none)) else (none)) else (if 0 ≤ ((x0) % 256) then (if ((x0) % 256) < 256 then (some (wrap64 (x2 + (wrap64 (bt T8 ((x0) % 256)))))) else (none)) else (none))) := rfl
set_option maxRecDepth 100000 in
theorem len8 (i : Int) (h0 : 0 ≤ i) (h1 : i < 256) : 0 ≤ bt T8 i ∧ bt T8 i ≤ 8 ∧ i < 2 ^ (bt T8 i).toNat ∧ (bt T8 i = 0 ∧ i = 0 ∨ 1 ≤ bt T8 i ∧ 2 ^ ((bt T8 i).toNat - 1) ≤ i) := by
  have H : ∀ j : Fin 256, 0 ≤ bt T8 j.val ∧ bt T8 j.val ≤ 8 ∧ (j.val : Int) < 2 ^ (bt T8 j.val).toNat ∧ (bt T8 j.val = 0 ∧ (j.val : Int) = 0 ∨ 1 ≤ bt T8 j.val ∧ 2 ^ ((bt T8 j.val).toNat - 1) ≤ (j.val : Int)) := by decide +kernel
  have := H ⟨i.toNat, by omega⟩
  simpa [Int.toNat_of_nonneg h0] using this
theorem isLen_of {v r : Int} (h0 : 0 ≤ r) (h1 : r ≤ 64) (h2 : v < 2 ^ r.toNat) (h3 : r = 0 ∨ 2 ^ (r.toNat - 1) ≤ v) : IsLen v r := by
  refine ⟨h0, h1, fun m => ⟨fun h => Int.lt_of_lt_of_le h2 (pow_le (by omega)), fun h => ?_⟩⟩
  rcases h3 with rfl | h3
  · omega
  · apply Classical.byContradiction
    intro hn
    have := pow_le (a := m) (b := r.toNat - 1) (by omega)
    omega
theorem isLen_up {v q : Int} (s : Nat) (hq : q = v / 2 ^ s) (h1 : 1 ≤ q) {r : Int} (hr0 : 0 ≤ r) (hs : r + s ≤ 64) (h2 : q < 2 ^ r.toNat) (h3 : r = 0 ∨ 2 ^ (r.toNat - 1) ≤ q) : IsLen v (r + s) := by
  have hp := pow_pos s
  have e := Int.mul_ediv_add_emod v (2 ^ s)
  have m0 := Int.emod_nonneg v (b := 2 ^ s) (by omega)
  have m1 := Int.emod_lt_of_pos v hp
  rw [← hq] at e
  have hr1 : 1 ≤ r.toNat := by
    apply Classical.byContradiction
    intro hn
    have : r.toNat = 0 := by omega
    rw [this] at h2
    omega
  refine isLen_of (by omega) hs ?_ (.inr ?_)
  · rw [show (r + s).toNat = s + r.toNat by omega, pow_add]
    have : 2 ^ s * q ≤ 2 ^ s * (2 ^ r.toNat - 1) := Int.mul_le_mul_of_nonneg_left (by omega) (by omega)
    rw [Int.mul_sub] at this
    omega
  · rw [show (r + s).toNat - 1 = s + (r.toNat - 1) by omega, pow_add]
    have h3' : 2 ^ (r.toNat - 1) ≤ q := by rcases h3 with h | h <;> omega
    have : 2 ^ s * 2 ^ (r.toNat - 1) ≤ 2 ^ s * q := Int.mul_le_mul_of_nonneg_left h3' (by omega)
    omega
set_option maxRecDepth 100000 in
theorem len64_j (v x : Int) (s : Nat) (hs : s ≤ 32) (hx : x = v / 2 ^ s) (h1 : s = 0 ∨ 1 ≤ x) (hx1 : x < 4294967296) (h0 : 0 ≤ v) :
    ∃ r, IsLen v r ∧ Ev (fun k => bits_Len64.j0 k x s) r := by
  have hx0 : 0 ≤ x := by rw [hx]; exact Int.ediv_nonneg h0 (by have := pow_pos s; omega)
  have main : ∀ (t : Nat) (y : Int), t = 0 ∨ t = 8 ∨ t = 16 ∨ t = 24 → y = x / 2 ^ t → (t = 0 ∨ 1 ≤ y) → y < 256 → ∀ b, b = bt T8 y → IsLen v (b + t + s) := by
    intro t y ht hy hy1 hy2 b hb
    have hy0 : 0 ≤ y := by rw [hy]; exact Int.ediv_nonneg hx0 (by have := pow_pos t; omega)
    obtain ⟨b0, b8, b1, b2⟩ := len8 y hy0 hy2
    rw [← hb] at b0 b8 b1 b2
    have hyv : y = v / 2 ^ (s + t) := by
      rw [hy, hx, pow_add, Int.ediv_ediv_of_nonneg]
      have := pow_pos s; omega
    by_cases hz : 1 ≤ y
    · have := isLen_up (s + t) hyv hz b0 (by omega) b1 (by rcases b2 with b2 | b2; exact .inl b2.1; exact .inr b2.2)
      rw [show b + (t : Int) + s = b + ((s + t : Nat) : Int) by omega]
      exact this
    · obtain rfl : t = 0 := by omega
      have hx' : x = y := by rw [hy]; simp
      obtain rfl : s = 0 := by omega
      have hv : v = y := by rw [← hx', hx]; simp
      obtain rfl : b = 0 := by
        rcases b2 with b2 | b2
        · exact b2.1
        · have := pow_pos (b.toNat - 1); omega
      refine isLen_of (by omega) (by omega) ?_ (.inl (by omega))
      rw [hv]; simp; omega
  by_cases c1 : x ≥ 65536
  · by_cases c2 : x / 65536 ≥ 256
    · have y2 : x / 65536 / 256 % 256 = x / 65536 / 256 := by omega
      obtain ⟨b0, b8, -, -⟩ := len8 (x / 65536 / 256) (by omega) (by omega)
      refine ⟨_, main 24 (x / 65536 / 256) (by omega) (by rw [Int.ediv_ediv_of_nonneg (by omega)]; rfl) (by omega) (by omega) _ rfl, ?_⟩
      refine Ev.succ ?_
      simp only [j0_eq]
      refine Ev.ite_pos c1 (Ev.ite_pos c2 (Ev.ite_pos (by omega) (Ev.ite_pos (by omega) (Ev.fin ?_))))
      rw [y2, w64 (n := (s : Int) + 16) (by omega) (by omega), w64 (n := (s : Int) + 16 + 8) (by omega) (by omega), w64 (n := bt _ _) (by omega) (by omega), w64 (by omega) (by omega)]
      omega
    · have y2 : x / 65536 % 256 = x / 65536 := by omega
      obtain ⟨b0, b8, -, -⟩ := len8 (x / 65536) (by omega) (by omega)
      refine ⟨_, main 16 (x / 65536) (by omega) rfl (by omega) (by omega) _ rfl, ?_⟩
      refine Ev.succ ?_
      simp only [j0_eq]
      refine Ev.ite_pos c1 (Ev.ite_neg c2 (Ev.ite_pos (by omega) (Ev.ite_pos (by omega) (Ev.fin ?_))))
      rw [y2, w64 (n := (s : Int) + 16) (by omega) (by omega), w64 (n := bt _ _) (by omega) (by omega), w64 (by omega) (by omega)]
      omega
  · by_cases c2 : x ≥ 256
    · have y2 : x / 256 % 256 = x / 256 := by omega
      obtain ⟨b0, b8, -, -⟩ := len8 (x / 256) (by omega) (by omega)
      refine ⟨_, main 8 (x / 256) (by omega) rfl (by omega) (by omega) _ rfl, ?_⟩
      refine Ev.succ ?_
      simp only [j0_eq]
      refine Ev.ite_neg c1 (Ev.ite_pos c2 (Ev.ite_pos (by omega) (Ev.ite_pos (by omega) (Ev.fin ?_))))
      rw [y2, w64 (n := (s : Int) + 8) (by omega) (by omega), w64 (n := bt _ _) (by omega) (by omega), w64 (by omega) (by omega)]
      omega
    · have y2 : x % 256 = x := by omega
      obtain ⟨b0, b8, -, -⟩ := len8 x (by omega) (by omega)
      refine ⟨_, main 0 x (by omega) (by simp) (by omega) (by omega) _ rfl, ?_⟩
      refine Ev.succ ?_
      simp only [j0_eq]
      refine Ev.ite_neg c1 (Ev.ite_neg c2 (Ev.ite_pos (by omega) (Ev.ite_pos (by omega) (Ev.fin ?_))))
      rw [y2, w64 (n := bt _ _) (by omega) (by omega), w64 (by omega) (by omega)]
      omega
theorem len64_ev (v : Int) (h0 : 0 ≤ v) (h1 : v ≤ 18446744073709551615) : ∃ r, IsLen v r ∧ Ev (fun k => bits_Len64.f k v) r := by
  unfold bits_Len64.f
  by_cases c : v ≥ 4294967296
  · obtain ⟨r, hr, he⟩ := len64_j v (v / 4294967296) 32 (by omega) rfl (by omega) (by omega) h0
    exact ⟨r, hr, Ev.ite_pos c he⟩
  · obtain ⟨r, hr, he⟩ := len64_j v v 0 (by omega) (by simp) (by omega) (by omega) h0
    exact ⟨r, hr, Ev.ite_neg c he⟩
def num : List Int → Int
  | [] => 0
  | b :: r => b + 256 * num r
def Bytes (l : List Int) : Prop := ∀ x ∈ l, 0 ≤ x ∧ x ≤ 255
theorem bytes_wf {l : List Int} (h : ∀ x ∈ l, (Lit.int .u8 x).wf = true) : Bytes l := fun x hx => wf_u8 (h x hx)
theorem Bytes.tail {b : Int} {l : List Int} (h : Bytes (b :: l)) : Bytes l := fun x hx => h x (List.mem_cons_of_mem _ hx)
theorem Bytes.take {l : List Int} (h : Bytes l) (n : Nat) : Bytes (l.take n) := fun x hx => h x (List.mem_of_mem_take hx)
theorem Bytes.drop {l : List Int} (h : Bytes l) (n : Nat) : Bytes (l.drop n) := fun x hx => h x (List.mem_of_mem_drop hx)
theorem num_bd {l : List Int} (h : Bytes l) : 0 ≤ num l ∧ num l < 256 ^ l.length := by
  induction l with
  | nil => simp [num]
  | cons b r ih =>
    have hb := h b (by simp)
    have hi := ih h.tail
    have e : (256 : Int) ^ (b :: r).length = 256 * 256 ^ r.length := by rw [List.length_cons, Int.pow_succ, Int.mul_comm]
    unfold num
    omega
theorem num_snoc (l : List Int) (b : Int) : num (l ++ [b]) = num l + b * 256 ^ l.length := by
  induction l with
  | nil => simp [num]
  | cons c r ih =>
    have e : (256 : Int) ^ (c :: r).length = 256 * 256 ^ r.length := by rw [List.length_cons, Int.pow_succ, Int.mul_comm]
    simp only [List.cons_append, num, ih, e]
    rw [Int.mul_add, ← Int.mul_assoc, ← Int.mul_assoc, Int.mul_comm 256 b]
    omega
theorem rd_mem {l : List Int} {i : Int} (h0 : 0 ≤ i) (h : i < l.length) : rd l i ∈ l := by
  unfold rd
  rw [List.getD_eq_getElem?_getD, List.getElem?_eq_getElem (by omega)]
  exact List.getElem_mem _
theorem take_rd {l : List Int} {a k : Nat} (h : a + k < l.length) : (l.drop a).take (k + 1) = (l.drop a).take k ++ [rd l ((a : Int) + k)] := by
  have : ((a : Int) + k).toNat = a + k := by omega
  unfold rd
  rw [this, List.take_succ_eq_append_getElem (by simp; omega), List.getElem_drop, List.getD_eq_getElem?_getD, List.getElem?_eq_getElem h]
  rfl
def get (l : List Int) (at_ n : Int) : Int × Bool := if 1 ≤ n ∧ n ≤ 8 ∧ 0 ≤ at_ ∧ at_ ≤ l.length ∧ n ≤ l.length - at_ then (num ((l.drop at_.toNat).take n.toNat), true) else (0, false)
theorem get_bad {l : List Int} {a n : Int} (h : ¬ (1 ≤ n ∧ n ≤ 8 ∧ 0 ≤ a ∧ a ≤ l.length ∧ n ≤ l.length - a)) : get l a n = (0, false) := if_neg h
theorem get_good {l : List Int} {a n : Int} (h : 1 ≤ n ∧ n ≤ 8 ∧ 0 ≤ a ∧ a ≤ l.length ∧ n ≤ l.length - a) : get l a n = (num ((l.drop a.toNat).take n.toNat), true) := if_pos h
theorem pow256 {i : Nat} (h : i ≤ 8) : (256 : Int) ^ i ≤ 18446744073709551616 ∧ (256 : Int) ^ i = 2 ^ (8 * i) := by
  have h1 : (256 : Int) ^ i = 2 ^ (8 * i) := by rw [Int.pow_mul]; rfl
  refine ⟨?_, h1⟩
  rw [h1]
  have := pow_le (a := 8 * i) (b := 64) (by omega)
  simpa using this
theorem le_Get_loop {l : List Int} (hl : Bytes l) (hlen : l.length ≤ 140737488351232) {a : Nat} {n : Nat} (hn : n ≤ 8) (ha : a + n ≤ l.length) (d : Nat) : ∀ i : Nat, i + d = n →
    Ev (fun k => le_Get.l0 k l a (num ((l.drop a).take i)) n i) (num ((l.drop a).take n), true) := by
  induction d with
  | zero =>
    intro i hd
    obtain rfl : i = n := by omega
    refine Ev.succ ?_
    simp only [le_Get.l0]
    exact Ev.ite_neg (by omega) (Ev.now _)
  | succ d ih =>
    intro i hd
    refine Ev.succ ?_
    simp only [le_Get.l0]
    have e1 : wrap64 ((a : Int) + i) = a + i := w64 (by omega) (by omega)
    have e2 : wrap64 (8 * (i : Int)) = 8 * i := w64 (by omega) (by omega)
    simp only [e1, e2]
    refine Ev.ite_pos (by omega) (Ev.ite_pos (by omega) (Ev.ite_pos (by omega) (Ev.ite_pos (by omega) ?_)))
    have hr := hl _ (rd_mem (l := l) (i := (a : Int) + i) (by omega) (by omega))
    have hb := num_bd ((hl.drop a).take i)
    have hlen' : ((l.drop a).take i).length = i := by simp; omega
    rw [hlen'] at hb
    have hp := pow256 (i := i) (by omega)
    have hp1 := pow256 (i := i + 1) (by omega)
    have hs : (256 : Int) ^ (i + 1) = 256 ^ i * 256 := Int.pow_succ _ _
    have e3 : (8 * (i : Int)).toNat = 8 * i := by omega
    have h2 := ih (i + 1) (by omega)
    rw [take_rd (by omega), num_snoc, hlen', show ((i + 1 : Nat) : Int) = (i : Int) + 1 by omega] at h2
    rw [wu64 (by omega) (by omega), shl_u64 (by omega), e3, ← hp.2]
    generalize rd l ((a : Int) + i) = r at *
    have hm : 0 ≤ r * 256 ^ i ∧ r * 256 ^ i ≤ 255 * 256 ^ i := by
      have := pow_pos (8 * i); rw [← hp.2] at this
      exact ⟨Int.mul_nonneg hr.1 (by omega), Int.mul_le_mul_of_nonneg_right hr.2 (by omega)⟩
    rw [Int.emod_eq_of_lt hm.1 (by omega), or_u64 (i := 8 * i) (by omega) hb.1 (by rw [← hp.2]; exact hb.2) hm.1 (by rw [← hp.2]; exact Int.mul_emod_left _ _) (by omega)]
    rw [w64 (n := (i : Int) + 1) (by omega) (by omega)]
    exact h2
theorem le_Get_ev {l : List Int} (hl : Bytes l) (hlen : l.length ≤ 140737488351232) (a n : Int) (ha : -9223372036854775808 ≤ a) : Ev (fun k => le_Get.f k l a n) (get l a n) := by
  unfold le_Get.f le_size.f
  have bad : Ev (fun k => le_Get.j0 k l a n true) (0, false) := by
    refine Ev.succ ?_
    simp only [le_Get.j0, if_true]
    exact Ev.now _
  by_cases h1 : 1 ≤ n
  · simp only [ge_iff_le, if_pos h1, Option.bind_some]
    by_cases h2 : n ≤ 8
    · simp only [h2, decide_true, if_true]
      by_cases h3 : a < 0
      · rw [get_bad (by omega)]; exact Ev.ite_pos h3 bad
      refine Ev.ite_neg h3 ?_
      by_cases h4 : a > (l.length : Int)
      · rw [get_bad (by omega)]; exact Ev.ite_pos h4 bad
      refine Ev.ite_neg h4 ?_
      rw [w64 (by omega) (by omega)]
      by_cases h5 : (l.length : Int) - a < n
      · rw [get_bad (by omega)]; simp only [h5, decide_true]; exact bad
      rw [get_good (by omega)]
      simp only [h5, decide_false]
      refine Ev.succ ?_
      simp only [le_Get.j0]
      refine Ev.ite_neg (by decide) ?_
      obtain ⟨n, rfl⟩ := Int.eq_ofNat_of_zero_le (show 0 ≤ n by omega)
      obtain ⟨a, rfl⟩ := Int.eq_ofNat_of_zero_le (show 0 ≤ a by omega)
      have := le_Get_loop hl hlen (a := a) (n := n) (by omega) (by omega) n 0 (by omega)
      simpa [num] using this
    · rw [get_bad (by omega)]
      simp only [h2, decide_false]
      exact Ev.ite_neg (by decide) bad
  · rw [get_bad (by omega)]
    simp only [ge_iff_le, if_neg h1, Option.bind_some]
    exact Ev.ite_neg (by decide) bad
def bytes : Nat → Int → List Int
  | 0, _ => []
  | n + 1, v => v % 256 :: bytes n (v / 256)
theorem bytes_len (n : Nat) : ∀ v, (bytes n v).length = n := by
  induction n with
  | zero => intro v; rfl
  | succ n ih => intro v; simp [bytes, ih]
theorem bytes_snoc (n : Nat) : ∀ v : Int, 0 ≤ v → bytes (n + 1) v = bytes n v ++ [v / 256 ^ n % 256] := by
  induction n with
  | zero => intro v _; simp [bytes]
  | succ n ih =>
    intro v hv
    rw [bytes, ih _ (by omega), bytes, Int.ediv_ediv_of_nonneg (by omega), List.cons_append, Int.pow_succ, Int.mul_comm]
theorem bytes_bytes (n : Nat) : ∀ v, Bytes (bytes n v) := by
  induction n with
  | zero => intro v x hx; simp [bytes] at hx
  | succ n ih =>
    intro v x hx
    simp only [bytes, List.mem_cons] at hx
    rcases hx with rfl | hx
    · omega
    · exact ih _ x hx
theorem num_bytes (n : Nat) : ∀ v : Int, 0 ≤ v → v < 256 ^ n → num (bytes n v) = v := by
  induction n with
  | zero => intro v h0 h1; simp at h1; simp [bytes, num]; omega
  | succ n ih =>
    intro v h0 h1
    rw [Int.pow_succ] at h1
    rw [bytes, num, ih _ (by omega) (by omega)]
    omega
def put (v n : Int) : List Int × Bool := if 1 ≤ n ∧ n ≤ 8 ∧ v < 256 ^ n.toNat then (bytes n.toNat v, true) else ([], false)
theorem put_bad {v n : Int} (h : ¬ (1 ≤ n ∧ n ≤ 8 ∧ v < 256 ^ n.toNat)) : put v n = ([], false) := if_neg h
theorem put_good {v n : Int} (h : 1 ≤ n ∧ n ≤ 8 ∧ v < 256 ^ n.toNat) : put v n = (bytes n.toNat v, true) := if_pos h
theorem le_Put_loop (v : Int) (h0 : 0 ≤ v) {n : Nat} (hn : n ≤ 8) (d : Nat) : ∀ i : Nat, i + d = n →
    Ev (fun k => le_Put.l0 k v (bytes i v ++ List.replicate d 0) n i) (bytes n v, true) := by
  induction d with
  | zero =>
    intro i hd
    obtain rfl : i = n := by omega
    refine Ev.succ ?_
    simp only [le_Put.l0]
    refine Ev.ite_neg (by omega) (Ev.fin (by simp))
  | succ d ih =>
    intro i hd
    refine Ev.succ ?_
    simp only [le_Put.l0]
    have e2 : wrap64 (8 * (i : Int)) = 8 * i := w64 (by omega) (by omega)
    have e3 : wrap64 ((i : Int) + 1) = (i + 1 : Nat) := w64 (by omega) (by omega)
    have hl := bytes_len i v
    simp only [e2, e3]
    refine Ev.ite_pos (by omega) (Ev.ite_pos (by omega) (Ev.ite_pos (by omega) (Ev.ite_pos (by simp [hl]; omega) ?_)))
    have hp := pow256 (i := i) (by omega)
    rw [shr_any (by simp [IntKind.bits]; omega), show (8 * (i : Int)).toNat = 8 * i by omega, ← hp.2]
    have e4 : (bytes i v ++ List.replicate (d + 1) 0).set (i : Int).toNat (v / 256 ^ i % 256) = bytes (i + 1) v ++ List.replicate d 0 := by
      rw [bytes_snoc i v h0, List.set_append_right _ _ (by omega), hl, List.replicate_succ, List.append_assoc]
      simp
    rw [e4]
    exact ih (i + 1) (by omega)
theorem le_Put_ev (v n : Int) (h0 : 0 ≤ v) (h1 : v ≤ 18446744073709551615) : Ev (fun k => le_Put.f k v n) (put v n) := by
  unfold le_Put.f le_size.f
  have bad : Ev (fun k => le_Put.j0 k v n true) ([], false) := by
    refine Ev.succ ?_
    simp only [le_Put.j0, if_true]
    exact Ev.now _
  by_cases c1 : 1 ≤ n
  · simp only [ge_iff_le, if_pos c1, Option.bind_some]
    by_cases c2 : n ≤ 8
    · simp only [c2, decide_true, if_true]
      obtain ⟨r, hr, he⟩ := len64_ev v h0 h1
      refine Ev.bind he ?_
      rw [w64 (by omega) (by omega)]
      obtain ⟨n, rfl⟩ := Int.eq_ofNat_of_zero_le (show 0 ≤ n by omega)
      have hk := hr.2.2 (8 * n)
      have hp := pow256 (i := n) (by omega)
      rw [← hp.2] at hk
      by_cases c3 : r > 8 * (n : Int)
      · rw [put_bad (by simp; omega)]
        simp only [c3, decide_true]; exact bad
      · rw [put_good (by simp; omega)]
        simp only [c3, decide_false]
        refine Ev.succ ?_
        simp only [le_Put.j0]
        refine Ev.ite_neg (by decide) (Ev.ite_pos (by omega) (Ev.ite_pos (by omega) ?_))
        simp only [Option.bind_some, Int.toNat_natCast, List.length_replicate]
        have := le_Put_loop v h0 (n := n) (by omega) n 0 (by omega)
        simpa [bytes] using this
    · rw [put_bad (by omega)]
      simp only [c2, decide_false]
      exact Ev.ite_neg (by decide) bad
  · rw [put_bad (by omega)]
    simp only [ge_iff_le, if_neg c1, Option.bind_some]
    exact Ev.ite_neg (by decide) bad
theorem ref_Put_loop (v : Int) (h0 : 0 ≤ v) (h1 : v ≤ 18446744073709551615) {n : Nat} (hn : n ≤ 8) (d : Nat) : ∀ i : Nat, i + d = n →
    Ev (fun k => marquetryref01_Put.l0 k (v / 256 ^ i) n (bytes i v) i) (if v < 256 ^ n then (bytes n v, true) else ([], false)) := by
  induction d with
  | zero =>
    intro i hd
    obtain rfl : i = n := by omega
    refine Ev.succ ?_
    simp only [marquetryref01_Put.l0]
    refine Ev.ite_neg (by omega) ?_
    have hp : (0 : Int) < 256 ^ i := by rw [(pow256 (i := i) (by omega)).2]; exact pow_pos _
    by_cases c : v < 256 ^ i
    · rw [if_pos c]
      exact Ev.ite_pos (Int.ediv_eq_zero_of_lt h0 c) (Ev.now _)
    · rw [if_neg c]
      refine Ev.ite_neg ?_ (Ev.now _)
      have : 1 ≤ v / 256 ^ i := (Int.le_ediv_iff_mul_le hp).2 (by omega)
      omega
  | succ d ih =>
    intro i hd
    refine Ev.succ ?_
    simp only [marquetryref01_Put.l0]
    have hl := bytes_len i v
    have hp : (0 : Int) < 256 ^ i := by rw [(pow256 (i := i) (by omega)).2]; exact pow_pos _
    have hq : 0 ≤ v / 256 ^ i := Int.ediv_nonneg h0 (by omega)
    have hq1 : v / 256 ^ i ≤ v := Int.ediv_le_self _ h0
    refine Ev.ite_pos (by omega) (Ev.ite_pos (by omega) ?_)
    rw [Int.tmod_eq_emod_of_nonneg hq, Int.tdiv_eq_ediv_of_nonneg hq, wu64 (by omega) (by omega), w64 (by omega) (by omega), Int.emod_emod, Int.ediv_ediv_of_nonneg (by omega), ← bytes_snoc i v h0, ← Int.pow_succ]
    exact ih (i + 1) (by omega)
theorem ref_Put_ev (v n : Int) (h0 : 0 ≤ v) (h1 : v ≤ 18446744073709551615) : Ev (fun k => marquetryref01_Put.f k v n) (put v n) := by
  unfold marquetryref01_Put.f
  have bad : Ev (fun k => marquetryref01_Put.j0 k v n true) ([], false) := by
    refine Ev.succ ?_
    simp only [marquetryref01_Put.j0, if_true]
    exact Ev.now _
  by_cases c1 : n < 1
  · rw [put_bad (by omega)]; exact Ev.ite_pos c1 bad
  refine Ev.ite_neg c1 ?_
  by_cases c2 : n > 8
  · rw [put_bad (by omega)]; simp only [c2, decide_true]; exact bad
  simp only [c2, decide_false]
  refine Ev.succ ?_
  simp only [marquetryref01_Put.j0]
  refine Ev.ite_neg (by decide) ?_
  obtain ⟨n, rfl⟩ := Int.eq_ofNat_of_zero_le (show 0 ≤ n by omega)
  have := ref_Put_loop v h0 h1 (n := n) (by omega) n 0 (by omega)
  by_cases c3 : v < 256 ^ n
  · rw [put_good ⟨by omega, by omega, by simpa using c3⟩]; rw [if_pos c3] at this; simpa [bytes] using this
  · rw [put_bad (fun h => c3 (by simpa using h.2.2))]; rw [if_neg c3] at this; simpa [bytes] using this
def okName (s : ByteArray) : Bool := decide ((bytesOf s).length = 4 ∧ ∀ b ∈ bytesOf s, sign b)
theorem chunk_Name_eq (s : ByteArray) : chunk_Name.f s = some (okName s) := rfl
theorem rd_nat {l : List Int} {i : Nat} (h : i < l.length) : rd l (i : Int) = l[i] := by
  unfold rd
  rw [show ((i : Int)).toNat = i by omega, List.getD_eq_getElem?_getD, List.getElem?_eq_getElem h]
  rfl
set_option maxRecDepth 100000 in
theorem Name_loop (s : ByteArray) (hs : s.size ≤ 140737488355328) (d : Nat) : ∀ i : Nat, i + d = s.size → (∀ j (h : j < (bytesOf s).length), j < i → sign (bytesOf s)[j]) → Ev (fun k => marquetryref24_Name.l0 k s i) (okName s) := by
  induction d with
  | zero =>
    intro i hd hall
    refine Ev.succ ?_
    simp only [marquetryref24_Name.l0]
    refine Ev.ite_neg (by omega) (Ev.fin ?_)
    have hl := bytesOf_length s
    have h2 : ∀ b ∈ bytesOf s, sign b := by
      intro b hb
      obtain ⟨j, hj, rfl⟩ := List.mem_iff_getElem.1 hb
      exact hall j hj (by omega)
    unfold okName
    by_cases c : s.size = 4
    · rw [decide_eq_true (by exact ⟨by omega, h2⟩)]
      simp [c]
    · rw [decide_eq_false (by rintro ⟨h, _⟩; omega)]
      simp
      omega
  | succ d ih =>
    intro i hd hall
    refine Ev.succ ?_
    simp only [marquetryref24_Name.l0]
    have hl := bytesOf_length s
    have hb : bt s (i : Int) = (bytesOf s)[i]'(by omega) := by rw [← rd_bytesOf, rd_nat (by omega)]
    have hm : (bytesOf s)[i]'(by omega) ∈ bytesOf s := List.getElem_mem _
    refine Ev.ite_pos (by omega) (Ev.ite_pos (by omega) ?_)
    have bad : ¬ sign (bytesOf s)[i] → okName s = false := fun h => decide_eq_false (fun c => h (c.2 _ hm))
    by_cases c1 : bt s (i : Int) < 32
    · refine Ev.ite_pos c1 (Ev.fin ?_)
      rw [bad (by unfold sign; omega)]
    refine Ev.ite_neg c1 ?_
    by_cases c2 : bt s (i : Int) > 126
    · refine Ev.ite_pos c2 (Ev.fin ?_)
      rw [bad (by unfold sign; omega)]
    refine Ev.ite_neg c2 ?_
    rw [w64 (by omega) (by omega)]
    refine ih (i + 1) (by omega) fun j h hj => ?_
    by_cases c : j = i
    · subst c; unfold sign; omega
    · exact hall j h (by omega)
theorem Name_ev (s : ByteArray) (hs : s.size ≤ 140737488355328) : Ev (fun k => marquetryref24_Name.f k s) (okName s) := by
  unfold marquetryref24_Name.f
  exact Name_loop s hs s.size 0 (by omega) (fun j h hj => by omega)
abbrev Ch := S42
def no (e : Int) : ByteArray × List Int × Int × Int := (⟨#[]⟩, [], 0, e)
def one (b : List Int) : ByteArray × List Int × Int × Int :=
  if b.length < 4 then no 2 else
  if okName (strOfNums (b.take 4)) = false then no 3 else
  if b.length < 8 ∨ (b.length : Int) - 8 < num ((b.drop 4).take 4) then no 2 else
  if num ((b.drop 4).take 4) % 2 = 0 then (strOfNums (b.take 4), (b.take (8 + (num ((b.drop 4).take 4)).toNat)).drop 8, 8 + num ((b.drop 4).take 4), 0) else
  if (b.length : Int) ≤ 8 + num ((b.drop 4).take 4) then no 2 else
  if rd b (8 + num ((b.drop 4).take 4)) = 0 then (strOfNums (b.take 4), (b.take (8 + (num ((b.drop 4).take 4)).toNat)).drop 8, 8 + num ((b.drop 4).take 4) + 1, 0) else no 3
section
variable {b : List Int}
theorem one_short (h : b.length < 4) : one b = no 2 := by unfold one; rw [if_pos h]
theorem one_name (h : ¬ b.length < 4) (h2 : okName (strOfNums (b.take 4)) = false) : one b = no 3 := by unfold one; rw [if_neg h, if_pos h2]
theorem one_end (h : ¬ b.length < 4) (h2 : ¬ okName (strOfNums (b.take 4)) = false) (h3 : b.length < 8 ∨ (b.length : Int) - 8 < num ((b.drop 4).take 4)) : one b = no 2 := by unfold one; rw [if_neg h, if_neg h2, if_pos h3]
theorem one_even (h2 : ¬ okName (strOfNums (b.take 4)) = false) (h3 : ¬ (b.length < 8 ∨ (b.length : Int) - 8 < num ((b.drop 4).take 4))) (h4 : num ((b.drop 4).take 4) % 2 = 0) :
    one b = (strOfNums (b.take 4), (b.take (8 + (num ((b.drop 4).take 4)).toNat)).drop 8, 8 + num ((b.drop 4).take 4), 0) := by unfold one; rw [if_neg (by omega), if_neg h2, if_neg h3, if_pos h4]
theorem one_out (h2 : ¬ okName (strOfNums (b.take 4)) = false) (h3 : ¬ (b.length < 8 ∨ (b.length : Int) - 8 < num ((b.drop 4).take 4))) (h4 : ¬ num ((b.drop 4).take 4) % 2 = 0) (h5 : (b.length : Int) ≤ 8 + num ((b.drop 4).take 4)) : one b = no 2 := by
  unfold one; rw [if_neg (by omega), if_neg h2, if_neg h3, if_neg h4, if_pos h5]
theorem one_odd (h2 : ¬ okName (strOfNums (b.take 4)) = false) (h3 : ¬ (b.length < 8 ∨ (b.length : Int) - 8 < num ((b.drop 4).take 4))) (h4 : ¬ num ((b.drop 4).take 4) % 2 = 0) (h5 : ¬ (b.length : Int) ≤ 8 + num ((b.drop 4).take 4)) (h6 : rd b (8 + num ((b.drop 4).take 4)) = 0) :
    one b = (strOfNums (b.take 4), (b.take (8 + (num ((b.drop 4).take 4)).toNat)).drop 8, 8 + num ((b.drop 4).take 4) + 1, 0) := by
  unfold one; rw [if_neg (by omega), if_neg h2, if_neg h3, if_neg h4, if_neg h5, if_pos h6]
theorem one_pad (h2 : ¬ okName (strOfNums (b.take 4)) = false) (h3 : ¬ (b.length < 8 ∨ (b.length : Int) - 8 < num ((b.drop 4).take 4))) (h4 : ¬ num ((b.drop 4).take 4) % 2 = 0) (h5 : ¬ (b.length : Int) ≤ 8 + num ((b.drop 4).take 4)) (h6 : ¬ rd b (8 + num ((b.drop 4).take 4)) = 0) : one b = no 3 := by
  unfold one; rw [if_neg (by omega), if_neg h2, if_neg h3, if_neg h4, if_neg h5, if_neg h6]
end
theorem num4 {b : List Int} (h : Bytes b) : 0 ≤ num ((b.drop 4).take 4) ∧ num ((b.drop 4).take 4) < 4294967296 := by
  have h1 := num_bd ((h.drop 4).take 4)
  have h2 : ((b.drop 4).take 4).length ≤ 4 := List.length_take_le _ _
  refine ⟨h1.1, Int.lt_of_lt_of_le h1.2 ?_⟩
  rw [(pow256 (i := ((b.drop 4).take 4).length) (by omega)).2]
  have h3 := pow_le (a := 8 * ((b.drop 4).take 4).length) (b := 32) (by omega)
  rw [show (2 : Int) ^ 32 = 4294967296 by decide] at h3
  exact h3
theorem get4 {b : List Int} (h : 8 ≤ b.length) : get b 4 4 = (num ((b.drop 4).take 4), true) := get_good (by omega)
theorem one_ev {b : List Int} (h : Bytes b) (hl : b.length ≤ 140737488351232) : Ev (fun k => chunk_one.f k b) (one b) := by
  unfold chunk_one.f
  have hn := num4 h
  by_cases c1 : b.length < 4
  · rw [one_short c1]
    exact Ev.ite_pos (by omega) (Ev.now _)
  refine Ev.ite_neg (by omega) (Ev.ite_pos (by omega) ?_)
  refine Ev.bindo (chunk_Name_eq _) ?_
  by_cases c2 : okName (strOfNums (b.take 4)) = false
  · rw [one_name c1 c2]
    exact Ev.ite_neg (by simp [c2]) (Ev.now _)
  refine Ev.ite_pos (by simpa using c2) ?_
  refine Ev.bind (le_Get_ev h hl 4 4 (by omega)) ?_
  have bad : ∀ x, Ev (fun k => chunk_one.j0 k b (strOfNums (b.take 4)) x true) (no 2) := fun x => by
    refine Ev.succ ?_
    simp only [chunk_one.j0, if_true]
    exact Ev.now _
  by_cases c3 : b.length < 8
  · rw [one_end c1 c2 (.inl c3), get_bad (by omega)]
    exact Ev.ite_neg (by simp) (bad _)
  rw [get4 (by omega)]
  simp only [if_true]
  rw [w64 (n := (b.length : Int) - 8) (by omega) (by omega), wu64 (n := (b.length : Int) - 8) (by omega) (by omega)]
  by_cases c4 : (b.length : Int) - 8 < num ((b.drop 4).take 4)
  · rw [one_end c1 c2 (.inr c4)]
    simp only [gt_iff_lt, c4, decide_true]
    exact bad _
  have c34 : ¬ (b.length < 8 ∨ (b.length : Int) - 8 < num ((b.drop 4).take 4)) := by omega
  simp only [gt_iff_lt, c4, decide_false]
  refine Ev.succ ?_
  simp only [chunk_one.j0]
  have e5 := one_even c2 c34
  have e6 := one_out c2 c34
  have e7 := one_odd c2 c34
  have e8 := one_pad c2 c34
  generalize num ((b.drop 4).take 4) = n at *
  have e1 : wrap64 n = n := w64 (by omega) (by omega)
  have e2 : wrap64 (8 + n) = 8 + n := w64 (by omega) (by omega)
  have e3 : wrap64 (8 + n + 1) = 8 + n + 1 := w64 (by omega) (by omega)
  simp only [e1, e2, e3, Int.tmod_eq_emod_of_nonneg hn.1]
  refine Ev.ite_neg (by simp) (Ev.ite_pos (by omega) (Ev.ite_pos (by omega) ?_))
  have e4 : (8 + n).toNat = 8 + n.toNat := by omega
  have hc : bytes_Clone.f ((b.take (8 + n).toNat).drop 8) = some ((b.take (8 + n.toNat)).drop 8) := by
    unfold bytes_Clone.f
    rw [e4, if_pos (by simp; omega)]
  refine Ev.bindo hc ?_
  by_cases c5 : n % 2 = 0
  · rw [e5 c5]
    exact Ev.ite_pos c5 (Ev.now _)
  refine Ev.ite_neg c5 ?_
  by_cases c6 : (b.length : Int) ≤ 8 + n
  · rw [e6 c5 c6]
    exact Ev.ite_pos (by omega) (Ev.now _)
  refine Ev.ite_neg (by omega) (Ev.ite_pos (by omega) (Ev.ite_pos (by omega) ?_))
  by_cases c7 : rd b (8 + n) = 0
  · rw [e7 c5 c6 c7]
    exact Ev.ite_pos c7 (Ev.now _)
  · rw [e8 c5 c6 c7]
    exact Ev.ite_neg c7 (Ev.now _)
def inner : Nat → List Int → List Ch → List Ch × Int
  | 0, _, acc => (acc, 0)
  | d + 1, b, acc => if b.length = 0 then (acc, 0) else if (one b).2.2.2 = 0 then inner d (b.drop (one b).2.2.1.toNat) (acc ++ [⟨(one b).1, (one b).2.1⟩]) else ([], (one b).2.2.2)
theorem one_num {b : List Int} (h : Bytes b) (h0 : (one b).2.2.2 = 0) : 8 ≤ (one b).2.2.1 ∧ (one b).2.2.1 ≤ b.length ∧ (one b).2.1.length ≤ b.length := by
  have hn := num4 h
  revert h0
  unfold one
  repeat' split
  all_goals first | (intro h0; exact absurd h0 (by decide)) | (intro _; refine ⟨?_, ?_, ?_⟩ <;> dsimp only <;> first | omega | (simp only [List.length_drop, List.length_take]; omega))
theorem chunk_Inner_loop (d : Nat) : ∀ (b : List Int) (acc : List Ch), Bytes b → b.length ≤ d → b.length + acc.length ≤ 2000000000 → Ev (fun k => chunk_Inner.l0 k b acc) (inner d b acc) := by
  induction d with
  | zero =>
    intro b acc hb hd hl
    refine Ev.succ ?_
    simp only [chunk_Inner.l0, inner]
    exact Ev.ite_neg (by omega) (Ev.now _)
  | succ d ih =>
    intro b acc hb hd hl
    refine Ev.succ ?_
    simp only [chunk_Inner.l0]
    by_cases c : b.length = 0
    · have e : inner (d + 1) b acc = (acc, 0) := by unfold inner; rw [if_pos c]
      rw [e]
      exact Ev.ite_neg (by omega) (Ev.now _)
    refine Ev.ite_pos (by omega) ?_
    refine Ev.bind (one_ev hb (by omega)) ?_
    by_cases c2 : (one b).2.2.2 = 0
    · have e : inner (d + 1) b acc = inner d (b.drop (one b).2.2.1.toNat) (acc ++ [⟨(one b).1, (one b).2.1⟩]) := by rw [inner, if_neg c, if_pos c2]
      rw [e]
      have hn := one_num hb c2
      refine Ev.ite_pos c2 (Ev.ite_pos (by omega) (Ev.ite_pos (by omega) (Ev.ite_pos (by omega) ?_)))
      exact ih _ _ (hb.drop _) (by simp only [List.length_drop]; omega) (by simp only [List.length_drop, List.length_append, List.length_singleton]; omega)
    · have e : inner (d + 1) b acc = ([], (one b).2.2.2) := by rw [inner, if_neg c, if_neg c2]
      rw [e]
      exact Ev.ite_neg c2 (Ev.now _)
theorem chunk_Inner_ev {b : List Int} (h : Bytes b) (hl : b.length ≤ 1000000000) : Ev (fun k => chunk_Inner.f k b) (inner b.length b []) := by
  unfold chunk_Inner.f
  exact chunk_Inner_loop _ b [] h (Nat.le_refl _) (by simp; omega)
theorem rd_drop (l : List Int) (a : Nat) (i : Int) (h : 0 ≤ i) : rd (l.drop a) i = rd l (a + i) := by
  unfold rd
  rw [List.getD_eq_getElem?_getD, List.getD_eq_getElem?_getD, List.getElem?_drop, show ((a : Int) + i).toNat = a + i.toNat by omega]
theorem mid_eq (l : List Int) (a b : Nat) : (l.take (a + b)).drop a = (l.drop a).take b := by
  rw [List.drop_take]
  congr 1
  omega
def riff : List UInt8 := [82, 73, 70, 70]
def webp : List UInt8 := [87, 69, 66, 80]
def scan (b : List Int) : List Ch × Int :=
  if b.length < 12 then ([], 2) else
  if ¬ (strOfNums (b.take 4)).toList = riff ∨ ¬ (strOfNums ((b.take 12).drop 8)).toList = webp ∨ num ((b.drop 4).take 4) < 4 ∨ num ((b.drop 4).take 4) % 2 = 1 then ([], 3) else
  if (b.length : Int) - 8 < num ((b.drop 4).take 4) then ([], 2) else
  inner (num ((b.drop 4).take 4) - 4).toNat ((b.take (8 + num ((b.drop 4).take 4)).toNat).drop 12) []
section
variable {b : List Int}
theorem scan_short (h : b.length < 12) : scan b = ([], 2) := by unfold scan; rw [if_pos h]
theorem scan_form (h : ¬ b.length < 12) (h2 : ¬ (strOfNums (b.take 4)).toList = riff ∨ ¬ (strOfNums ((b.take 12).drop 8)).toList = webp ∨ num ((b.drop 4).take 4) < 4 ∨ num ((b.drop 4).take 4) % 2 = 1) : scan b = ([], 3) := by unfold scan; rw [if_neg h, if_pos h2]
theorem scan_out (h : ¬ b.length < 12) (h2 : ¬ (¬ (strOfNums (b.take 4)).toList = riff ∨ ¬ (strOfNums ((b.take 12).drop 8)).toList = webp ∨ num ((b.drop 4).take 4) < 4 ∨ num ((b.drop 4).take 4) % 2 = 1)) (h3 : (b.length : Int) - 8 < num ((b.drop 4).take 4)) : scan b = ([], 2) := by
  unfold scan; rw [if_neg h, if_neg h2, if_pos h3]
theorem scan_good (h : ¬ b.length < 12) (h2 : ¬ (¬ (strOfNums (b.take 4)).toList = riff ∨ ¬ (strOfNums ((b.take 12).drop 8)).toList = webp ∨ num ((b.drop 4).take 4) < 4 ∨ num ((b.drop 4).take 4) % 2 = 1)) (h3 : ¬ (b.length : Int) - 8 < num ((b.drop 4).take 4)) :
    scan b = inner (num ((b.drop 4).take 4) - 4).toNat ((b.take (8 + num ((b.drop 4).take 4)).toNat).drop 12) [] := by
  unfold scan; rw [if_neg h, if_neg h2, if_neg h3]
end
theorem scan_tail {k : Nat → Option (List Ch × Int)} {b : List Int} (h : Ev k (inner ((b.take (8 + num ((b.drop 4).take 4)).toNat).drop 12).length ((b.take (8 + num ((b.drop 4).take 4)).toNat).drop 12) [])) (_hb : Bytes b) (h1 : ¬ b.length < 12) (h3 : ¬ (b.length : Int) - 8 < num ((b.drop 4).take 4)) (h4 : 4 ≤ num ((b.drop 4).take 4)) :
    Ev k (inner (num ((b.drop 4).take 4) - 4).toNat ((b.take (8 + num ((b.drop 4).take 4)).toNat).drop 12) []) := by
  have e : ((b.take (8 + num ((b.drop 4).take 4)).toNat).drop 12).length = (num ((b.drop 4).take 4) - 4).toNat := by simp only [List.length_drop, List.length_take]; omega
  rw [e] at h
  exact h
theorem chunk_Scan_ev {b : List Int} (hb : Bytes b) (hl : b.length ≤ 1000000000) : Ev (fun k => chunk_Scan.f k b) (scan b) := by
  unfold chunk_Scan.f
  have hn := num4 hb
  by_cases c1 : b.length < 12
  · rw [scan_short c1]
    exact Ev.ite_pos (by omega) (Ev.now _)
  refine Ev.ite_neg (by omega) ?_
  refine Ev.bind (le_Get_ev hb (by omega) 4 4 (by omega)) ?_
  rw [get4 (by omega)]
  have bad : Ev (fun k => chunk_Scan.j0 k b (num ((b.drop 4).take 4)) true) (([] : List Ch), (3 : Int)) := by
    refine Ev.succ ?_
    simp only [chunk_Scan.j0, if_true]
    exact Ev.now _
  refine Ev.ite_pos (by omega) ?_
  by_cases c2 : (strOfNums (b.take 4)).toList = riff
  case neg => rw [scan_form c1 (.inl c2)]; exact Ev.ite_neg c2 bad
  refine Ev.ite_pos c2 (Ev.ite_pos (by omega) (Ev.ite_pos (by omega) ?_))
  by_cases c3 : (strOfNums ((b.take 12).drop 8)).toList = webp
  case neg => rw [scan_form c1 (.inr (.inl c3))]; exact Ev.ite_neg c3 bad
  refine Ev.ite_pos c3 ?_
  by_cases c4 : num ((b.drop 4).take 4) < 4
  · rw [scan_form c1 (.inr (.inr (.inl c4)))]; exact Ev.ite_pos c4 bad
  refine Ev.ite_neg c4 ?_
  rw [Int.tmod_eq_emod_of_nonneg hn.1]
  by_cases c5 : num ((b.drop 4).take 4) % 2 = 1
  · rw [scan_form c1 (.inr (.inr (.inr c5))), c5]; exact bad
  rw [show (num ((b.drop 4).take 4) % 2 == 1) = false by simpa using c5]
  have hng : ¬ (¬ (strOfNums (b.take 4)).toList = riff ∨ ¬ (strOfNums ((b.take 12).drop 8)).toList = webp ∨ num ((b.drop 4).take 4) < 4 ∨ num ((b.drop 4).take 4) % 2 = 1) := by
    rintro (h | h | h | h)
    · exact h c2
    · exact h c3
    · exact c4 h
    · exact c5 h
  refine Ev.succ ?_
  simp only [chunk_Scan.j0]
  refine Ev.ite_neg (by simp) ?_
  rw [w64 (n := (b.length : Int) - 8) (by omega) (by omega), wu64 (n := (b.length : Int) - 8) (by omega) (by omega), w64 (n := num ((b.drop 4).take 4)) (by omega) (by omega), w64 (n := 8 + num ((b.drop 4).take 4)) (by omega) (by omega)]
  by_cases c6 : (b.length : Int) - 8 < num ((b.drop 4).take 4)
  · rw [scan_out c1 hng c6]
    exact Ev.ite_pos (by omega) (Ev.now _)
  rw [scan_good c1 hng c6]
  refine Ev.ite_neg (by omega) (Ev.ite_pos (by omega) (Ev.ite_pos (by omega) ?_))
  refine Ev.bind (scan_tail (chunk_Inner_ev ((hb.take _).drop _) (by simp only [List.length_drop, List.length_take]; omega)) hb c1 c6 (by omega)) (Ev.now _)
theorem rdT_at {l : List Ch} {i : Nat} (h : i < l.length) : rd_T42 l (i : Int) = l[i] := by
  unfold rd_T42
  rw [show ((i : Int)).toNat = i by omega, List.getD_eq_getElem?_getD, List.getElem?_eq_getElem h]
  rfl
theorem inner_len (d : Nat) : ∀ (b : List Int) (acc : List Ch) (B : Nat), Bytes b → b.length ≤ B → (∀ x ∈ acc, x.f1.length ≤ B) → (inner d b acc).1.length ≤ d + acc.length ∧ ∀ x ∈ (inner d b acc).1, x.f1.length ≤ B := by
  induction d with
  | zero => intro b acc B _ _ ha; exact ⟨by simp [inner], ha⟩
  | succ d ih =>
    intro b acc B hb hB ha
    rw [inner]
    by_cases c : b.length = 0
    · rw [if_pos c]; exact ⟨by simp only; omega, ha⟩
    rw [if_neg c]
    by_cases c2 : (one b).2.2.2 = 0
    · rw [if_pos c2]
      have hn := one_num hb c2
      have := ih (b.drop (one b).2.2.1.toNat) (acc ++ [⟨(one b).1, (one b).2.1⟩]) B (hb.drop _) (by simp only [List.length_drop]; omega) (by
        intro x hx
        rcases List.mem_append.1 hx with h | h
        · exact ha x h
        · rw [List.mem_singleton.1 h]; simp only; omega)
      refine ⟨?_, this.2⟩
      have h2 := this.1
      simp only [List.length_append, List.length_singleton] at h2
      omega
    · rw [if_neg c2]
      exact ⟨by simp, fun x hx => by simp at hx⟩
theorem scan_len {b : List Int} (hb : Bytes b) : (scan b).1.length ≤ b.length ∧ ∀ x ∈ (scan b).1, x.f1.length ≤ b.length := by
  unfold scan
  repeat' split
  all_goals first | exact ⟨by simp, fun x hx => by simp at hx⟩ | skip
  have h1 := num4 hb
  have := inner_len (num ((b.drop 4).take 4) - 4).toNat ((b.take (8 + num ((b.drop 4).take 4)).toNat).drop 12) [] b.length ((hb.take _).drop _) (by simp only [List.length_drop, List.length_take]; omega) (fun x hx => by simp at hx)
  refine ⟨?_, this.2⟩
  have h2 := this.1
  simp only [List.length_nil] at h2
  omega
def weight : List Ch → Nat
  | [] => 0
  | x :: r => x.f0.size + x.f1.length + weight r
theorem weight_append (a b : List Ch) : weight (a ++ b) = weight a + weight b := by
  induction a with
  | nil => simp [weight]
  | cons x r ih => simp only [List.cons_append, weight, ih]; omega
theorem weight_mem {l : List Ch} {x : Ch} (h : x ∈ l) : x.f0.size + x.f1.length ≤ weight l := by
  induction l with
  | nil => simp at h
  | cons y r ih =>
    rcases List.mem_cons.1 h with rfl | h
    · simp only [weight]; omega
    · have := ih h; simp only [weight]; omega
def pad (d : List Int) : List Int := if d.length % 2 = 1 then [0] else []
def layOne (x : Ch) : List Int := bytesOf x.f0 ++ bytes 4 x.f1.length ++ x.f1 ++ pad x.f1
def lay : List Ch → List Int
  | [] => []
  | x :: r => layOne x ++ lay r
theorem pad_len (d : List Int) : (pad d).length = d.length % 2 := by unfold pad; split <;> simp <;> omega
theorem layOne_len (x : Ch) : (layOne x).length = x.f0.size + 4 + x.f1.length + x.f1.length % 2 := by
  simp only [layOne, List.length_append, bytesOf_length, bytes_len, pad_len]
theorem lay_len (l : List Ch) : (lay l).length ≤ weight l + 5 * l.length := by
  induction l with
  | nil => simp [lay]
  | cons x r ih => simp only [lay, List.length_append, layOne_len, weight, List.length_cons]; omega
def ok (l : List Ch) : Prop := ∀ x ∈ l, okName x.f0 = true
theorem lay_even {l : List Ch} (h : ok l) : (lay l).length % 2 = 0 := by
  induction l with
  | nil => simp [lay]
  | cons x r ih =>
    have h1 := h x (by simp)
    have h2 := ih (fun y hy => h y (by simp [hy]))
    have h3 : x.f0.size = 4 := by
      have := (of_decide_eq_true h1).1
      rw [bytesOf_length] at this
      exact this
    simp only [lay, List.length_append, layOne_len]
    omega
theorem bytesOf_bytes (s : ByteArray) : Bytes (bytesOf s) := by
  intro x hx
  obtain ⟨b, _, rfl⟩ := List.mem_map.1 hx
  have := b.toNat_lt
  omega
theorem Bytes.app {a b : List Int} (ha : Bytes a) (hb : Bytes b) : Bytes (a ++ b) := fun x hx => (List.mem_append.1 hx).elim (ha x) (hb x)
theorem pad_bytes (d : List Int) : Bytes (pad d) := by
  unfold pad
  split
  · intro x hx; rw [List.mem_singleton.1 hx]; omega
  · intro x hx; simp at hx
theorem layOne_bytes {x : Ch} (h : Bytes x.f1) : Bytes (layOne x) := (((bytesOf_bytes _).app (bytes_bytes 4 _)).app h).app (pad_bytes _)
theorem lay_bytes {l : List Ch} (h : ∀ x ∈ l, Bytes x.f1) : Bytes (lay l) := by
  induction l with
  | nil => intro x hx; simp [lay] at hx
  | cons x r ih => exact (layOne_bytes (h x (by simp))).app (ih (fun y hy => h y (by simp [hy])))
theorem put4 {n : Nat} (h : n < 4294967296) : put (n : Int) 4 = (bytes 4 n, true) := by
  refine put_good ⟨by omega, by omega, ?_⟩
  rw [show (256 : Int) ^ (4 : Int).toNat = 4294967296 by decide]
  omega
theorem Num4_ev {n : Nat} (h : n < 4294967296) : Ev (fun k => marquetryref24_Num.f k (n : Int) 4) (bytes 4 n) := by
  unfold marquetryref24_Num.f
  refine Ev.bind (ref_Put_ev n 4 (by omega) (by omega)) ?_
  rw [put4 h]
  exact Ev.now _
theorem ref_Lay_loop (l : List Ch) (hs : l.length + weight l < 10000000) (d : Nat) : ∀ (i : Nat) (acc : List Int), i + d = l.length → acc.length + (lay (l.drop i)).length ≤ 90000000 → Ev (fun k => marquetryref24_Lay.l0 k l acc i) (acc ++ lay (l.drop i)) := by
  induction d with
  | zero =>
    intro i acc hd ha
    refine Ev.succ ?_
    simp only [marquetryref24_Lay.l0]
    refine Ev.ite_neg (by omega) (Ev.fin ?_)
    rw [List.drop_eq_nil_of_le (by omega)]
    simp [lay]
  | succ d ih =>
    intro i acc hd ha
    refine Ev.succ ?_
    simp only [marquetryref24_Lay.l0]
    rw [rdT_at (by omega)]
    have hi : i < l.length := by omega
    have hdrop : l.drop i = l[i] :: l.drop (i + 1) := List.drop_eq_getElem_cons hi
    have hw := weight_mem (List.getElem_mem hi)
    rw [hdrop] at ha ⊢
    generalize l[i] = x at *
    simp only [lay, List.length_append, layOne_len] at ha
    refine Ev.ite_pos (by omega) (Ev.ite_pos (by omega) (Ev.ite_pos (by omega) ?_))
    refine Ev.bindo rfl ?_
    rw [wu64 (by omega) (by omega)]
    refine Ev.bind (Num4_ev (by omega)) ?_
    have hl4 := bytes_len 4 (x.f1.length : Int)
    refine Ev.ite_pos (by simp only [List.length_append, bytesOf_length, hl4]; omega) (Ev.bindo rfl ?_)
    refine Ev.ite_pos (by simp only [List.length_append, bytesOf_length, hl4]; omega) (Ev.bindo rfl ?_)
    rw [w64 (by omega) (by omega)]
    by_cases c : x.f1.length % 2 = 1
    · refine Ev.ite_pos (by omega) (Ev.ite_pos (by simp only [List.length_append, bytesOf_length, hl4]; omega) ?_)
      have := ih (i + 1) (acc ++ bytesOf x.f0 ++ bytes 4 x.f1.length ++ x.f1 ++ [0]) (by omega) (by simp only [List.length_append, bytesOf_length, hl4, List.length_singleton]; omega)
      have e : acc ++ lay (x :: l.drop (i + 1)) = acc ++ bytesOf x.f0 ++ bytes 4 x.f1.length ++ x.f1 ++ [0] ++ lay (l.drop (i + 1)) := by
        simp only [lay, layOne, pad, if_pos c, List.append_assoc]
      rw [e]
      exact this
    · refine Ev.ite_neg (by omega) ?_
      have := ih (i + 1) (acc ++ bytesOf x.f0 ++ bytes 4 x.f1.length ++ x.f1) (by omega) (by simp only [List.length_append, bytesOf_length, hl4]; omega)
      have e : acc ++ lay (x :: l.drop (i + 1)) = acc ++ bytesOf x.f0 ++ bytes 4 x.f1.length ++ x.f1 ++ lay (l.drop (i + 1)) := by
        simp only [lay, layOne, pad, if_neg c, List.append_assoc, List.append_nil]
      rw [e]
      exact this
theorem ref_Lay_ev {l : List Ch} (hs : l.length + weight l < 10000000) : Ev (fun k => marquetryref24_Lay.f k l) (lay l) := by
  unfold marquetryref24_Lay.f
  have := ref_Lay_loop l hs l.length 0 [] (by omega) (by have := lay_len l; simp only [List.length_nil, List.drop_zero]; omega)
  simpa using this
theorem chunk_Lay_loop1 (l : List Ch) (hs : l.length + weight l < 10000000) (d : Nat) : ∀ (i : Nat) (acc : List Int), i + d = l.length → acc.length + (lay (l.drop i)).length ≤ 90000000 → Ev (fun k => chunk_Lay.l1 k acc l l.length i) (acc ++ lay (l.drop i), 0) := by
  induction d with
  | zero =>
    intro i acc hd ha
    refine Ev.succ ?_
    simp only [chunk_Lay.l1]
    refine Ev.ite_neg (by omega) (Ev.fin ?_)
    rw [List.drop_eq_nil_of_le (by omega)]
    simp [lay]
  | succ d ih =>
    intro i acc hd ha
    refine Ev.succ ?_
    simp only [chunk_Lay.l1]
    rw [rdT_at (by omega)]
    have hi : i < l.length := by omega
    have hdrop : l.drop i = l[i] :: l.drop (i + 1) := List.drop_eq_getElem_cons hi
    have hw := weight_mem (List.getElem_mem hi)
    rw [hdrop] at ha ⊢
    generalize l[i] = x at *
    simp only [lay, List.length_append, layOne_len] at ha
    refine Ev.ite_pos (by omega) (Ev.ite_pos (by omega) (Ev.ite_pos (by omega) ?_))
    rw [wu64 (by omega) (by omega)]
    refine Ev.bind (le_Put_ev x.f1.length 4 (by omega) (by omega)) ?_
    rw [put4 (by omega)]
    have hl4 := bytes_len 4 (x.f1.length : Int)
    refine Ev.ite_pos (by omega) (Ev.bindo rfl ?_)
    refine Ev.ite_pos (by simp only [List.length_append, bytesOf_length, hl4]; omega) (Ev.bindo rfl ?_)
    refine Ev.ite_pos (by simp only [List.length_append, bytesOf_length, hl4]; omega) (Ev.bindo rfl ?_)
    rw [w64 (by omega) (by omega)]
    by_cases c : x.f1.length % 2 = 1
    · refine Ev.ite_pos (by omega) (Ev.ite_pos (by simp only [List.length_append, bytesOf_length, hl4]; omega) ?_)
      have := ih (i + 1) (acc ++ bytesOf x.f0 ++ bytes 4 x.f1.length ++ x.f1 ++ [0]) (by omega) (by simp only [List.length_append, bytesOf_length, hl4, List.length_singleton]; omega)
      have e : acc ++ lay (x :: l.drop (i + 1)) = acc ++ bytesOf x.f0 ++ bytes 4 x.f1.length ++ x.f1 ++ [0] ++ lay (l.drop (i + 1)) := by
        simp only [lay, layOne, pad, if_pos c, List.append_assoc]
      rw [e]
      exact this
    · refine Ev.ite_neg (by omega) ?_
      have := ih (i + 1) (acc ++ bytesOf x.f0 ++ bytes 4 x.f1.length ++ x.f1) (by omega) (by simp only [List.length_append, bytesOf_length, hl4]; omega)
      have e : acc ++ lay (x :: l.drop (i + 1)) = acc ++ bytesOf x.f0 ++ bytes 4 x.f1.length ++ x.f1 ++ lay (l.drop (i + 1)) := by
        simp only [lay, layOne, pad, if_neg c, List.append_assoc, List.append_nil]
      rw [e]
      exact this
instance (l : List Ch) : Decidable (ok l) := by unfold ok; infer_instance
def laid (l : List Ch) : List Int × Int := if ok l then (lay l, 0) else ([], 7)
theorem chunk_Lay_loop0 (l : List Ch) (hs : l.length + weight l < 10000000) (d : Nat) : ∀ (i : Nat) (n : Int), i + d = l.length → 0 ≤ n → n ≤ weight (l.take i) → (∀ x ∈ l.take i, okName x.f0 = true) → Ev (fun k => chunk_Lay.l0 k l n l l.length i) (laid l) := by
  induction d with
  | zero =>
    intro i n hd h0 hn hok
    refine Ev.succ ?_
    simp only [chunk_Lay.l0]
    refine Ev.ite_neg (by omega) ?_
    rw [List.take_of_length_le (by omega)] at hok
    have := chunk_Lay_loop1 l hs l.length 0 [] (by omega) (by have := lay_len l; simp only [List.length_nil, List.drop_zero]; omega)
    unfold laid
    rw [if_pos (show ok l from hok)]
    simpa using this
  | succ d ih =>
    intro i n hd h0 hn hok
    refine Ev.succ ?_
    simp only [chunk_Lay.l0]
    have hi : i < l.length := by omega
    rw [rdT_at hi]
    have hw := weight_mem (List.getElem_mem hi)
    have e : l.take (i + 1) = l.take i ++ [l[i]] := List.take_succ_eq_append_getElem hi
    have ew : weight (l.take (i + 1)) = weight (l.take i) + (l[i].f0.size + l[i].f1.length) := by rw [e, weight_append]; simp [weight]
    have ew2 : weight l = weight (l.take (i + 1)) + weight (l.drop (i + 1)) := by rw [← weight_append, List.take_append_drop]
    refine Ev.ite_pos (by omega) (Ev.ite_pos (by omega) (Ev.ite_pos (by omega) ?_))
    refine Ev.bindo (chunk_Name_eq _) ?_
    by_cases c : okName l[i].f0 = true
    · refine Ev.ite_pos c ?_
      rw [w64 (n := n + (l[i].f1.length : Int)) (by omega) (by omega), w64 (by omega) (by omega)]
      refine Ev.ite_neg (by omega) ?_
      refine ih (i + 1) _ (by omega) (by omega) (by omega) ?_
      rw [e]
      intro x hx
      rcases List.mem_append.1 hx with h | h
      · exact hok x h
      · rw [List.mem_singleton.1 h]; exact c
    · refine Ev.ite_neg c (Ev.fin ?_)
      unfold laid
      rw [if_neg (fun h => c (h _ (List.getElem_mem hi)))]
theorem chunk_Lay_ev {l : List Ch} (hs : l.length + weight l < 10000000) : Ev (fun k => chunk_Lay.f k l) (laid l) := by
  unfold chunk_Lay.f
  exact chunk_Lay_loop0 l hs l.length 0 0 (by omega) (by omega) (by simp [weight]) (fun x hx => by simp at hx)
def file (l : List Ch) : List Int := [82, 73, 70, 70] ++ bytes 4 ((lay l).length + 4) ++ [87, 69, 66, 80] ++ lay l
theorem webpB : bytesOf ⟨#[87, 69, 66, 80]⟩ = [87, 69, 66, 80] := rfl
theorem chunk_Print_ev {l : List Ch} (hs : l.length + weight l < 9000000) : Ev (fun k => chunk_Print.f k l) (if ok l then (file l, 0) else ([], 7)) := by
  unfold chunk_Print.f
  have hll := lay_len l
  refine Ev.bind (chunk_Lay_ev (by omega)) ?_
  unfold laid
  by_cases c : ok l
  · rw [if_pos c, if_pos c]
    simp only [if_true]
    rw [w64 (n := 4 + ((lay l).length : Int)) (by omega) (by omega), wu64 (n := 4 + ((lay l).length : Int)) (by omega) (by omega)]
    refine Ev.bind (le_Put_ev _ 4 (by omega) (by omega)) ?_
    rw [show (4 : Int) + ((lay l).length : Int) = (((lay l).length + 4 : Nat) : Int) by omega, put4 (by omega)]
    have hl4 := bytes_len 4 (((lay l).length + 4 : Nat) : Int)
    refine Ev.ite_pos (by simp only [hl4]; omega) (Ev.ite_pos (by simp only [hl4]; omega) (Ev.fin ?_))
    rw [webpB]
    rfl
  · rw [if_neg c, if_neg c]
    exact Ev.ite_neg (by decide) (Ev.now _)
theorem File_ev {l : List Ch} (hs : l.length + weight l < 9000000) : Ev (fun k => marquetryref24_File.f k l) (file l) := by
  unfold marquetryref24_File.f
  have hll := lay_len l
  refine Ev.bind (ref_Lay_ev (by omega)) ?_
  rw [w64 (by omega) (by omega), wu64 (by omega) (by omega)]
  have e : ((lay l).length : Int) + 4 = (((lay l).length + 4 : Nat) : Int) := by omega
  rw [e]
  refine Ev.bind (Num4_ev (by omega)) ?_
  have hl4 := bytes_len 4 (((lay l).length + 4 : Nat) : Int)
  refine Ev.ite_pos (by omega) (Ev.ite_pos (by omega) (Ev.fin ?_))
  rw [webpB]
  rfl
theorem strOf_bytesOf (s : ByteArray) : strOfNums (bytesOf s) = s := by
  cases s with
  | mk d =>
    simp only [strOfNums, bytesOf, List.map_map]
    congr 1
    have : ((fun n : Int => UInt8.ofNat n.toNat) ∘ fun b : UInt8 => (b.toNat : Int)) = id := by
      funext b
      simp
    rw [this]
    simp
theorem riffS : (strOfNums [82, 73, 70, 70]).toList = riff := by kernel_rfl
theorem webpS : (strOfNums [87, 69, 66, 80]).toList = webp := by kernel_rfl
theorem take_left {a b : List Int} {n : Nat} (h : a.length = n) : (a ++ b).take n = a := List.take_left' h
theorem drop_left {a b : List Int} {n : Nat} (h : a.length = n) : (a ++ b).drop n = b := List.drop_left' h
theorem one_lay {x : Ch} (rest : List Int) (h : okName x.f0 = true) (_hb : Bytes x.f1) (hl : x.f1.length < 4294967296) : one (layOne x ++ rest) = (x.f0, x.f1, ((layOne x).length : Int), 0) := by
  obtain ⟨hn, _⟩ := of_decide_eq_true h
  have hln := layOne_len x
  have hs : x.f0.size = 4 := by rw [← bytesOf_length]; exact hn
  have hl4 := bytes_len 4 (x.f1.length : Int)
  have e : layOne x ++ rest = bytesOf x.f0 ++ (bytes 4 x.f1.length ++ (x.f1 ++ (pad x.f1 ++ rest))) := by simp only [layOne, List.append_assoc]
  have hp := pad_len x.f1
  have t1 : (layOne x ++ rest).take 4 = bytesOf x.f0 := by rw [e, take_left hn]
  have t2 : ((layOne x ++ rest).drop 4).take 4 = bytes 4 x.f1.length := by rw [e, drop_left hn, take_left hl4]
  have t3 : (layOne x ++ rest).drop 8 = x.f1 ++ (pad x.f1 ++ rest) := by rw [e, show (8 : Nat) = 4 + 4 by rfl, ← List.drop_drop, drop_left hn, drop_left hl4]
  have t4 : num (((layOne x ++ rest).drop 4).take 4) = x.f1.length := by
    rw [t2]
    exact num_bytes 4 _ (by omega) (by rw [show (256 : Int) ^ 4 = 4294967296 by decide]; omega)
  have t5 : ((layOne x ++ rest).take (8 + ((x.f1.length : Int)).toNat)).drop 8 = x.f1 := by
    rw [show ((x.f1.length : Int)).toNat = x.f1.length by omega, mid_eq, t3, take_left rfl]
  have t6 : ¬ okName (strOfNums ((layOne x ++ rest).take 4)) = false := by rw [t1, strOf_bytesOf]; simp [h]
  have hlen : (layOne x ++ rest).length = 8 + x.f1.length + x.f1.length % 2 + rest.length := by rw [List.length_append, hln]; omega
  have t7 : ¬ ((layOne x ++ rest).length < 8 ∨ ((layOne x ++ rest).length : Int) - 8 < num (((layOne x ++ rest).drop 4).take 4)) := by rw [t4]; omega
  by_cases c : x.f1.length % 2 = 1
  · have t8 : rd (layOne x ++ rest) (8 + (x.f1.length : Int)) = 0 := by
      have := rd_drop (layOne x ++ rest) 8 (x.f1.length : Int) (by omega)
      rw [show ((8 : Nat) : Int) = 8 by rfl] at this
      rw [← this, t3, rd_nat (by simp only [List.length_append, hp]; omega)]
      rw [List.getElem_append_right (by omega)]
      simp only [pad, if_pos c, Nat.sub_self]
      rfl
    rw [one_odd t6 t7 (by rw [t4]; omega) (by rw [t4]; omega) (by rw [t4]; exact t8), t4, t5, t1, strOf_bytesOf]
    congr 3
    omega
  · rw [one_even t6 t7 (by rw [t4]; omega), t4, t5, t1, strOf_bytesOf]
    congr 3
    omega
theorem inner_lay (l : List Ch) : ∀ (d : Nat) (acc : List Ch), ok l → (∀ x ∈ l, Bytes x.f1 ∧ x.f1.length < 4294967296) → (lay l).length ≤ d → inner d (lay l) acc = (acc ++ l, 0) := by
  induction l with
  | nil =>
    intro d acc _ _ _
    cases d with
    | zero => simp [inner]
    | succ d => rw [inner, if_pos (by simp [lay])]; simp
  | cons x r ih =>
    intro d acc hok hb hd
    have h1 := one_lay (lay r) (hok x (by simp)) (hb x (by simp)).1 (hb x (by simp)).2
    have hln := layOne_len x
    simp only [lay, List.length_append] at hd
    obtain ⟨d, rfl⟩ : ∃ m, d = m + 1 := ⟨d - 1, by omega⟩
    rw [lay, inner, if_neg (by simp only [List.length_append]; omega), h1]
    simp only [if_true]
    rw [show (((layOne x).length : Int)).toNat = (layOne x).length by omega, drop_left rfl, ih d _ (fun y hy => hok y (by simp [hy])) (fun y hy => hb y (by simp [hy])) (by omega), List.append_assoc]
    rfl
theorem file_len (l : List Ch) : (file l).length = (lay l).length + 12 := by
  simp only [file, List.length_append, bytes_len, List.length_cons, List.length_nil]
  omega
theorem file_parts (l : List Ch) (hl : (lay l).length < 4000000000) (rest : List Int) (m : Nat) (hm : 12 ≤ m) :
    ((file l ++ rest).take m).take 4 = [82, 73, 70, 70] ∧ num ((((file l ++ rest).take m).drop 4).take 4) = (lay l).length + 4 ∧ (((file l ++ rest).take m).take 12).drop 8 = [87, 69, 66, 80] := by
  have hl4 := bytes_len 4 (((lay l).length + 4 : Nat) : Int)
  have e : file l ++ rest = [82, 73, 70, 70] ++ (bytes 4 ((lay l).length + 4 : Nat) ++ ([87, 69, 66, 80] ++ (lay l ++ rest))) := by simp only [file, List.append_assoc]; rfl
  have t1 : (file l ++ rest).take 4 = [82, 73, 70, 70] := by rw [e]; rfl
  have t2 : ((file l ++ rest).drop 4).take 4 = bytes 4 ((lay l).length + 4 : Nat) := by rw [e, drop_left (a := [82, 73, 70, 70]) (n := 4) rfl, take_left hl4]
  have t3 : ((file l ++ rest).drop 8).take 4 = [87, 69, 66, 80] := by rw [e, show (8 : Nat) = 4 + 4 by rfl, ← List.drop_drop, drop_left (a := [82, 73, 70, 70]) (n := 4) rfl, drop_left hl4]; rfl
  refine ⟨?_, ?_, ?_⟩
  · rw [List.take_take, Nat.min_eq_left (by omega), t1]
  · rw [List.drop_take, List.take_take, Nat.min_eq_left (by omega), t2, num_bytes 4 _ (by omega) (by rw [show (256 : Int) ^ 4 = 4294967296 by decide]; omega)]
    omega
  · rw [List.take_take, Nat.min_eq_left (by omega), show (12 : Nat) = 8 + 4 by rfl, mid_eq, t3]
theorem scan_file {l : List Ch} (hok : ok l) (hb : ∀ x ∈ l, Bytes x.f1 ∧ x.f1.length < 4294967296) (hl : (lay l).length < 4000000000) (rest : List Int) : scan (file l ++ rest) = (l, 0) := by
  obtain ⟨p1, p2, p3⟩ := file_parts l hl rest (file l ++ rest).length (by rw [List.length_append, file_len]; omega)
  rw [List.take_length] at p1 p2 p3
  have hlen : (file l ++ rest).length = (lay l).length + 12 + rest.length := by rw [List.length_append, file_len]
  have hev := lay_even hok
  rw [scan_good (by omega) (by
    rw [p1, p2, p3]
    rintro (h | h | h | h)
    · exact h riffS
    · exact h webpS
    · omega
    · omega) (by rw [p2]; omega), p2]
  have e : ((file l ++ rest).take (8 + ((lay l).length + 4 : Int)).toNat).drop 12 = lay l := by
    rw [show (8 + ((lay l).length + 4 : Int)).toNat = 12 + (lay l).length by omega, mid_eq]
    have : (file l ++ rest).drop 12 = lay l ++ rest := by
      have e : file l ++ rest = ([82, 73, 70, 70] ++ bytes 4 ((lay l).length + 4) ++ [87, 69, 66, 80]) ++ (lay l ++ rest) := by simp only [file, List.append_assoc]
      rw [e, drop_left (by simp only [List.length_append, bytes_len, List.length_cons, List.length_nil])]
    rw [this, take_left rfl]
  rw [e, inner_lay l _ [] hok hb (by omega)]
  rfl
end Go.Proofs.Ythkocpcjcpohcaa.Pure
end
