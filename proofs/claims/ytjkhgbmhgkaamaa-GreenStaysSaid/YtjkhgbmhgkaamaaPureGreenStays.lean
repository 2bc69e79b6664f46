/- Alpha and green stay as they were. -/
import Derived.Test.YtjkhgbmhgkaamaaGreen
namespace Go.Proofs.Ytjkhgbmhgkaamaa.Pure
open Go Go.RowKit Go.Proofs.Ytjkhgbmhgkaamaa.P Go.Proofs.YtjkhgbmhgkaamaaW.PrintWords Go.Proofs.YtjkhgbmhgkaamaaW.PrintLast Go.Proofs.YtjkhgbmhgkaamaaW.PrintMore Go.Proofs.Ytjkhgbmhgkaamaa.U

theorem and_nat (p : Nat) (hp : p < 4294967296) (j : Nat) (hj : j ≤ 3) : p &&& (255 * 2 ^ (8 * j)) = p / 2 ^ (8 * j) % 256 * 2 ^ (8 * j) := by
  have hm : 255 * 2 ^ (8 * j) < 2 ^ 32 := by
    have : 2 ^ (8 * j) ≤ 2 ^ 24 := Nat.pow_le_pow_right (by decide) (by omega)
    omega
  have h := and_mask p hp j hj
  rw [(bits_nat .u32 32 (by decide) (fun n h0 h1 => by rw [IntKind.wrap_u32]; omega) p _ (by omega) hm).1] at h
  exact Int.ofNat.inj h
theorem xor_nat (a b : Nat) (ha : a < 4294967296) (hb : b < 4294967296) : Go.bits .xor .u32 (a : Int) (b : Int) = ((a ^^^ b : Nat) : Int) := by
  have ha' : a % 2 ^ IntKind.u32.bits = a := Nat.mod_eq_of_lt ha
  have hb' : b % 2 ^ IntKind.u32.bits = b := Nat.mod_eq_of_lt hb
  have lt : a ^^^ b < 2 ^ 32 := Nat.xor_lt_two_pow (by omega) (by omega)
  simp only [Go.bits, BitVec.ofInt_natCast, BitVec.toNat_xor, BitVec.toNat_ofNat, ha', hb']
  rw [IntKind.wrap_u32]; omega
theorem stays {x y : Int} (hx : U32 x) (hy : U32 y) (ha : pA x = pA y) (hg : pG x = pG y) : Go.bits .and .u32 (Go.bits .xor .u32 x y) 4278255360 = 0 := by
  obtain ⟨n, rfl⟩ := Int.eq_ofNat_of_zero_le hx.1
  obtain ⟨m, rfl⟩ := Int.eq_ofNat_of_zero_le hy.1
  have h1 := hx.2
  have h2 := hy.2
  have lt : n ^^^ m < 2 ^ 32 := Nat.xor_lt_two_pow (by omega) (by omega)
  rw [xor_nat n m (by omega) (by omega)]
  have := (bits_nat .u32 32 (by decide) (fun n h0 h1 => by rw [IntKind.wrap_u32]; omega) (n ^^^ m) 4278255360 lt (by decide)).1
  rw [show (4278255360 : Int) = ((4278255360 : Nat) : Int) by rfl, this]
  have e3n := and_nat n (by omega) 3 (by omega)
  have e3m := and_nat m (by omega) 3 (by omega)
  have e1n := and_nat n (by omega) 1 (by omega)
  have e1m := and_nat m (by omega) 1 (by omega)
  rw [Nat.and_xor_distrib_right, show (4278255360 : Nat) = (255 * 2 ^ (8 * 3)) ||| (255 * 2 ^ (8 * 1)) by decide, Nat.and_or_distrib_left, Nat.and_or_distrib_left, e3n, e3m, e1n, e1m]
  have q3 : n / 2 ^ (8 * 3) % 256 = m / 2 ^ (8 * 3) % 256 := by unfold pA at ha; simp; omega
  have q1 : n / 2 ^ (8 * 1) % 256 = m / 2 ^ (8 * 1) % 256 := by unfold pG at hg; simp; omega
  rw [q3, q1, Nat.xor_self]; rfl
theorem stays_gS {p : Int} (h : U32 p) : Go.bits .and .u32 (Go.bits .xor .u32 (gS p) p) 4278255360 = 0 := by
  have h0 := pA_bd h
  have h2 := pG_bd p
  refine stays (u32_gS p) h ?_ ?_ <;> unfold gS
  · rw [pA_join]; omega
  · rw [pG_join]; omega
theorem stays_gA {p : Int} (h : U32 p) : Go.bits .and .u32 (Go.bits .xor .u32 (gA p) p) 4278255360 = 0 := by
  have h0 := pA_bd h
  have h2 := pG_bd p
  refine stays (u32_gA p) h ?_ ?_ <;> unfold gA
  · rw [pA_join]; omega
  · rw [pG_join]; omega
theorem rd_map {f : Int → Int} {l : List Int} {i : Nat} (h : i < l.length) : rd (l.map f) (i : Int) = f (rd l (i : Int)) := by
  rw [rd_nat h, rd_nat (by rw [List.length_map]; exact h), List.getElem_map]
theorem stays_loop {l : List Int} (hl : U32s l) (hlen : l.length ≤ 268435456) (w h a b c d' : Int) (d : Nat) : ∀ i : Nat, i + d = l.length →
    Ev (fun k => marquetrylaw15_GreenStays.l0 k i w h l a b (l.map gS) c d' (l.map gA)) true := by
  induction d with
  | zero =>
    intro i hd
    refine Ev.succ ?_
    simp only [marquetrylaw15_GreenStays.l0]
    exact Ev.ite_neg (by omega) (Ev.bind answers_ev (Ev.now _))
  | succ d ih =>
    intro i hd
    refine Ev.succ ?_
    simp only [marquetrylaw15_GreenStays.l0]
    have hu := hl _ (rd_mem (l := l) (i := (i : Int)) (by omega) (by omega))
    simp only [rd_map (f := gS) (l := l) (i := i) (by omega), rd_map (f := gA) (l := l) (i := i) (by omega), stays_gS hu, stays_gA hu, List.length_map]
    refine Ev.ite_pos (by omega) (Ev.ite_pos (by omega) (Ev.ite_pos (by omega) (Ev.ite_pos trivial (Ev.ite_pos (by omega) (Ev.ite_pos trivial ?_)))))
    rw [w64 (by omega) (by omega)]
    exact ih (i + 1) (by omega)
theorem GreenStays : marquetrylaw15_GreenStays.Pure := by
  intro w h l _ _ hl1 _ hl0
  have hl := u32s_of hl0
  refine Ev.rounds (g := fun k => marquetrylaw15_GreenStays.f k w h l) ?_
  unfold marquetrylaw15_GreenStays.f
  have skip : ∀ x, x = true → Ev (fun k => marquetrylaw15_GreenStays.j0 k x w h l) true := by
    intro x hx
    refine Ev.succ ?_
    simp only [marquetrylaw15_GreenStays.j0]
    exact Ev.ite_pos hx (Ev.bind answers_ev (Ev.now _))
  by_cases c : (l.length : Int) > 2000
  · exact Ev.ite_pos c (skip _ rfl)
  refine Ev.ite_neg c ?_
  simp only [good_eq, Option.bind_some]
  by_cases hg : good w h l
  · refine Ev.succ ?_
    simp only [marquetrylaw15_GreenStays.j0]
    refine Ev.ite_neg (by simp [hg]) ?_
    refine Ev.bind (Forth_ev hl hg) (Ev.bind (Back_ev hl hg) ?_)
    refine Ev.ite_pos rfl (Ev.ite_pos rfl (Ev.ite_pos (by simp) ?_))
    refine Ev.succ ?_
    simp only [marquetrylaw15_GreenStays.j1]
    refine Ev.ite_neg (by simp) ?_
    exact stays_loop hl (by omega) w h w h w h l.length 0 (by omega)
  · exact skip _ (by simp [hg])
end Go.Proofs.Ytjkhgbmhgkaamaa.Pure
