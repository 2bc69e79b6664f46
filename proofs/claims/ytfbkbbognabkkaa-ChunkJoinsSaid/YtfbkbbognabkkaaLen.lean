/- How many bits a number has: what 'bits.Len64' comes to. -/
import Derived.Test.YtfbkbbognabkkaaPx
import Derived.Test.YtfbkbbognabkkaaU
namespace Go.Proofs.Ytfbkbbognabkkaa.Pure
open Go Go.RowKit Go.Proofs.Ytfbkbbognabkkaa.P Go.Proofs.YtfbkbbognabkkaaW.PrintWords Go.Proofs.YtfbkbbognabkkaaW.PrintLast Go.Proofs.YtfbkbbognabkkaaW.PrintMore Go.Proofs.Ytfbkbbognabkkaa.U

/-! ### Len64 -/
def IsLen (v r : Int) : Prop := 0 ≤ r ∧ r ≤ 64 ∧ ∀ m : Nat, r ≤ m ↔ v < 2 ^ m
set_option maxRecDepth 100000 in
def T8 : ByteArray := ⟨#[0, 1, 2, 2, 3, 3, 3, 3, 4, 4, 4, 4, 4, 4, 4, 4, 5, 5, 5, 5, 5, 5, 5, 5, 5, 5, 5, 5, 5, 5, 5, 5, 6, 6, 6, 6, 6, 6, 6, 6, 6, 6, 6, 6, 6, 6, 6, 6, 6, 6, 6, 6, 6, 6, 6, 6, 6, 6, 6, 6, 6, 6, 6, 6, 7, 7, 7, 7, 7, 7, 7, 7, 7, 7, 7, 7, 7, 7, 7, 7, 7, 7, 7, 7, 7, 7, 7, 7, 7, 7, 7, 7, 7, 7, 7, 7, 7, 7, 7, 7, 7, 7, 7, 7, 7, 7, 7, 7, 7, 7, 7, 7, 7, 7, 7, 7, 7, 7, 7, 7, 7, 7, 7, 7, 7, 7, 7, 7, 8, 8, 8, 8, 8, 8, 8, 8, 8, 8, 8, 8, 8, 8, 8, 8, 8, 8, 8, 8, 8, 8, 8, 8, 8, 8, 8, 8, 8, 8, 8, 8, 8, 8, 8, 8, 8, 8, 8, 8, 8, 8, 8, 8, 8, 8, 8, 8, 8, 8, 8, 8, 8, 8, 8, 8, 8, 8, 8, 8, 8, 8, 8, 8, 8, 8, 8, 8, 8, 8, 8, 8, 8, 8, 8, 8, 8, 8, 8, 8, 8, 8, 8, 8, 8, 8, 8, 8, 8, 8, 8, 8, 8, 8, 8, 8, 8, 8, 8, 8, 8, 8, 8, 8, 8, 8, 8, 8, 8, 8, 8, 8, 8, 8, 8, 8, 8, 8, 8, 8, 8, 8, 8, 8, 8, 8, 8, 8]⟩
set_option maxRecDepth 100000 in
theorem j0_eq (k : Nat) (x0 x2 : Int) : bits_Len64.j0 (k + 1) x0 x2 = if x0 ≥ 65536 then (if (x0 / 65536) ≥ 256 then (if 0 ≤ (((x0 / 65536) / 256) % 256) then (if (((x0 / 65536) / 256) % 256) < 256 then (some (wrap64 ((wrap64 ((wrap64 (x2 + 16)) + 8)) + (wrap64 (bt T8 (((x0 / 65536) / 256) % 256)))))) else (none)) else (none)) else (if 0 ≤ ((x0 / 65536) % 256) then (if ((x0 / 65536) % 256) < 256 then (some (wrap64 ((wrap64 (x2 + 16)) + (wrap64 (bt T8 ((x0 / 65536) % 256)))))) else (none)) else (none))) else (if x0 ≥ 256 then (if 0 ≤ ((x0 / 256) % 256) then (if ((x0 / 256) % 256) < 256 then (some (wrap64 ((wrap64 (x2 + 8)) + (wrap64 (bt T8 ((x0 / 256) % 256)))))) else (none)) else (none)) else (if 0 ≤ ((x0) % 256) then (if ((x0) % 256) < 256 then (some (wrap64 (x2 + (wrap64 (bt T8 ((x0) % 256)))))) else (none)) else (none))) := rfl
set_option maxRecDepth 100000 in
theorem len8 (i : Int) (h0 : 0 ≤ i) (h1 : i < 256) : 0 ≤ bt T8 i ∧ bt T8 i ≤ 8 ∧ i < 2 ^ (bt T8 i).toNat ∧ (bt T8 i = 0 ∧ i = 0 ∨ 1 ≤ bt T8 i ∧ 2 ^ ((bt T8 i).toNat - 1) ≤ i) := by
  have H : ∀ j : Fin 256, 0 ≤ bt T8 j.val ∧ bt T8 j.val ≤ 8 ∧ (j.val : Int) < 2 ^ (bt T8 j.val).toNat ∧ (bt T8 j.val = 0 ∧ (j.val : Int) = 0 ∨ 1 ≤ bt T8 j.val ∧ 2 ^ ((bt T8 j.val).toNat - 1) ≤ (j.val : Int)) := by decide +kernel
  have := H ⟨i.toNat, by omega⟩
  simpa [Int.toNat_of_nonneg h0] using this

/-- What a length of bits is, from its two ends. -/
theorem isLen_of {v r : Int} (h0 : 0 ≤ r) (h1 : r ≤ 64) (h2 : v < 2 ^ r.toNat) (h3 : r = 0 ∨ 2 ^ (r.toNat - 1) ≤ v) : IsLen v r := by
  refine ⟨h0, h1, fun m => ⟨fun h => Int.lt_of_lt_of_le h2 (pow_le (by omega)), fun h => ?_⟩⟩
  rcases h3 with rfl | h3
  · omega
  · apply Classical.byContradiction
    intro hn
    have := pow_le (a := m) (b := r.toNat - 1) (by omega)
    omega
/-- Higher by s bits. -/
theorem isLen_up {v q : Int} (s : Nat) (hq : q = v / 2 ^ s) (h1 : 1 ≤ q) {r : Int} (hr0 : 0 ≤ r) (hs : r + s ≤ 64) (h2 : q < 2 ^ r.toNat) (h3 : r = 0 ∨ 2 ^ (r.toNat - 1) ≤ q) : IsLen v (r + s) := by
  have hp := pow_pos s
  have e := Int.mul_ediv_add_emod v (2 ^ s)
  have m0 := Int.emod_nonneg v (b := 2 ^ s) (by omega)
  have m1 := Int.emod_lt_of_pos v hp
  rw [← hq] at e
  have hr1 : 1 ≤ r.toNat := by
    apply Classical.byContradiction
    intro hn
    have : r.toNat = 0 := by omega
    rw [this] at h2
    omega
  refine isLen_of (by omega) hs ?_ (.inr ?_)
  · rw [show (r + s).toNat = s + r.toNat by omega, pow_add]
    have : 2 ^ s * q ≤ 2 ^ s * (2 ^ r.toNat - 1) := Int.mul_le_mul_of_nonneg_left (by omega) (by omega)
    rw [Int.mul_sub] at this
    omega
  · rw [show (r + s).toNat - 1 = s + (r.toNat - 1) by omega, pow_add]
    have h3' : 2 ^ (r.toNat - 1) ≤ q := by rcases h3 with h | h <;> omega
    have : 2 ^ s * 2 ^ (r.toNat - 1) ≤ 2 ^ s * q := Int.mul_le_mul_of_nonneg_left h3' (by omega)
    omega
set_option maxRecDepth 100000 in
theorem len64_j (v x : Int) (s : Nat) (hs : s ≤ 32) (hx : x = v / 2 ^ s) (h1 : s = 0 ∨ 1 ≤ x) (hx1 : x < 4294967296) (h0 : 0 ≤ v) :
    ∃ r, IsLen v r ∧ Ev (fun k => bits_Len64.j0 k x s) r := by
  have hx0 : 0 ≤ x := by rw [hx]; exact Int.ediv_nonneg h0 (by have := pow_pos s; omega)
  have main : ∀ (t : Nat) (y : Int), t = 0 ∨ t = 8 ∨ t = 16 ∨ t = 24 → y = x / 2 ^ t → (t = 0 ∨ 1 ≤ y) → y < 256 → ∀ b, b = bt T8 y → IsLen v (b + t + s) := by
    intro t y ht hy hy1 hy2 b hb
    have hy0 : 0 ≤ y := by rw [hy]; exact Int.ediv_nonneg hx0 (by have := pow_pos t; omega)
    obtain ⟨b0, b8, b1, b2⟩ := len8 y hy0 hy2
    rw [← hb] at b0 b8 b1 b2
    have hyv : y = v / 2 ^ (s + t) := by
      rw [hy, hx, pow_add, Int.ediv_ediv_of_nonneg]
      have := pow_pos s; omega
    by_cases hz : 1 ≤ y
    · have := isLen_up (s + t) hyv hz b0 (by omega) b1 (by rcases b2 with b2 | b2; exact .inl b2.1; exact .inr b2.2)
      rw [show b + (t : Int) + s = b + ((s + t : Nat) : Int) by omega]
      exact this
    · obtain rfl : t = 0 := by omega
      have hx' : x = y := by rw [hy]; simp
      obtain rfl : s = 0 := by omega
      have hv : v = y := by rw [← hx', hx]; simp
      obtain rfl : b = 0 := by
        rcases b2 with b2 | b2
        · exact b2.1
        · have := pow_pos (b.toNat - 1); omega
      refine isLen_of (by omega) (by omega) ?_ (.inl (by omega))
      rw [hv]; simp; omega
  by_cases c1 : x ≥ 65536
  · by_cases c2 : x / 65536 ≥ 256
    · have y2 : x / 65536 / 256 % 256 = x / 65536 / 256 := by omega
      obtain ⟨b0, b8, -, -⟩ := len8 (x / 65536 / 256) (by omega) (by omega)
      refine ⟨_, main 24 (x / 65536 / 256) (by omega) (by rw [Int.ediv_ediv_of_nonneg (by omega)]; rfl) (by omega) (by omega) _ rfl, ?_⟩
      refine Ev.succ ?_
      simp only [j0_eq]
      refine Ev.ite_pos c1 (Ev.ite_pos c2 (Ev.ite_pos (by omega) (Ev.ite_pos (by omega) (Ev.fin ?_))))
      rw [y2, w64 (n := (s : Int) + 16) (by omega) (by omega), w64 (n := (s : Int) + 16 + 8) (by omega) (by omega), w64 (n := bt _ _) (by omega) (by omega), w64 (by omega) (by omega)]
      omega
    · have y2 : x / 65536 % 256 = x / 65536 := by omega
      obtain ⟨b0, b8, -, -⟩ := len8 (x / 65536) (by omega) (by omega)
      refine ⟨_, main 16 (x / 65536) (by omega) rfl (by omega) (by omega) _ rfl, ?_⟩
      refine Ev.succ ?_
      simp only [j0_eq]
      refine Ev.ite_pos c1 (Ev.ite_neg c2 (Ev.ite_pos (by omega) (Ev.ite_pos (by omega) (Ev.fin ?_))))
      rw [y2, w64 (n := (s : Int) + 16) (by omega) (by omega), w64 (n := bt _ _) (by omega) (by omega), w64 (by omega) (by omega)]
      omega
  · by_cases c2 : x ≥ 256
    · have y2 : x / 256 % 256 = x / 256 := by omega
      obtain ⟨b0, b8, -, -⟩ := len8 (x / 256) (by omega) (by omega)
      refine ⟨_, main 8 (x / 256) (by omega) rfl (by omega) (by omega) _ rfl, ?_⟩
      refine Ev.succ ?_
      simp only [j0_eq]
      refine Ev.ite_neg c1 (Ev.ite_pos c2 (Ev.ite_pos (by omega) (Ev.ite_pos (by omega) (Ev.fin ?_))))
      rw [y2, w64 (n := (s : Int) + 8) (by omega) (by omega), w64 (n := bt _ _) (by omega) (by omega), w64 (by omega) (by omega)]
      omega
    · have y2 : x % 256 = x := by omega
      obtain ⟨b0, b8, -, -⟩ := len8 x (by omega) (by omega)
      refine ⟨_, main 0 x (by omega) (by simp) (by omega) (by omega) _ rfl, ?_⟩
      refine Ev.succ ?_
      simp only [j0_eq]
      refine Ev.ite_neg c1 (Ev.ite_neg c2 (Ev.ite_pos (by omega) (Ev.ite_pos (by omega) (Ev.fin ?_))))
      rw [y2, w64 (n := bt _ _) (by omega) (by omega), w64 (by omega) (by omega)]
      omega
theorem len64_ev (v : Int) (h0 : 0 ≤ v) (h1 : v ≤ 18446744073709551615) : ∃ r, IsLen v r ∧ Ev (fun k => bits_Len64.f k v) r := by
  unfold bits_Len64.f
  by_cases c : v ≥ 4294967296
  · obtain ⟨r, hr, he⟩ := len64_j v (v / 4294967296) 32 (by omega) rfl (by omega) (by omega) h0
    exact ⟨r, hr, Ev.ite_pos c he⟩
  · obtain ⟨r, hr, he⟩ := len64_j v v 0 (by omega) (by simp) (by omega) (by omega) h0
    exact ⟨r, hr, Ev.ite_neg c he⟩

end Go.Proofs.Ytfbkbbognabkkaa.Pure
