/- A number's bits at once are those of its two parts. -/
import Derived.Test.YtbgjpncnhhlljaaBitoutLaw
namespace Go.Proofs.Ytbgjpncnhhlljaa.Pure
open Go Go.RowKit Go.Proofs.Ytbgjpncnhhlljaa.P Go.Proofs.YtbgjpncnhhlljaaW.PrintWords Go.Proofs.YtbgjpncnhhlljaaW.PrintLast Go.Proofs.YtbgjpncnhhlljaaW.PrintMore Go.Proofs.Ytbgjpncnhhlljaa.U
set_option linter.unusedVariables false
set_option linter.unusedSimpArgs false
theorem bit_mod (v : Int) (m k : Nat) (h : k < m) : v % 2 ^ m / 2 ^ k % 2 = v / 2 ^ k % 2 := by
  obtain ⟨d, rfl⟩ : ∃ d, m = k + 1 + d := ⟨m - k - 1, by omega⟩
  have hp := pow_pos k
  have e : (2 : Int) ^ (k + 1 + d) = 2 ^ k * (2 * 2 ^ d) := by
    rw [pow_add, pow_add, Int.mul_assoc]
    rfl
  have e2 := Int.mul_ediv_add_emod v (2 ^ (k + 1 + d))
  generalize hq : v / 2 ^ (k + 1 + d) = q at *
  generalize hr : v % 2 ^ (k + 1 + d) = r at *
  have e3 : v = r + 2 ^ k * (2 * (2 ^ d * q)) := by
    have : 2 ^ k * (2 * (2 ^ d * q)) = 2 ^ (k + 1 + d) * q := by rw [e]; simp only [Int.mul_assoc]
    omega
  have e4 : v / 2 ^ k = r / 2 ^ k + 2 * (2 ^ d * q) := by
    conv => lhs; rw [e3]
    exact Int.add_mul_ediv_left _ _ (by omega)
  rw [e4, Int.add_mul_emod_self_left]
theorem emod_parts (v : Int) (a b : Nat) : v % 2 ^ (a + b) = v / 2 ^ a % 2 ^ b * 2 ^ a + v % 2 ^ a := by
  have hp := pow_pos a
  have hq := pow_pos b
  rw [pow_add]
  generalize (2 : Int) ^ a = p at *
  generalize (2 : Int) ^ b = q at *
  have e1 := Int.mul_ediv_add_emod v p
  have e2 := Int.mul_ediv_add_emod (v / p) q
  have r0 := Int.emod_nonneg v (b := p) (by omega)
  have r1 := Int.emod_lt_of_pos v hp
  have s0 := Int.emod_nonneg (v / p) (b := q) (by omega)
  have s1 := Int.emod_lt_of_pos (v / p) hq
  generalize v % p = r at *
  generalize v / p % q = s at *
  generalize v / p / q = k at *
  have e3 : v = (s * p + r) + p * q * k := by
    have e4 : p * (v / p) = p * q * k + s * p := by
      conv => lhs; rw [← e2]
      rw [Int.mul_add, Int.mul_assoc, Int.mul_comm p s]
    omega
  have hsp : s * p ≤ (q - 1) * p := Int.mul_le_mul_of_nonneg_right (by omega) (by omega)
  have hs0 : 0 ≤ s * p := Int.mul_nonneg s0 (by omega)
  have hqp : (q - 1) * p = p * q - p := by rw [Int.sub_mul, Int.one_mul, Int.mul_comm]
  have e6 : (s * p + r) % (p * q) = s * p + r := Int.emod_eq_of_lt (by omega) (by omega)
  have e5 : v % (p * q) = ((s * p + r) + p * q * k) % (p * q) := congrArg (· % (p * q)) e3
  rw [e5, Int.add_mul_emod_self_left, e6]
theorem bitsV_parts (v : Int) (x y : Nat) : bitsV (v % 2 ^ (x + y)) (x + y) = bitsV (v % 2 ^ x) x ++ bitsV (v / 2 ^ x % 2 ^ y) y := by
  apply List.ext_getElem
  · simp [bitsV]
  · intro i h1 h2
    rw [bitsV_length] at h1
    rw [List.getElem_append]
    split
    · rename_i h
      rw [bitsV_length] at h
      simp only [bitsV, List.getElem_map, List.getElem_range]
      rw [bit_mod _ _ _ h1, bit_mod _ _ _ h]
    · rename_i h
      rw [bitsV_length] at h
      simp only [bitsV, List.getElem_map, List.getElem_range, List.length_map, List.length_range]
      have hp := pow_pos x
      rw [bit_mod _ _ _ h1, bit_mod _ _ _ (by omega), Int.ediv_ediv_of_nonneg (by omega), ← pow_add, show x + (i - x) = i by omega]
theorem or_u32 {x y : Int} {i : Nat} (hi : i ≤ 32) (hx0 : 0 ≤ x) (hx : x < 2 ^ i) (hy0 : 0 ≤ y) (hy : y % 2 ^ i = 0) (hy1 : y < 4294967296) : Go.bits .or .u32 y x = y + x := by
  have hw : ∀ n : Int, 0 ≤ n → n < 2 ^ 32 → IntKind.u32.wrap n = n := fun n h0 h1 => by simp [IntKind.wrap, IntKind.bits, IntKind.signed]; omega
  obtain ⟨a, rfl⟩ := Int.eq_ofNat_of_zero_le hx0
  obtain ⟨b, rfl⟩ := Int.eq_ofNat_of_zero_le hy0
  have ha' : (a : Int) < 2 ^ 32 := Int.lt_of_lt_of_le hx (pow_le hi)
  have ha : a < 2 ^ 32 := by exact_mod_cast ha'
  have hb : b < 2 ^ 32 := by omega
  rw [(bits_nat .u32 32 (by decide) hw b a hb ha).2]
  have hlt : a < 2 ^ i := by exact_mod_cast hx
  have hmod : b % 2 ^ i = 0 := by exact_mod_cast hy
  have hq : b = 2 ^ i * (b / 2 ^ i) := by have := Nat.div_add_mod b (2 ^ i); omega
  have : b ||| a = b + a := by
    rw [hq, ← Nat.two_pow_add_eq_or_of_lt hlt]
  rw [this, Int.natCast_add]
theorem and_u32 {x : Int} {i : Nat} (hi : i ≤ 32) (h0 : 0 ≤ x) (h1 : x ≤ 4294967295) : Go.bits .and .u32 x (2 ^ i - 1) = x % 2 ^ i :=
  bits_mask .u32 32 (by decide) (fun n h0 h1 => by simp [IntKind.wrap, IntKind.bits, IntKind.signed]; omega) i hi x h0 (by omega)
set_option maxHeartbeats 4000000 in
set_option maxRecDepth 100000 in
theorem BitoutParts (v n m s : Int) (w : World) (wv : (Lit.int .u32 v).wf = true) (wn : (Lit.int .u8 n).wf = true) (wm : (Lit.int .u8 m).wf = true) (ws : (Lit.int .u8 s).wf = true) :
    Calls Try.prog 4 #[.int .u32 v, .int .u8 n, .int .u8 m, .int .u8 s] w fun e w' => e = .returned (.bool true) ∧ Below w.heap.size w w' := by
  have hv := wf_u32 wv
  have hn := wf_u8 wn
  have hm := wf_u8 wm
  have hs := wf_u8 ws
  clear wv wn wm ws
  have e1 : Int.tmod s 9 = s % 9 := Int.tmod_eq_emod_of_nonneg hs.1
  have e2 : Int.tmod n 17 = n % 17 := Int.tmod_eq_emod_of_nonneg hn.1
  have e3 : Int.tmod m 16 = m % 16 := Int.tmod_eq_emod_of_nonneg hm.1
  obtain ⟨z, hz⟩ : ∃ z, s % 9 = z := ⟨_, rfl⟩
  obtain ⟨x, hx⟩ : ∃ x, n % 17 = x := ⟨_, rfl⟩
  obtain ⟨y, hy⟩ : ∃ y, m % 16 = y := ⟨_, rfl⟩
  have z0 : 0 ≤ z ∧ z ≤ 8 := by omega
  have x0 : 0 ≤ x ∧ x ≤ 16 := by omega
  have y0 : 0 ≤ y ∧ y ≤ 15 := by omega
  go_enter Try.func4, Try.ntmps4
  go_wp2_with fail
  refine (bitout_New _ _ _ (St.refl w)).mono ?_; rintro e v1 ⟨g, rfl, hs1⟩
  have HS := Aside0.mk hs1; clear hs1
  go_wp2_with fail
  refine (bitout_New _ _ _ HS.out).mono ?_; rintro e v2 ⟨g2, rfl, hs2⟩
  have HS2 := Aside0.mk hs2.swap; clear hs2 HS
  go_wp2_with fail
  go_loopw [13] (fun i wr => ∃ j : Nat, (j : Int) ≤ z ∧ i = .int .i64 j ∧ St w wr (writerA g (List.replicate j 1) * (writerA g2 (List.replicate j 1) * Asrt.emp))) (fun i _ => (z - intOf i).toNat)
  case atStart => exact ⟨0, by omega, rfl, HS2.out⟩
  case round =>
    obtain ⟨j, hj, rfl, hsj⟩ := hrel
    clear HS2
    have HS := Aside0.mk hsj; clear hsj
    have hjl : (List.replicate j (1 : Int)).length ≤ 900000000000 := by rw [List.length_replicate]; omega
    have hjb : Bin (List.replicate j (1 : Int)) := fun q hq => .inr (List.eq_of_mem_replicate hq)
    have HJ := Aside0.mk hjb; clear hjb
    have HJL := Aside0.mk hjl; clear hjl
    by_cases hlt : (j : Int) < z
    · have tl : decide ((j : Int) < z) = true := decide_eq_true hlt
      go_wp2_with fail
      refine (bitout_Bits_ok g _ 1 1 _ _ _ (by decide) (by decide) (by decide) (by decide) HJ.out HJL.out HS.out).mono ?_; rintro e v3 ⟨rfl, hs3⟩
      rw [show bitsV 1 (1 : Int).toNat = [1] from three_bits.1, ← List.replicate_succ'] at hs3
      have HS3 := Aside0.mk hs3.swap; clear hs3 HS
      go_wp2_with fail
      refine (bitout_Bits_ok g2 _ 1 1 _ _ _ (by decide) (by decide) (by decide) (by decide) HJ.out HJL.out HS3.out).mono ?_; rintro e v4 ⟨rfl, hs4⟩
      rw [show bitsV 1 (1 : Int).toNat = [1] from three_bits.1, ← List.replicate_succ'] at hs4
      have HS4 := Aside0.mk hs4.swap; clear hs4 HS3
      go_wp2_with fail
      go_roundw
      case rel => exact ⟨j + 1, by omega, by go_num, HS4.out⟩
      case measure => simp [intOf]; omega
    · have tl : decide ((j : Int) < z) = false := decide_eq_false hlt
      have px := pow_pos x.toNat
      have py := pow_pos y.toNat
      have px16 := pow_le (a := x.toNat) (b := 16) (by omega)
      have py15 := pow_le (a := y.toNat) (b := 15) (by omega)
      have q1 : (2 ^ x.toNat - 1) % 4294967296 = (2 : Int) ^ x.toNat - 1 := by omega
      have q2 : (2 ^ y.toNat - 1) % 4294967296 = (2 : Int) ^ y.toNat - 1 := by omega
      have hvx : 0 ≤ v / 2 ^ x.toNat ∧ v / 2 ^ x.toNat ≤ 4294967295 := ⟨Int.ediv_nonneg hv.1 (by omega), by have := Int.ediv_le_self (2 ^ x.toNat) hv.1; omega⟩
      obtain ⟨lo, hlo⟩ : ∃ lo, v % 2 ^ x.toNat = lo := ⟨_, rfl⟩
      obtain ⟨hi, hhi⟩ : ∃ hi, v / 2 ^ x.toNat % 2 ^ y.toNat = hi := ⟨_, rfl⟩
      have q3 : Go.bits .and .u32 v (2 ^ x.toNat - 1) = lo := by rw [and_u32 (by omega) hv.1 hv.2, hlo]
      have q4 : Go.bits .and .u32 (v / 2 ^ x.toNat) (2 ^ y.toNat - 1) = hi := by rw [and_u32 (by omega) hvx.1 hvx.2, hhi]
      have blo : 0 ≤ lo ∧ lo < 2 ^ x.toNat := by rw [← hlo]; exact ⟨Int.emod_nonneg _ (by omega), Int.emod_lt_of_pos _ px⟩
      have bhi : 0 ≤ hi ∧ hi < 2 ^ y.toNat := by rw [← hhi]; exact ⟨Int.emod_nonneg _ (by omega), Int.emod_lt_of_pos _ py⟩
      have hm1 : hi * 2 ^ x.toNat ≤ 32767 * 65536 := Int.mul_le_mul (by omega) (by omega) (by omega) (by omega)
      have hm0 : 0 ≤ hi * 2 ^ x.toNat := Int.mul_nonneg bhi.1 (by omega)
      have q5 : hi * 2 ^ x.toNat % 4294967296 = hi * 2 ^ x.toNat := by omega
      have hsum : v % 2 ^ (x.toNat + y.toNat) = hi * 2 ^ x.toNat + lo := by
        rw [emod_parts, hlo, hhi]
      have q6 : Go.bits .or .u32 (hi * 2 ^ x.toNat) lo = v % 2 ^ (x.toNat + y.toNat) := by rw [hsum]; exact or_u32 (i := x.toNat) (by omega) blo.1 blo.2 hm0 (by simp) (by omega)
      have hparts := bitsV_parts v x.toNat y.toNat
      rw [hlo, hhi] at hparts
      have hxy : (x + y).toNat = x.toNat + y.toNat := by omega
      have pxy := pow_le (a := x.toNat + y.toNat) (b := 31) (by omega)
      have pxy0 := pow_pos (x.toNat + y.toNat)
      obtain ⟨cb, hcb⟩ : ∃ cb, v % 2 ^ (x.toNat + y.toNat) = cb := ⟨_, rfl⟩
      have bcb : 0 ≤ cb ∧ cb < 2 ^ (x.toNat + y.toNat) := by rw [← hcb]; exact ⟨Int.emod_nonneg _ (by omega), Int.emod_lt_of_pos _ pxy0⟩
      rw [hcb] at hparts q6
      rw [← hxy] at bcb hparts
      have c0 : 0 ≤ cb ∧ cb ≤ 4294967295 := by rw [hxy] at bcb; omega
      have c1 : 0 ≤ lo ∧ lo ≤ 4294967295 := by omega
      have c2 : 0 ≤ hi ∧ hi ≤ 4294967295 := by omega
      have hlob := blo.2
      have hhib := bhi.2
      have hcbb := bcb.2
      have bxy : 0 ≤ x + y ∧ x + y ≤ 32 := by omega
      have HLOB := Aside0.mk hlob
      have HHIB := Aside0.mk hhib
      have HCBB := Aside0.mk hcbb
      have HPA := Aside0.mk hparts
      have HC0 := Aside0.mk c0
      have HC1 := Aside0.mk c1
      have HC2 := Aside0.mk c2
      clear hparts hxy pxy pxy0 hcb bcb hsum hm0 hm1 bhi blo hlo hhi px16 py15 px py hlob hhib hcbb c0 c1 c2 hvx
      obtain ⟨L, hL⟩ : ∃ L, List.replicate j (1 : Int) = L := ⟨_, rfl⟩
      have hl0 : L.length ≤ 8 := by rw [← hL, List.length_replicate]; omega
      have hJ := HJ.out
      have hS := HS.out
      rw [hL] at hJ hS
      have HJ2 := Aside0.mk hJ
      have HS2 := Aside0.mk hS
      have HL0 := Aside0.mk hl0
      clear hJ hS hL hl0 HJ HS HJL
      go_wp2_with fail
      refine (bitout_Bits_ok g L cb (x + y) _ _ _ HC0.out (by omega) (by omega) HCBB.out HJ2.out (by have := HL0.out; omega) HS2.out).mono ?_; rintro e v3 ⟨rfl, hs3⟩
      have HS3 := Aside0.mk hs3.swap; clear hs3 HS2
      go_wp2_with fail
      refine (bitout_Bits_ok g2 L lo x _ _ _ HC1.out (by omega) (by omega) HLOB.out HJ2.out (by have := HL0.out; omega) HS3.out).mono ?_; rintro e v4 ⟨rfl, hs4⟩
      have HS4 := Aside0.mk hs4; clear hs4 HS3
      go_wp2_with fail
      refine (bitout_Bits_ok g2 _ hi y _ _ _ HC2.out (by omega) (by omega) HHIB.out (HJ2.out.app (bitsV_bin _ _)) (by have := HL0.out; rw [List.length_append, bitsV_length]; omega) HS4.out).mono ?_; rintro e v5 ⟨rfl, hs5⟩
      rw [List.append_assoc, ← HPA.out] at hs5
      have HS5 := Aside0.mk hs5.swap; clear hs5 HS4
      have hbin : Bin (L ++ bitsV cb (x + y).toNat) := HJ2.out.app (bitsV_bin _ _)
      have hlen : (L ++ bitsV cb (x + y).toNat).length ≤ 1000 := by have := HL0.out; rw [List.length_append, bitsV_length]; omega
      generalize L ++ bitsV cb (x + y).toNat = M at *
      have HBM := Aside0.mk hbin; clear hbin
      have HLM := Aside0.mk hlen; clear hlen
      go_wp2_with fail
      refine (answers_calls _).mono ?_; rintro e v6 ⟨rfl, hb⟩
      have HS6 := Aside0.mk (HS5.out.belowR hb); clear hb HS5
      go_wp2_with fail
      refine (bitout_Len g M _ _ _ HS6.out).mono ?_; rintro e v7 ⟨rfl, rfl⟩
      go_wp2_with fail
      refine (bitout_Len g2 M _ _ _ HS6.out.swap).mono ?_; rintro e v7 ⟨rfl, rfl⟩
      go_wp2_with fail
      refine (bitout_Bytes g M _ _ _ (by have := HLM.out; omega) HS6.out).mono ?_; rintro e v7 ⟨B, k7, rfl, hs7⟩
      have HS7 := Aside0.mk hs7; clear hs7
      go_wp2_with fail
      refine (bitout_Bytes g2 M _ _ _ (by have := HLM.out; omega) HS7.out.rot3).mono ?_; rintro e v8 ⟨B2, k8, rfl, hs8⟩
      have HS8 := Aside0.mk hs8; clear hs8
      go_wp2_with fail
      refine (ref_Same_yes B B2 _ _ _ (pack M) _ (rowReads HS8.out.rot3) (rowReads HS8.out)).mono ?_; rintro e v9 ⟨rfl, ⟨nd, rfl⟩⟩
      go_wp2_with fail
      go_ret
      exact ⟨rfl, pw_below_drewN HS8.out.below _⟩
end Go.Proofs.Ytbgjpncnhhlljaa.Pure
