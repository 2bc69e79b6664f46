/- Any element as a pixel, and back; what a number adds by another one is the reference's, whichever comes first. -/
import Derived.Test.YtbbbngjjefnmhaaPx
import Derived.Test.YtbbbngjjefnmhaaU
namespace Go.Proofs.Ytbbbngjjefnmhaa.Pure
open Go Go.RowKit Go.Proofs.Ytbbbngjjefnmhaa.P Go.Proofs.YtbbbngjjefnmhaaW.PrintWords Go.Proofs.YtbbbngjjefnmhaaW.PrintLast Go.Proofs.YtbbbngjjefnmhaaW.PrintMore Go.Proofs.Ytbbbngjjefnmhaa.U

theorem wrap_i8 (n : Int) : IntKind.i8.wrap n = (n + 128) % 256 - 128 := by
  simp [IntKind.wrap, IntKind.bits, IntKind.signed]
  split <;> omega
theorem or24 (x y : Int) (a : 0 ≤ x) (b : x < 4294967296) (c : x % 16777216 = 0) (d : 0 ≤ y) (e : y < 16777216) : Go.bits .or .u32 x y = x + y :=
  bits_join .u32 32 (by decide) (fun n h0 h1 => by rw [IntKind.wrap_u32]; omega) 24 x y a (by simpa using c) (by omega) d (by omega) (by omega)
theorem or16 (x y : Int) (a : 0 ≤ x) (b : x < 4294967296) (c : x % 65536 = 0) (d : 0 ≤ y) (e : y < 65536) : Go.bits .or .u32 x y = x + y :=
  bits_join .u32 32 (by decide) (fun n h0 h1 => by rw [IntKind.wrap_u32]; omega) 16 x y a (by simpa using c) (by omega) d (by omega) (by omega)
theorem or08 (x y : Int) (a : 0 ≤ x) (b : x < 4294967296) (c : x % 256 = 0) (d : 0 ≤ y) (e : y < 256) : Go.bits .or .u32 x y = x + y :=
  bits_join .u32 32 (by decide) (fun n h0 h1 => by rw [IntKind.wrap_u32]; omega) 8 x y a (by simpa using c) (by omega) d (by omega) (by omega)
theorem make_eq (a r g b : Int) (ha : 0 ≤ a ∧ a ≤ 255) (hr : 0 ≤ r ∧ r ≤ 255) (hg : 0 ≤ g ∧ g ≤ 255) (hb : 0 ≤ b ∧ b ≤ 255) : pixel_Make.f a r g b = some (a * 16777216 + r * 65536 + g * 256 + b) := by
  unfold pixel_Make.f
  rw [show a % 4294967296 * 16777216 % 4294967296 = a * 16777216 by omega, show r % 4294967296 * 65536 % 4294967296 = r * 65536 by omega, show g % 4294967296 * 256 % 4294967296 = g * 256 by omega, show b % 4294967296 = b by omega]
  rw [or24 (a * 16777216) (r * 65536) (by omega) (by omega) (by omega) (by omega) (by omega), or16 (a * 16777216 + r * 65536) (g * 256) (by omega) (by omega) (by omega) (by omega) (by omega), or08 _ b (by omega) (by omega) (by omega) (by omega) (by omega)]
theorem mask24 {x : Int} (h0 : 0 ≤ x) (h1 : x ≤ 4294967295) : Go.bits .and .u32 x 16777215 = x % 16777216 := by
  have := bits_mask .u32 32 (by decide) (fun n h0 h1 => by rw [IntKind.wrap_u32]; omega) 24 (by decide) x h0 (by omega)
  simpa using this
theorem mul8 {t c : Int} (ht : -128 ≤ t ∧ t ≤ 127) (hc : -128 ≤ c ∧ c ≤ 127) : -32768 ≤ t * c ∧ t * c ≤ 32768 := by
  have h1 : (t + 128) * (c + 128) = t * c + 128 * t + 128 * c + 16384 := by rw [Int.add_mul, Int.mul_add, Int.mul_add]; omega
  have h2 : (t + 128) * (128 - c) = 128 * t - t * c + 16384 - 128 * c := by rw [Int.add_mul, Int.mul_sub, Int.mul_sub]; omega
  have h3 := Int.mul_nonneg (show 0 ≤ t + 128 by omega) (show 0 ≤ c + 128 by omega)
  have h4 := Int.mul_nonneg (show 0 ≤ t + 128 by omega) (show 0 ≤ 128 - c by omega)
  have h5 : (128 - t) * (c + 128) = 128 * c + 16384 - t * c - 128 * t := by rw [Int.sub_mul, Int.mul_add, Int.mul_add]; omega
  have h6 := Int.mul_nonneg (show 0 ≤ 128 - t by omega) (show 0 ≤ c + 128 by omega)
  have h7 : (128 - t) * (128 - c) = 16384 - 128 * c - 128 * t + t * c := by rw [Int.sub_mul, Int.mul_sub, Int.mul_sub]; omega
  have h8 := Int.mul_nonneg (show 0 ≤ 128 - t by omega) (show 0 ≤ 128 - c by omega)
  omega
theorem delta_eq {t c : Int} (ht : -128 ≤ t ∧ t ≤ 127) (hc : -128 ≤ c ∧ c ≤ 127) : cross_Delta.f t c = some (t * c / 32) := by
  unfold cross_Delta.f
  have := mul8 ht hc
  rw [w64 (n := t) (by omega) (by omega), w64 (n := c) (by omega) (by omega), w64 (by omega) (by omega)]
theorem refDelta_eq {t c : Int} (ht : -128 ≤ t ∧ t ≤ 127) (hc : -128 ≤ c ∧ c ≤ 127) : marquetryref11_Delta.f t c = some (t * c / 32) := by
  unfold marquetryref11_Delta.f
  have := mul8 ht hc
  generalize t * c = n at *
  rw [w64 (n := n) (by omega) (by omega)]
  by_cases h : n ≥ 0
  · rw [if_pos h, Int.tdiv_eq_ediv_of_nonneg h, w64 (by omega) (by omega)]
  · rw [if_neg h, w64 (n := -n) (by omega) (by omega), w64 (n := -n + 31) (by omega) (by omega), Int.tdiv_eq_ediv_of_nonneg (by omega), w64 (n := (-n + 31) / 32) (by omega) (by omega), w64 (by omega) (by omega)]
    congr 1
    omega
theorem answers_eq : marquetrylaw14_answers.f = some true := by
  unfold marquetrylaw14_answers.f cross_Pixel.f
  rw [delta_eq (by omega) (by omega), Option.bind_some, if_pos (by decide), make_eq _ _ _ _ (by decide) (by decide) (by decide) (by decide)]
  decide
theorem pixel_eq {a b c : Int} : cross_Pixel.f a b c = some (255 * 16777216 + c % 256 * 65536 + b % 256 * 256 + a % 256) := by
  unfold cross_Pixel.f
  rw [make_eq _ _ _ _ (by omega) (by omega) (by omega) (by omega)]
  rfl
theorem CrossElements : marquetrylaw14_CrossElements.Pure := by
  intro a b c p t d wa wb wc wp wt wd
  have ha := wf_i8 wa
  have hb := wf_i8 wb
  have hc := wf_i8 wc
  have hp := wf_u32 wp
  have ht := wf_i8 wt
  have hd := wf_i8 wd
  unfold marquetrylaw14_CrossElements.f cross_Of.f pixel_Parts.f
  simp only [pixel_eq, answers_eq, Option.bind_some, if_true, delta_eq ht hd, delta_eq hd ht, wrap_i8]
  rw [w64 (n := t) (by omega) (by omega), w64 (n := d) (by omega) (by omega), refDelta_eq ht hd]
  have e1 : ((255 * 16777216 + c % 256 * 65536 + b % 256 * 256 + a % 256) % 256 + 128) % 256 - 128 = a := by omega
  have e2 : ((255 * 16777216 + c % 256 * 65536 + b % 256 * 256 + a % 256) / 256 % 256 + 128) % 256 - 128 = b := by omega
  have e3 : ((255 * 16777216 + c % 256 * 65536 + b % 256 * 256 + a % 256) / 65536 % 256 + 128) % 256 - 128 = c := by omega
  have e4 : marquetryref11_Part.f (255 * 16777216 + c % 256 * 65536 + b % 256 * 256 + a % 256) 0 = some 255 := by
    unfold marquetryref11_Part.f
    rw [w64 (n := 8 * 0) (by omega) (by omega), w64 (by omega) (by omega), wu64 (by omega) (by omega), shr_any (by decide), if_pos (by decide), show (24 - 8 * 0 : Int).toNat = 24 by decide, show (2 : Int) ^ 24 = 16777216 by decide, Int.tmod_eq_emod_of_nonneg (by omega), w64 (by omega) (by omega)]
    congr 1; omega
  rw [e1, e2, e3, e4]
  simp only [beq_self_eq_true, Bool.and_self, if_true, Option.bind_some]
  rw [mask24 (x := p) hp.1 hp.2, mask24 (by omega) (by omega)]
  rw [if_pos (by omega), Int.mul_comm d t]
  simp

end Go.Proofs.Ytbbbngjjefnmhaa.Pure
