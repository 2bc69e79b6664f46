/- What Make, Good and the reference's Same come to. -/
import Derived.Test.YtnbocgmlcdcahaaPx
import Derived.Test.YtnbocgmlcdcahaaU
namespace Go.Proofs.Ytnbocgmlcdcahaa.Pure
open Go Go.RowKit Go.Proofs.Ytnbocgmlcdcahaa.P Go.Proofs.YtnbocgmlcdcahaaW.PrintWords Go.Proofs.YtnbocgmlcdcahaaW.PrintLast Go.Proofs.YtnbocgmlcdcahaaW.PrintMore Go.Proofs.Ytnbocgmlcdcahaa.U

theorem or24 (x y : Int) (a : 0 ≤ x) (b : x < 4294967296) (c : x % 16777216 = 0) (d : 0 ≤ y) (e : y < 16777216) : Go.bits .or .u32 x y = x + y :=
  bits_join .u32 32 (by decide) (fun n h0 h1 => by rw [IntKind.wrap_u32]; omega) 24 x y a (by simpa using c) (by omega) d (by omega) (by omega)
theorem or16 (x y : Int) (a : 0 ≤ x) (b : x < 4294967296) (c : x % 65536 = 0) (d : 0 ≤ y) (e : y < 65536) : Go.bits .or .u32 x y = x + y :=
  bits_join .u32 32 (by decide) (fun n h0 h1 => by rw [IntKind.wrap_u32]; omega) 16 x y a (by simpa using c) (by omega) d (by omega) (by omega)
theorem or08 (x y : Int) (a : 0 ≤ x) (b : x < 4294967296) (c : x % 256 = 0) (d : 0 ≤ y) (e : y < 256) : Go.bits .or .u32 x y = x + y :=
  bits_join .u32 32 (by decide) (fun n h0 h1 => by rw [IntKind.wrap_u32]; omega) 8 x y a (by simpa using c) (by omega) d (by omega) (by omega)
def good (w h : Int) (l : List Int) : Prop := 1 ≤ w ∧ w ≤ 16384 ∧ 1 ≤ h ∧ h ≤ 16384 ∧ (l.length : Int) = w * h
instance (w h : Int) (l : List Int) : Decidable (good w h l) := by unfold good; infer_instance
theorem area_bd {w h : Int} (h0 : 1 ≤ w ∧ w ≤ 16384) (h1 : 1 ≤ h ∧ h ≤ 16384) : 1 ≤ w * h ∧ w * h ≤ 268435456 := by
  have a := Int.mul_le_mul (show w ≤ 16384 by omega) (show h ≤ 16384 by omega) (by omega) (by omega)
  have b := Int.mul_le_mul (show 1 ≤ w by omega) (show 1 ≤ h by omega) (by omega) (by omega)
  omega
theorem good_len {w h : Int} {l : List Int} (hg : good w h l) : 1 ≤ l.length ∧ l.length ≤ 268435456 := by
  obtain ⟨a, b, c, d, e⟩ := hg
  have := area_bd ⟨a, b⟩ ⟨c, d⟩
  omega
theorem good_eq (w h : Int) (l : List Int) : marquetryref11_Good.f w h l = some (decide (good w h l)) := by
  unfold marquetryref11_Good.f
  by_cases c1 : w ≥ 1
  · rw [if_pos c1]
    by_cases c2 : w ≤ 16384
    · rw [if_pos c2]
      by_cases c3 : h ≥ 1
      · rw [if_pos c3]
        by_cases c4 : h ≤ 16384
        · rw [if_pos c4]
          have := area_bd (w := w) (h := h) ⟨c1, c2⟩ ⟨c3, c4⟩
          rw [w64 (by omega) (by omega)]
          congr 1
          unfold good
          simp [c1, c2, c3, c4]
          by_cases e : (l.length : Int) = w * h
          · simp [e]
          · simp [e]
        · rw [if_neg c4]; unfold good; simp [c4]
      · rw [if_neg c3]; simp [good, c3]
    · rw [if_neg c2]; unfold good; simp [c2]
  · rw [if_neg c1]; simp [good, c1]
theorem pgood_eq (w h : Int) (l : List Int) : pixel_Good.f w h l = some (decide (good w h l)) := good_eq w h l
theorem pixels_loop (a : List Int) (hlen : a.length ≤ 140737488355328) (d : Nat) : ∀ i : Nat, i + d = a.length → Ev (fun k => marquetryref11_Pixels.l0 k a a i) true := by
  induction d with
  | zero =>
    intro i hd
    refine Ev.succ ?_
    simp only [marquetryref11_Pixels.l0]
    exact Ev.ite_neg (by omega) (Ev.now _)
  | succ d ih =>
    intro i hd
    refine Ev.succ ?_
    simp only [marquetryref11_Pixels.l0]
    rw [w64 (n := (i : Int) + 1) (by omega) (by omega)]
    refine Ev.ite_pos (by omega) (Ev.ite_pos (by omega) (Ev.ite_pos (by omega) ?_))
    simp only [if_true]
    exact ih (i + 1) (by omega)
theorem pixels_ev (a : List Int) (hlen : a.length ≤ 140737488355328) : Ev (fun k => marquetryref11_Pixels.f k a a) true := by
  unfold marquetryref11_Pixels.f
  refine Ev.ite_pos rfl ?_
  exact pixels_loop a hlen a.length 0 (by omega)
theorem same_ev (w h : Int) (a : List Int) (hlen : a.length ≤ 140737488355328) : Ev (fun k => marquetryref11_Same.f k w h a w h a) true := by
  unfold marquetryref11_Same.f
  simp only [if_true]
  exact Ev.bind (pixels_ev a hlen) (Ev.now _)
end Go.Proofs.Ytnbocgmlcdcahaa.Pure
