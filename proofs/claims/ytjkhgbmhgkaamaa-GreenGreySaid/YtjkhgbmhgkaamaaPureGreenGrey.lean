/- Grey goes to green alone; what has no green stays. -/
import Derived.Test.YtjkhgbmhgkaamaaGreen
namespace Go.Proofs.Ytjkhgbmhgkaamaa.Pure
open Go Go.RowKit Go.Proofs.Ytjkhgbmhgkaamaa.P Go.Proofs.YtjkhgbmhgkaamaaW.PrintWords Go.Proofs.YtjkhgbmhgkaamaaW.PrintLast Go.Proofs.YtjkhgbmhgkaamaaW.PrintMore Go.Proofs.Ytjkhgbmhgkaamaa.U

theorem pj {a b c d : Int} (ha : 0 ≤ a ∧ a ≤ 255) (hb : 0 ≤ b ∧ b ≤ 255) (hc : 0 ≤ c ∧ c ≤ 255) (hd : 0 ≤ d ∧ d ≤ 255) : join4 a b c d = a * 16777216 + b * 65536 + c * 256 + d := by unfold join4; omega
def grey (a p : Int) : Int := join4 a p p p
def dim (a p : Int) : Int := join4 a p 0 (p / 2)
def lone (a p : Int) : Int := join4 a 0 p 0
theorem grey_eq {a p : Int} (ha : 0 ≤ a ∧ a ≤ 255) (hp : 0 ≤ p ∧ p ≤ 255) : Go.bits .or .u32 (Go.bits .or .u32 (Go.bits .or .u32 ((((a) % 4294967296) * 16777216) % 4294967296) ((((p) % 4294967296) * 65536) % 4294967296)) ((((p) % 4294967296) * 256) % 4294967296)) ((p) % 4294967296) = grey a p := by
  unfold grey
  rw [pj ha hp hp hp, show a % 4294967296 * 16777216 % 4294967296 = a * 16777216 by omega, show p % 4294967296 * 65536 % 4294967296 = p * 65536 by omega, show p % 4294967296 * 256 % 4294967296 = p * 256 by omega, show p % 4294967296 = p by omega]
  rw [or24 (a * 16777216) (p * 65536) (by omega) (by omega) (by omega) (by omega) (by omega), or16 (a * 16777216 + p * 65536) (p * 256) (by omega) (by omega) (by omega) (by omega) (by omega), or08 _ p (by omega) (by omega) (by omega) (by omega) (by omega)]
theorem dim_eq {a p : Int} (ha : 0 ≤ a ∧ a ≤ 255) (hp : 0 ≤ p ∧ p ≤ 255) : Go.bits .or .u32 (Go.bits .or .u32 ((((a) % 4294967296) * 16777216) % 4294967296) ((((p) % 4294967296) * 65536) % 4294967296)) (((p) % 4294967296) / 2) = dim a p := by
  unfold dim
  rw [pj ha hp (by omega) (by omega), show a % 4294967296 * 16777216 % 4294967296 = a * 16777216 by omega, show p % 4294967296 * 65536 % 4294967296 = p * 65536 by omega, show p % 4294967296 = p by omega]
  rw [or24 (a * 16777216) (p * 65536) (by omega) (by omega) (by omega) (by omega) (by omega), or16 (a * 16777216 + p * 65536) (p / 2) (by omega) (by omega) (by omega) (by omega) (by omega)]
  omega
theorem lone_eq {a p : Int} (ha : 0 ≤ a ∧ a ≤ 255) (hp : 0 ≤ p ∧ p ≤ 255) : Go.bits .or .u32 ((((a) % 4294967296) * 16777216) % 4294967296) ((((p) % 4294967296) * 256) % 4294967296) = lone a p := by
  unfold lone
  rw [pj ha (by omega) hp (by omega), show a % 4294967296 * 16777216 % 4294967296 = a * 16777216 by omega, show p % 4294967296 * 256 % 4294967296 = p * 256 by omega]
  rw [or24 (a * 16777216) (p * 256) (by omega) (by omega) (by omega) (by omega) (by omega)]
  omega
theorem gS_grey (a p : Int) : gS (grey a p) = lone a p := by
  unfold gS grey lone
  rw [pA_join, pR_join, pG_join, pB_join]
  exact join_eq (by omega) (by omega) (by omega) (by omega)
theorem gS_dim (a p : Int) : gS (dim a p) = dim a p := by
  unfold gS dim
  rw [pA_join, pR_join, pG_join, pB_join]
  exact join_eq (by omega) (by omega) (by omega) (by omega)
theorem map_gS_grey (a : Int) (l : List Int) : (l.map (grey a)).map gS = l.map (lone a) := by
  rw [List.map_map]; exact List.map_congr_left (fun x _ => gS_grey a x)
theorem map_gS_dim (a : Int) (l : List Int) : (l.map (dim a)).map gS = l.map (dim a) := by
  rw [List.map_map]; exact List.map_congr_left (fun x _ => gS_dim a x)
theorem grd_map {f : Int → Int} {l : List Int} {i : Nat} (h : i < l.length) : rd (l.map f) (i : Int) = f (rd l (i : Int)) := by
  rw [rd_nat h, rd_nat (by rw [List.length_map]; exact h), List.getElem_map]
theorem grey_l1 {l : List Int} (hl : ∀ x ∈ l, 0 ≤ x ∧ x ≤ 255) (hlen : l.length ≤ 300) (a : Int) (ha : 0 ≤ a ∧ a ≤ 255) (w h c e : Int) (m : List Int) (hm : m.length ≤ 300) (d : Nat) : ∀ i : Nat, i + d = l.length →
    Ev (fun k => marquetrylaw15_GreenGrey.l1 k l a i w h m c e (l.map (lone a)) w h m) true := by
  induction d with
  | zero =>
    intro i hd
    refine Ev.succ ?_
    simp only [marquetrylaw15_GreenGrey.l1]
    exact Ev.ite_neg (by omega) (Ev.bind answers_ev (Ev.ite_pos rfl (Ev.bind (same_ev w h m (by omega)) (Ev.now _))))
  | succ d ih =>
    intro i hd
    refine Ev.succ ?_
    simp only [marquetrylaw15_GreenGrey.l1]
    have hx := hl _ (rd_mem (l := l) (i := (i : Int)) (by omega) (by omega))
    simp only [grd_map (f := lone a) (l := l) (i := i) (by omega), lone_eq ha hx, List.length_map]
    refine Ev.ite_pos (by omega) (Ev.ite_neg (by omega) (Ev.ite_pos (by omega) (Ev.ite_pos (by omega) (Ev.ite_pos trivial ?_))))
    rw [w64 (by omega) (by omega)]
    exact ih (i + 1) (by omega)
theorem grey_l0 {l : List Int} (hl : ∀ x ∈ l, 0 ≤ x ∧ x ≤ 255) (hlen : l.length ≤ 300) (h1 : 1 ≤ l.length) (a : Int) (ha : 0 ≤ a ∧ a ≤ 255) (d : Nat) : ∀ i : Nat, i + d = l.length →
    Ev (fun k => marquetrylaw15_GreenGrey.l0 k l a i l.length 1 ((l.take i).map (grey a)) l.length 1 ((l.take i).map (dim a))) true := by
  induction d with
  | zero =>
    intro i hd
    refine Ev.succ ?_
    simp only [marquetrylaw15_GreenGrey.l0]
    refine Ev.ite_neg (by omega) ?_
    rw [List.take_of_length_le (by omega)]
    have g : ∀ f : Int → Int, good (l.length : Int) 1 (l.map f) := fun f => by unfold good; rw [List.length_map]; omega
    refine Ev.bind (Forth_ev (u32s_map _ (fun x => u32_join _ _ _ _) l) (g _)) (Ev.bind (Forth_ev (u32s_map _ (fun x => u32_join _ _ _ _) l) (g _)) ?_)
    rw [map_gS_grey, map_gS_dim]
    exact grey_l1 hl hlen a ha _ _ _ _ _ (by rw [List.length_map]; omega) l.length 0 (by omega)
  | succ d ih =>
    intro i hd
    refine Ev.succ ?_
    simp only [marquetrylaw15_GreenGrey.l0]
    have hx := hl _ (rd_mem (l := l) (i := (i : Int)) (by omega) (by omega))
    simp only [grey_eq ha hx, dim_eq ha hx]
    refine Ev.ite_pos (by omega) (Ev.ite_pos (by omega) (Ev.ite_pos (by simp; omega) (Ev.ite_pos (by simp; omega) ?_)))
    rw [map_take (grey a) (by omega), map_take (dim a) (by omega), w64 (by omega) (by omega)]
    exact ih (i + 1) (by omega)
theorem GreenGrey : marquetrylaw15_GreenGrey.Pure := by
  intro l a hl1 _ hl0 wa
  have hl : ∀ x ∈ l, 0 ≤ x ∧ x ≤ 255 := fun x hx => wf_u8 (hl0 x hx)
  have ha := wf_u8 wa
  refine Ev.rounds (g := fun k => marquetrylaw15_GreenGrey.f k l a) ?_
  unfold marquetrylaw15_GreenGrey.f
  have skip : ∀ x, x = true → Ev (fun k => marquetrylaw15_GreenGrey.j0 k l a x) true := by
    intro x hx
    refine Ev.succ ?_
    simp only [marquetrylaw15_GreenGrey.j0]
    exact Ev.ite_pos hx (Ev.bind answers_ev (Ev.now _))
  by_cases c : (l.length : Int) = 0
  · exact Ev.ite_pos c (skip _ rfl)
  refine Ev.ite_neg c ?_
  by_cases c2 : (l.length : Int) > 300
  · exact skip _ (by simpa using c2)
  · refine Ev.succ ?_
    simp only [marquetrylaw15_GreenGrey.j0]
    refine Ev.ite_neg (by simpa using c2) ?_
    exact grey_l0 hl (by omega) (by omega) a ha l.length 0 (by omega)
end Go.Proofs.Ytjkhgbmhgkaamaa.Pure
