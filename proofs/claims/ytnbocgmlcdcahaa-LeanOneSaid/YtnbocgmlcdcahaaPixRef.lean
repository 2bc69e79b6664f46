/- What the reference's Part and Pick come to. -/
import Derived.Test.YtnbocgmlcdcahaaPx
import Derived.Test.YtnbocgmlcdcahaaPix
import Derived.Test.YtnbocgmlcdcahaaMpick
import Derived.Test.YtnbocgmlcdcahaaMref
namespace Go.Proofs.Ytnbocgmlcdcahaa.Pure
open Go Go.RowKit Go.Proofs.Ytnbocgmlcdcahaa.P Go.Proofs.YtnbocgmlcdcahaaW.PrintWords Go.Proofs.YtnbocgmlcdcahaaW.PrintLast Go.Proofs.YtnbocgmlcdcahaaW.PrintMore Go.Proofs.Ytnbocgmlcdcahaa.U

theorem part0 {p : Int} (h : U32 p) : marquetryref11_Part.f p 0 = some (pA p) := by
  have h1 := pA_bd h
  unfold marquetryref11_Part.f
  rw [w64 (n := 8 * 0) (by omega) (by omega), w64 (by omega) (by omega), wu64 (by omega) (by omega), shr_any (by decide)]
  unfold U32 at h
  unfold pA at *
  rw [if_pos (by decide), show (24 - 8 * 0 : Int).toNat = 24 by decide, Int.tmod_eq_emod_of_nonneg (by omega)]
  rw [show (2 : Int) ^ 24 = 16777216 by decide, w64 (by omega) (by omega)]
  congr 1; omega
theorem part1 {p : Int} (h : U32 p) : marquetryref11_Part.f p 1 = some (pR p) := by
  unfold marquetryref11_Part.f
  rw [w64 (n := 8 * 1) (by omega) (by omega), w64 (by omega) (by omega), wu64 (by omega) (by omega), shr_any (by decide)]
  unfold U32 at h
  unfold pR
  rw [if_pos (by decide), show (24 - 8 * 1 : Int).toNat = 16 by decide, Int.tmod_eq_emod_of_nonneg (by omega)]
  rw [show (2 : Int) ^ 16 = 65536 by decide, w64 (by omega) (by omega)]
theorem part2 {p : Int} (h : U32 p) : marquetryref11_Part.f p 2 = some (pG p) := by
  unfold marquetryref11_Part.f
  rw [w64 (n := 8 * 2) (by omega) (by omega), w64 (by omega) (by omega), wu64 (by omega) (by omega), shr_any (by decide)]
  unfold U32 at h
  unfold pG
  rw [if_pos (by decide), show (24 - 8 * 2 : Int).toNat = 8 by decide, Int.tmod_eq_emod_of_nonneg (by omega)]
  rw [show (2 : Int) ^ 8 = 256 by decide, w64 (by omega) (by omega)]
theorem part3 {p : Int} (h : U32 p) : marquetryref11_Part.f p 3 = some (pB p) := by
  unfold marquetryref11_Part.f
  rw [w64 (n := 8 * 3) (by omega) (by omega), w64 (by omega) (by omega), wu64 (by omega) (by omega), shr_any (by decide)]
  unfold U32 at h
  unfold pB
  rw [if_pos (by decide), show (24 - 8 * 3 : Int).toNat = 0 by decide, Int.tmod_eq_emod_of_nonneg (by omega)]
  rw [show (2 : Int) ^ 0 = 1 by decide, Int.ediv_one, w64 (by omega) (by omega)]
/-- How far apart, as the reference has it. -/
def far (x y : Int) : Int := if x - y < 0 then -(x - y) else x - y
theorem gap_far {x y z : Int} (hx : 0 ≤ x ∧ x ≤ 255) (hy : 0 ≤ y ∧ y ≤ 255) (hz : 0 ≤ z ∧ z ≤ 255) : gapi (x + y - z) x = far y z ∧ gapi (x + y - z) y = far x z := by
  unfold gapi far mx
  rw [w64 (n := x + y - z - x) (by omega) (by omega), w64 (n := x - (x + y - z)) (by omega) (by omega), w64 (n := x + y - z - y) (by omega) (by omega), w64 (n := y - (x + y - z)) (by omega) (by omega)]
  constructor <;> (repeat' split) <;> omega
theorem far_bd {x y : Int} (hx : 0 ≤ x ∧ x ≤ 255) (hy : 0 ≤ y ∧ y ≤ 255) : 0 ≤ far x y ∧ far x y ≤ 255 := by unfold far; split <;> omega
theorem pick_round (l t z k a b x y w r : Int) (hl : marquetryref11_Part.f l k = some x) (ht : marquetryref11_Part.f t k = some y) (hz : marquetryref11_Part.f z k = some w)
    (hx : 0 ≤ x ∧ x ≤ 255) (hy : 0 ≤ y ∧ y ≤ 255) (hw : 0 ≤ w ∧ w ≤ 255) (h4 : k < 4) (h0 : 0 ≤ k) (ha : 0 ≤ a ∧ a ≤ 10000) (hb : 0 ≤ b ∧ b ≤ 10000)
    (e : Ev (fun n => marquetryref11_Pick.l0 n l t z (a + far y w) (b + far x w) (k + 1)) r) : Ev (fun n => marquetryref11_Pick.l0 n l t z a b k) r := by
  refine Ev.succ ?_
  simp only [marquetryref11_Pick.l0]
  refine Ev.ite_pos h4 ?_
  simp only [hl, ht, hz, Option.bind_some]
  rw [w64 (n := k + 1) (by omega) (by omega), w64 (n := y - w) (by omega) (by omega), w64 (n := x - w) (by omega) (by omega), w64 (n := -(y - w)) (by omega) (by omega), w64 (n := -(x - w)) (by omega) (by omega)]
  rw [w64 (n := a + -(y - w)) (by omega) (by omega), w64 (n := a + (y - w)) (by omega) (by omega), w64 (n := b + -(x - w)) (by omega) (by omega), w64 (n := b + (x - w)) (by omega) (by omega)]
  unfold far at e
  by_cases c1 : y - w < 0
  · rw [if_pos c1] at e
    refine Ev.ite_pos c1 ?_
    by_cases c2 : x - w < 0
    · rw [if_pos c2] at e; exact Ev.ite_pos c2 e
    · rw [if_neg c2] at e; exact Ev.ite_neg c2 e
  · rw [if_neg c1] at e
    refine Ev.ite_neg c1 ?_
    by_cases c2 : x - w < 0
    · rw [if_pos c2] at e; exact Ev.ite_pos c2 e
    · rw [if_neg c2] at e; exact Ev.ite_neg c2 e
theorem refPick_ev {l t z : Int} (hl : U32 l) (ht : U32 t) (hz : U32 z) : Ev (fun k => marquetryref11_Pick.f k l t z) (pick4 l t z) := by
  unfold marquetryref11_Pick.f
  have p0 := pA_bd hl
  have p1 := pR_bd l
  have p2 := pG_bd l
  have p3 := pB_bd l
  have q0 := pA_bd ht
  have q1 := pR_bd t
  have q2 := pG_bd t
  have q3 := pB_bd t
  have r0 := pA_bd hz
  have r1 := pR_bd z
  have r2 := pG_bd z
  have r3 := pB_bd z
  have f0 := far_bd p0 r0
  have f1 := far_bd p1 r1
  have f2 := far_bd p2 r2
  have f3 := far_bd p3 r3
  have g0 := far_bd q0 r0
  have g1 := far_bd q1 r1
  have g2 := far_bd q2 r2
  have g3 := far_bd q3 r3
  refine pick_round _ _ _ 0 _ _ _ _ _ _ (part0 hl) (part0 ht) (part0 hz) p0 q0 r0 (by omega) (by omega) (by omega) (by omega) ?_
  refine pick_round _ _ _ 1 _ _ _ _ _ _ (part1 hl) (part1 ht) (part1 hz) p1 q1 r1 (by omega) (by omega) (by omega) (by omega) ?_
  refine pick_round _ _ _ 2 _ _ _ _ _ _ (part2 hl) (part2 ht) (part2 hz) p2 q2 r2 (by omega) (by omega) (by omega) (by omega) ?_
  refine pick_round _ _ _ 3 _ _ _ _ _ _ (part3 hl) (part3 ht) (part3 hz) p3 q3 r3 (by omega) (by omega) (by omega) (by omega) ?_
  refine Ev.succ ?_
  simp only [marquetryref11_Pick.l0]
  refine Ev.ite_neg (by omega) ?_
  unfold pick4
  rw [(gap_far p0 q0 r0).1, (gap_far p1 q1 r1).1, (gap_far p2 q2 r2).1, (gap_far p3 q3 r3).1, (gap_far p0 q0 r0).2, (gap_far p1 q1 r1).2, (gap_far p2 q2 r2).2, (gap_far p3 q3 r3).2, Int.zero_add, Int.zero_add]
  by_cases c : far (pA t) (pA z) + far (pR t) (pR z) + far (pG t) (pG z) + far (pB t) (pB z) < far (pA l) (pA z) + far (pR l) (pR z) + far (pG l) (pG z) + far (pB l) (pB z)
  · simp only [if_pos c]; exact Ev.now _
  · simp only [if_neg c]; exact Ev.now _
theorem full_comm (l t z : Int) : each4 fFull t l z = each4 fFull l t z := by
  unfold each4 fFull
  rw [Int.add_comm (pA t), Int.add_comm (pR t), Int.add_comm (pG t), Int.add_comm (pB t)]

end Go.Proofs.Ytnbocgmlcdcahaa.Pure
