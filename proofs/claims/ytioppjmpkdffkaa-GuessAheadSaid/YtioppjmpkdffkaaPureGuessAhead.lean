/- What a pixel may be hangs on none that comes later. -/
import Derived.Test.YtioppjmpkdffkaaGuessAt
namespace Go.Proofs.Ytioppjmpkdffkaa.Pure
open Go Go.RowKit Go.Proofs.Ytioppjmpkdffkaa.P Go.Proofs.YtioppjmpkdffkaaW.PrintWords Go.Proofs.YtioppjmpkdffkaaW.PrintLast Go.Proofs.YtioppjmpkdffkaaW.PrintMore Go.Proofs.Ytioppjmpkdffkaa.U

theorem at12_same {w h x y : Int} {l n : List Int} (hg : good w h l) (hx : 0 ≤ x ∧ x < w) (hy : 0 ≤ y ∧ y < h) (m : Int) (hs : ∀ j : Int, 0 ≤ j → j < y * w + x → rd n j = rd l j) : at12 w n m x y = at12 w l m x y := by
  obtain ⟨p0, p1, p2, p3⟩ := place_bd hg hy
  unfold at12
  by_cases c : x = 0 ∧ y = 0
  · rw [if_pos c, if_pos c]
  rw [if_neg c, if_neg c]
  by_cases c1 : y = 0
  · rw [if_pos c1, if_pos c1]
    exact hs _ (by omega) (by omega)
  rw [if_neg c1, if_neg c1]
  have := p3 (by omega)
  by_cases c2 : x = 0
  · rw [if_pos c2, if_pos c2]
    exact hs _ (by omega) (by omega)
  rw [if_neg c2, if_neg c2]
  unfold tr12
  rw [hs (y * w + x - 1) (by omega) (by omega), hs (y * w - w + x) (by omega) (by omega), hs (y * w - w + x - 1) (by omega) (by omega)]
  by_cases c3 : x = w - 1
  · rw [if_pos c3, if_pos c3, hs _ (by omega) (by omega)]
  · rw [if_neg c3, if_neg c3, hs _ (by omega) (by omega)]
theorem ahead_loop {w h : Int} {l : List Int} (hl : U32s l) (hg : good w h l) (m v k : Int) (hv : U32 v) (hk0 : 0 ≤ k) (hk : k < l.length) (d : Nat) : ∀ (i : Nat) (n : List Int), i + d = l.length → k ≤ i → U32s n → n.length = l.length → (∀ j : Int, 0 ≤ j → j < k → rd n j = rd l j) →
    Ev (fun t => marquetrylaw12_GuessAhead.l0 t m v k i w h l w h n) true := by
  induction d with
  | zero =>
    intro i n hd hi hn hlen hs
    refine Ev.succ ?_
    simp only [marquetrylaw12_GuessAhead.l0]
    have hw : 1 ≤ w := hg.1
    have hgn : good w h n := by unfold good at *; rw [hlen]; exact hg
    have p2 := (good_len hg).2
    refine Ev.ite_neg (by omega) ?_
    simp only [answers_eq, Option.bind_some, if_true]
    refine Ev.ite_neg (by omega) ?_
    rw [Int.tmod_eq_emod_of_nonneg hk0, Int.tdiv_eq_ediv_of_nonneg hk0]
    have d0 : 0 ≤ k / w := Int.ediv_nonneg hk0 (by omega)
    have d1 : k / w < h := by
      refine Int.ediv_lt_of_lt_mul (by omega) ?_
      rw [Int.mul_comm]
      rw [← hg.2.2.2.2]; exact hk
    have hh : h ≤ 16384 := hg.2.2.2.1
    rw [w64 (n := k / w) (by omega) (by omega)]
    have hx : 0 ≤ k % w ∧ k % w < w := ⟨Int.emod_nonneg _ (by omega), Int.emod_lt_of_pos _ (by omega)⟩
    have ek : k / w * w + k % w = k := by rw [Int.mul_comm]; exact Int.mul_ediv_add_emod k w
    refine Ev.bind (At_ev hl hg hx ⟨d0, d1⟩ m) (Ev.bind (At_ev hn hgn hx ⟨d0, d1⟩ m) ?_)
    rw [at12_same hg hx ⟨d0, d1⟩ m (fun j h0 h1 => hs j h0 (by omega))]
    exact Ev.fin (by simp)
  | succ d ih =>
    intro i n hd hi hn hlen hs
    refine Ev.succ ?_
    simp only [marquetrylaw12_GuessAhead.l0]
    have p2 := (good_len hg).2
    refine Ev.ite_pos (by omega) (Ev.ite_pos (by omega) ?_)
    rw [w64 (by omega) (by omega), Int.toNat_natCast]
    refine ih (i + 1) (n.set i v) (by omega) (by omega) ?_ (by rw [List.length_set]; exact hlen) ?_
    · intro x hx
      rcases List.mem_or_eq_of_mem_set hx with h | h
      · exact hn x h
      · rw [h]; exact hv
    · intro j h0 h1
      rw [← hs j h0 h1]
      unfold rd
      rw [List.getD_eq_getElem?_getD, List.getD_eq_getElem?_getD, List.getElem?_set_ne (by omega)]
theorem GuessAhead : marquetrylaw12_GuessAhead.Pure := by
  intro w h l m k v _ _ hl1 _ hl0 _ wk wv
  have hl := u32s_of hl0
  have hk := wf_u16 wk
  refine Ev.rounds (g := fun t => marquetrylaw12_GuessAhead.f t w h l m k v) ?_
  unfold marquetrylaw12_GuessAhead.f
  have skip : ∀ x, x = true → Ev (fun t => marquetrylaw12_GuessAhead.j0 t m k v x w h l) true := by
    intro x hx
    refine Ev.succ ?_
    simp only [marquetrylaw12_GuessAhead.j0, answers_eq, Option.bind_some]
    exact Ev.ite_pos hx (Ev.now _)
  simp only [good_eq, Option.bind_some]
  by_cases hg : good w h l
  · refine Ev.ite_pos (by simpa using hg) ?_
    by_cases c : (l.length : Int) > 3000
    · exact skip _ (by simpa using c)
    · refine Ev.succ ?_
      simp only [marquetrylaw12_GuessAhead.j0]
      have h1 := (good_len hg).1
      refine Ev.ite_neg (by simpa using c) (Ev.ite_neg (by omega) ?_)
      simp only [Option.bind_some]
      refine Ev.ite_pos (by simp; omega) ?_
      rw [List.nil_append, w64 (n := k) (by omega) (by omega), Int.tmod_eq_emod_of_nonneg hk.1]
      have h2 : 0 ≤ k % (l.length : Int) := Int.emod_nonneg _ (by omega)
      have h3 : k % (l.length : Int) < l.length := Int.emod_lt_of_pos _ (by omega)
      obtain ⟨q, hq⟩ := Int.eq_ofNat_of_zero_le h2
      rw [hq] at h3 ⊢
      exact ahead_loop hl hg m v q (wf_u32 wv) (by omega) h3 (l.length - q) q l (by omega) (by omega) hl rfl (fun _ _ _ => rfl)
  · exact Ev.ite_neg (by simpa using hg) (skip _ rfl)
end Go.Proofs.Ytioppjmpkdffkaa.Pure
