/- What the functions of 'value' and their references come to: each number from 1 to 2^20 is one symbol's first number and bits behind it. -/
import Derived.Test.YtmlkienikeklfaaPx
import Derived.Test.YtmlkienikeklfaaU
import Derived.Test.YtmlkienikeklfaaLen
namespace Go.Proofs.Ytmlkienikeklfaa.Pure
open Go Go.RowKit Go.Proofs.Ytmlkienikeklfaa.P Go.Proofs.YtmlkienikeklfaaW.PrintWords Go.Proofs.YtmlkienikeklfaaW.PrintLast Go.Proofs.YtmlkienikeklfaaW.PrintMore Go.Proofs.Ytmlkienikeklfaa.U

def extra (s : Int) : Int := if 4 ≤ s ∧ s ≤ 39 then s / 2 - 1 else 0
/-- A symbol's first number. -/
def first (s : Int) : Int := if s < 4 then s + 1 else (2 + s % 2) * 2 ^ (s / 2 - 1).toNat + 1
def join (s x : Int) : Int := if 0 ≤ s ∧ s ≤ 39 ∧ x < 2 ^ (extra s).toNat then first s + x else 0

theorem extra_bd (s : Int) : 0 ≤ extra s ∧ extra s ≤ 18 := by unfold extra; split <;> omega
theorem first_next (s : Int) (h0 : 0 ≤ s) (h1 : s ≤ 39) : first (s + 1) = first s + 2 ^ (extra s).toNat := by
  have H : ∀ j : Fin 40, first ((j.val : Int) + 1) = first j.val + 2 ^ (extra j.val).toNat := by decide +kernel
  have := H ⟨s.toNat, by omega⟩
  simpa [Int.toNat_of_nonneg h0] using this
theorem first_bd (s : Int) (h0 : 0 ≤ s) (h1 : s ≤ 40) : 1 ≤ first s ∧ first s ≤ 1048577 := by
  have H : ∀ j : Fin 41, 1 ≤ first j.val ∧ first j.val ≤ 1048577 := by decide +kernel
  have := H ⟨s.toNat, by omega⟩
  simpa [Int.toNat_of_nonneg h0] using this
theorem pow18 (s : Int) : 1 ≤ (2 : Int) ^ (extra s).toNat ∧ (2 : Int) ^ (extra s).toNat ≤ 262144 := by
  have h := extra_bd s
  have := pow_le (a := (extra s).toNat) (b := 18) (by omega)
  have h0 := pow_pos (extra s).toNat
  exact ⟨by omega, by simpa using this⟩
theorem first_mono (s t : Int) (h0 : 0 ≤ s) (h : s < t) (h1 : t ≤ 40) : first s + 2 ^ (extra s).toNat ≤ first t := by
  obtain ⟨d, hd⟩ : ∃ d : Nat, t = s + 1 + d := ⟨(t - s - 1).toNat, by omega⟩
  subst hd
  clear h
  induction d with
  | zero => simp only [Int.natCast_zero, Int.add_zero]; rw [first_next s h0 (by omega)]; omega
  | succ d ih =>
    have h2 := ih (by omega)
    have h3 := first_next (s + 1 + d) (by omega) (by omega)
    have h4 := pow18 (s + 1 + d)
    rw [show s + 1 + ((d + 1 : Nat) : Int) = s + 1 + d + 1 by omega, h3]
    omega
theorem uniq {s t x y : Int} (hs : 0 ≤ s ∧ s ≤ 39) (ht : 0 ≤ t ∧ t ≤ 39) (hx : 0 ≤ x ∧ x < 2 ^ (extra s).toNat) (hy : 0 ≤ y ∧ y < 2 ^ (extra t).toNat) (h : first s + x ≤ first t + y) :
    s < t ∨ s = t ∧ x ≤ y := by
  by_cases c : s < t
  · exact .inl c
  · by_cases c2 : t < s
    · have := first_mono t s (by omega) c2 (by omega)
      omega
    · obtain rfl : s = t := by omega
      exact .inr ⟨rfl, by omega⟩

theorem value_good_eq (s : Int) : value_good.f s = some (decide (0 ≤ s ∧ s ≤ 39)) := by
  unfold value_good.f
  by_cases h : s ≥ 0
  · rw [if_pos h]; congr 1; exact decide_eq_decide.2 (by omega)
  · rw [if_neg h]; congr 1; symm; exact decide_eq_false (by omega)
theorem value_Extra_eq (s : Int) : value_Extra.f s = some (extra s) := by
  unfold value_Extra.f
  rw [value_good_eq, Option.bind_some]
  by_cases h : 0 ≤ s ∧ s ≤ 39
  · rw [if_pos (by simpa using h)]
    by_cases c : s < 4
    · rw [if_pos c]; unfold extra; rw [if_neg (by omega)]
    · rw [if_neg c, Int.tdiv_eq_ediv_of_nonneg h.1, w64 (n := s / 2) (by omega) (by omega), w64 (by omega) (by omega)]
      unfold extra; rw [if_pos (by omega)]
  · rw [if_neg (by simpa using h)]; unfold extra; rw [if_neg (by omega)]
theorem ref_Extra_eq (s : Int) : marquetryref01_Extra.f s = some (extra s) := by
  unfold marquetryref01_Extra.f
  by_cases c : s < 4
  · rw [if_pos c]; unfold extra; rw [if_neg (by omega)]
  rw [if_neg c]
  by_cases c2 : s > 39
  · rw [if_pos c2]; unfold extra; rw [if_neg (by omega)]
  rw [if_neg c2, Int.tdiv_eq_ediv_of_nonneg (by omega), w64 (n := s / 2) (by omega) (by omega), w64 (by omega) (by omega)]
  unfold extra; rw [if_pos (by omega)]

theorem and1 {x : Int} (h0 : 0 ≤ x) (h1 : x ≤ 9223372036854775807) : Go.bits .and .i64 x 1 = x % 2 := by
  have := bits_mask .i64 63 (by decide) (fun n h0 h1 => wi64 (by omega) (by omega)) 1 (by decide) x h0 (by omega)
  simpa using this

theorem value_Join_ev (s x : Int) (hx : 0 ≤ x ∧ x ≤ 4294967295) : Ev (fun k => value_Join.f k s x) (join s x) := by
  unfold value_Join.f
  simp only [value_good_eq, Option.bind_some, value_Extra_eq]
  have he := extra_bd s
  have hp := pow18 s
  have bad : Ev (fun k => value_Join.j0 k s x true) 0 := by
    refine Ev.succ ?_
    simp only [value_Join.j0, if_true]
    exact Ev.now _
  by_cases h : 0 ≤ s ∧ s ≤ 39
  · refine Ev.ite_pos (by simpa using h) (Ev.ite_pos he.1 ?_)
    rw [shr_any (by simp [IntKind.bits]; omega)]
    by_cases c : x < 2 ^ (extra s).toNat
    · have e0 : x / 2 ^ (extra s).toNat = 0 := Int.ediv_eq_zero_of_lt hx.1 c
      simp only [e0, bne_self_eq_false]
      unfold join
      rw [if_pos ⟨h.1, h.2, c⟩]
      refine Ev.succ ?_
      simp only [value_Join.j0]
      refine Ev.ite_neg (by decide) ?_
      by_cases c4 : s < 4
      · refine Ev.ite_pos c4 (Ev.fin ?_)
        have : extra s = 0 := by unfold extra; rw [if_neg (by omega)]
        rw [this] at c
        simp at c
        unfold first
        rw [if_pos c4, w64 (by omega) (by omega)]; omega
      · refine Ev.ite_neg c4 ?_
        simp only [value_Extra_eq, Option.bind_some]
        refine Ev.ite_pos he.1 (Ev.fin ?_)
        rw [and1 h.1 (by omega), w64 (n := 2 + s % 2) (by omega) (by omega), shl_i64 (by omega)]
        have hm : 0 ≤ (2 + s % 2) * 2 ^ (extra s).toNat ∧ (2 + s % 2) * 2 ^ (extra s).toNat ≤ 3 * 262144 := ⟨Int.mul_nonneg (by omega) (by omega), Int.mul_le_mul (by omega) hp.2 (by omega) (by omega)⟩
        have e1 : extra s = s / 2 - 1 := by unfold extra; rw [if_pos (by omega)]
        unfold first
        rw [if_neg c4, ← e1]
        generalize (2 + s % 2) * 2 ^ (extra s).toNat = z at *
        rw [w64 (n := z) (by omega) (by omega), w64 (n := x) (by omega) (by omega), w64 (n := z + x) (by omega) (by omega), w64 (by omega) (by omega)]
        omega
    · have e0 : x / 2 ^ (extra s).toNat ≠ 0 := by
        have := (Int.le_ediv_iff_mul_le (a := 1) (b := x) (pow_pos (extra s).toNat)).2 (by omega)
        omega
      have e1 : (x / 2 ^ (extra s).toNat != 0) = true := by simpa using e0
      rw [e1]
      unfold join
      rw [if_neg (fun hh => c hh.2.2)]
      exact bad
  · unfold join
    rw [if_neg (fun hh => h ⟨hh.1, hh.2.1⟩)]
    exact Ev.ite_neg (by simpa using h) bad

theorem ref_Join_loop (s x : Int) (hs : 0 ≤ s ∧ s ≤ 39) (hx : 0 ≤ x ∧ x ≤ 4294967295) (d : Nat) : ∀ i : Int, 0 ≤ i → i + d = s →
    Ev (fun k => marquetryref01_Join.l0 k s x (first i) i) (first s + x) := by
  induction d with
  | zero =>
    intro i h0 hd
    obtain rfl : i = s := by omega
    refine Ev.succ ?_
    simp only [marquetryref01_Join.l0]
    have hf := first_bd i (by omega) (by omega)
    refine Ev.ite_neg (by omega) (Ev.fin ?_)
    rw [w64 (n := x) (by omega) (by omega), w64 (by omega) (by omega)]
  | succ d ih =>
    intro i h0 hd
    refine Ev.succ ?_
    simp only [marquetryref01_Join.l0, ref_Extra_eq, Option.bind_some]
    have hf := first_bd i (by omega) (by omega)
    have he := extra_bd i
    have hp := pow18 i
    have hn := first_next i h0 (by omega)
    rw [wu64 (n := extra i) (by omega) (by omega)]
    refine Ev.ite_pos (by omega) (Ev.ite_pos he.1 ?_)
    rw [shl_i64 (by omega), Int.one_mul, w64 (n := 2 ^ _) (by omega) (by omega), w64 (n := first i + _) (by omega) (by omega), w64 (by omega) (by omega), ← hn]
    exact ih (i + 1) (by omega) (by omega)

theorem ref_Join_ev (s x : Int) (hx : 0 ≤ x ∧ x ≤ 4294967295) : Ev (fun k => marquetryref01_Join.f k s x) (join s x) := by
  unfold marquetryref01_Join.f
  have he := extra_bd s
  have hp := pow18 s
  have bad : Ev (fun k => marquetryref01_Join.j0 k s x true) 0 := by
    refine Ev.succ ?_
    simp only [marquetryref01_Join.j0, if_true]
    exact Ev.now _
  unfold join
  by_cases h1 : s < 0
  · rw [if_neg (by omega)]; exact Ev.ite_pos h1 bad
  refine Ev.ite_neg h1 ?_
  by_cases h2 : s > 39
  · rw [if_neg (by omega)]; exact Ev.ite_pos h2 bad
  refine Ev.ite_neg h2 ?_
  simp only [ref_Extra_eq, Option.bind_some]
  rw [wu64 (n := extra s) (by omega) (by omega), wu64 (n := x) (by omega) (by omega), shl_u64 (by omega), Int.one_mul, Int.emod_eq_of_lt (by omega) (by omega)]
  refine Ev.ite_pos he.1 ?_
  by_cases c : x < 2 ^ (extra s).toNat
  · rw [if_pos ⟨by omega, by omega, c⟩]
    have : decide (x ≥ 2 ^ (extra s).toNat) = false := decide_eq_false (by omega)
    rw [this]
    refine Ev.succ ?_
    simp only [marquetryref01_Join.j0]
    refine Ev.ite_neg (by decide) ?_
    exact ref_Join_loop s x ⟨by omega, by omega⟩ hx s.toNat 0 (by omega) (by omega)
  · rw [if_neg (fun hh => c hh.2.2)]
    have : decide (x ≥ 2 ^ (extra s).toNat) = true := decide_eq_true (by omega)
    rw [this]
    exact bad

theorem mask_u32 {x : Int} {i : Nat} (hi : i ≤ 32) (h0 : 0 ≤ x) (h1 : x ≤ 4294967295) : Go.bits .and .u32 x (2 ^ i - 1) = x % 2 ^ i :=
  bits_mask .u32 32 (by decide) (fun n h0 h1 => by rw [IntKind.wrap_u32]; omega) i hi x h0 (by omega)

/-- What Split tells. -/
theorem value_Split_ev (n : Int) (h0 : 1 ≤ n) (h1 : n ≤ 1048576) : ∃ s x, Ev (fun k => value_Split.f k n) (s, extra s, x) ∧ (0 ≤ s ∧ s ≤ 39) ∧ (0 ≤ x ∧ x < 2 ^ (extra s).toNat) ∧ n = first s + x := by
  unfold value_Split.f
  by_cases c4 : n ≤ 4
  · refine ⟨n - 1, 0, ?_, by omega, ?_, ?_⟩
    · refine Ev.ite_neg (by omega) ?_
      rw [decide_eq_false (by omega)]
      refine Ev.succ ?_
      simp only [value_Split.j0]
      refine Ev.ite_neg (by decide) (Ev.ite_pos c4 (Ev.fin ?_))
      rw [w64 (by omega) (by omega)]
      have : extra (n - 1) = 0 := by unfold extra; rw [if_neg (by omega)]
      rw [this]
    · have := pow18 (n - 1); omega
    · unfold first; rw [if_pos (by omega)]; omega
  obtain ⟨r, hr, he⟩ := len64_ev (n - 1) (by omega) (by omega)
  have r3 : ¬ r ≤ (2 : Nat) := fun h => by have := (hr.2.2 2).1 h; simp at this; omega
  have r20 : r ≤ (20 : Nat) := (hr.2.2 20).2 (by simp; omega)
  have hlt := (hr.2.2 r.toNat).1 (by omega)
  have hge : ¬ n - 1 < 2 ^ (r.toNat - 1) := fun h => by have := (hr.2.2 (r.toNat - 1)).2 h; omega
  obtain ⟨e, rfl⟩ : ∃ e : Nat, r = e + 2 := ⟨(r - 2).toNat, by omega⟩
  rw [show ((e : Int) + 2).toNat = e + 1 + 1 by omega, Int.pow_succ, Int.pow_succ] at hlt
  rw [show ((e : Int) + 2).toNat - 1 = e + 1 by omega, Int.pow_succ] at hge
  have hp := pow_pos e
  have hp18 := pow_le (a := e) (b := 18) (by omega)
  have dv := Int.mul_ediv_add_emod (n - 1) (2 ^ e)
  have m0 := Int.emod_nonneg (n - 1) (b := 2 ^ e) (by omega)
  have m1 := Int.emod_lt_of_pos (n - 1) hp
  have q2 : 2 ≤ (n - 1) / 2 ^ e := (Int.le_ediv_iff_mul_le hp).2 (by omega)
  have q3 : (n - 1) / 2 ^ e < 4 := Int.ediv_lt_of_lt_mul hp (by omega)
  have e1 : extra (2 * ((e : Int) + 1) + ((n - 1) / 2 ^ e - 2)) = e := by unfold extra; rw [if_pos (by omega)]; omega
  refine ⟨2 * ((e : Int) + 1) + ((n - 1) / 2 ^ e - 2), (n - 1) % 2 ^ e, ?_, by omega, by rw [e1]; exact ⟨m0, m1⟩, ?_⟩
  · refine Ev.ite_neg (by omega) ?_
    rw [decide_eq_false (by omega)]
    refine Ev.succ ?_
    simp only [value_Split.j0]
    refine Ev.ite_neg (by decide) (Ev.ite_neg c4 ?_)
    rw [w64 (n := n - 1) (by omega) (by omega), wu64 (by omega) (by omega)]
    unfold bits_Len.f
    refine Ev.bind (a := (e : Int) + 2) (Ev.bind he (Ev.now _)) ?_
    rw [w64 (n := (e : Int) + 2 - 1) (by omega) (by omega), w64 (n := (e : Int) + 2 - 1 - 1) (by omega) (by omega), show (e : Int) + 2 - 1 - 1 = e by omega]
    refine Ev.ite_pos (by omega) (Ev.fin ?_)
    rw [e1, shr_any (by simp [IntKind.bits]; omega), shl_u32 (by omega), Int.toNat_natCast, Int.one_mul, and1 (by omega) (by omega)]
    rw [Int.emod_eq_of_lt (a := 2 ^ e) (by omega) (by simp at hp18; omega), Int.emod_eq_of_lt (a := 2 ^ e - 1) (by omega) (by simp at hp18; omega), Int.emod_eq_of_lt (a := n - 1) (by omega) (by omega), mask_u32 (by omega) (by omega) (by omega)]
    rw [w64 (n := 2 * _) (by omega) (by omega), w64 (by omega) (by omega)]
    congr 1
    omega
  · unfold first
    rw [if_neg (by omega), show (2 * ((e : Int) + 1) + ((n - 1) / 2 ^ e - 2)) / 2 - 1 = e by omega, Int.toNat_natCast, show 2 + (2 * ((e : Int) + 1) + ((n - 1) / 2 ^ e - 2)) % 2 = (n - 1) / 2 ^ e by omega, Int.mul_comm]
    omega
theorem value_Split_bad (n : Int) (h : n < 1 ∨ n > 1048576) : Ev (fun k => value_Split.f k n) (0, 0, 0) := by
  unfold value_Split.f
  have bad : Ev (fun k => value_Split.j0 k n true) (0, 0, 0) := by
    refine Ev.succ ?_
    simp only [value_Split.j0, if_true]
    exact Ev.now _
  by_cases c : n < 1
  · exact Ev.ite_pos c bad
  · refine Ev.ite_neg c ?_
    rw [decide_eq_true (by omega)]
    exact bad
theorem split_of {n s x : Int} (hs : 0 ≤ s ∧ s ≤ 39) (hx : 0 ≤ x ∧ x < 2 ^ (extra s).toNat) (hn : n = first s + x) (h1 : n ≤ 1048576) : Ev (fun k => value_Split.f k n) (s, extra s, x) := by
  have hf := first_bd s hs.1 (by omega)
  obtain ⟨t, y, he, ht, hy, e⟩ := value_Split_ev n (by omega) h1
  have u1 := uniq hs ht hx hy (by omega)
  have u2 := uniq ht hs hy hx (by omega)
  obtain rfl : s = t := by omega
  obtain rfl : x = y := by omega
  exact he

theorem answers_ev : Ev (fun k => marquetrylaw08_answers.f k) true := by
  unfold marquetrylaw08_answers.f
  refine Ev.bind (split_of (n := 5) (s := 4) (x := 0) (by omega) (by decide) (by decide) (by decide)) ?_
  have e : extra 4 = 1 := by decide
  simp only [e, if_true]
  refine Ev.bind (value_Join_ev 4 1 (by omega)) ?_
  exact Ev.fin (by decide)
end Go.Proofs.Ytmlkienikeklfaa.Pure
