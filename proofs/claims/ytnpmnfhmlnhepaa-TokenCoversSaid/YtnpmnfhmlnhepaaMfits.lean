/- Does a span tell just what is there? -/
import Derived.Test.YtnpmnfhmlnhepaaPxA
import Derived.Test.YtnpmnfhmlnhepaaSl
import Derived.Test.YtnpmnfhmlnhepaaU
namespace Go.Proofs.Ytnpmnfhmlnhepaa.P
open Go Go.RowKit Go.Proofs.YtnpmnfhmlnhepaaW.PrintWords Go.Proofs.YtnpmnfhmlnhepaaW.PrintLast Go.Proofs.YtnpmnfhmlnhepaaW.PrintMore Go.Proofs.Ytnpmnfhmlnhepaa.U
set_option linter.unusedVariables false
set_option linter.unusedSimpArgs false
attribute [local go_sem] max2_int min2_int max_two min_two max_three min_three max_four min_four
def cutL (l : List Int) (o n : Nat) : List Int := (l.drop o).take n
theorem cutL_len {l : List Int} {o n : Nat} (h : o + n ≤ l.length) : (cutL l o n).length = n := by unfold cutL; rw [List.length_take, List.length_drop]; omega
theorem rd_nat' {l : List Int} {i : Nat} (h : i < l.length) : rd l (i : Int) = l[i] := by
  unfold rd
  rw [show ((i : Int)).toNat = i by omega, List.getD_eq_getElem?_getD, List.getElem?_eq_getElem h]
  rfl
theorem rd_cutL {l : List Int} {o n i : Nat} (h : o + n ≤ l.length) (hi : i < n) : rd (cutL l o n) i = rd l ((o + i : Nat) : Int) := by
  rw [rd_nat' (by rw [cutL_len h]; exact hi), rd_nat' (by omega)]
  unfold cutL
  rw [List.getElem_take, List.getElem_drop]
theorem ints_C {w : World} {k : IntKind} {A : Option Addr} {n : Nat} {xs : List Int} (h : ReadsInt w k A n xs) : Kd.C (Kd.int k) w A n xs := Kd.C_of_reads (readsInt_of.1 h)
theorem C_cutL {w : World} {k : IntKind} {ad : Addr} {l : List Int} {o n : Nat} (h : Kd.C (Kd.int k) w (some ad) l.length l) (hf : o + n ≤ l.length) : Kd.C (Kd.int k) w (some (ad.add o)) (cutL l o n).length (cutL l o n) := by
  have hm := h.2.1
  refine ints_C ⟨rfl, by rw [cutL_len hf]; omega, fun hn => ⟨_, rfl, fun j hj => ?_⟩⟩
  rw [cutL_len hf] at hj
  obtain ⟨ad', he, hc⟩ := (C_reads h).2.2 (by omega)
  injection he with he
  subst he
  have e : (ad.add o).add j = ad.add (o + j) := Addr.add_add ..
  have h1 := hc (o + j) (by omega)
  have h2 : (cutL l o n)[j]? = l[o + j]? := by unfold cutL; rw [List.getElem?_take_of_lt hj, List.getElem?_drop]
  rw [e]
  first
    | (rw [h1]; congr 2; rw [List.getD_eq_getElem?_getD, List.getD_eq_getElem?_getD, h2])
    | (rw [h1, rd_cutL hf hj])
/-- A span that tells what is there. -/
def fitsP (l : List Int) (at_ n dist : Int) : Prop :=
  (1 ≤ n ∧ n ≤ 4096 ∧ 1 ≤ dist ∧ dist ≤ at_ ∧ dist ≤ 1048456 ∧ at_ ≤ l.length - n) ∧ cutL l at_.toNat n.toNat = cutL l (at_ - dist).toNat n.toNat
instance (l : List Int) (a n d : Int) : Decidable (fitsP l a n d) := by unfold fitsP; infer_instance
theorem equal_loop {a b : List Int} (hl : a.length = b.length) (hm : a.length ≤ 9223372036854775807) (d : Nat) : ∀ i : Nat, i + d = a.length → a.take i = b.take i → Ev (fun k => slices_Equal_uint32_uint32.l0 k a b a.length i) (decide (a = b)) := by
  induction d with
  | zero =>
    intro i hd he
    refine Ev.succ ?_
    simp only [slices_Equal_uint32_uint32.l0]
    refine Ev.ite_neg (by omega) (Ev.fin ?_)
    rw [List.take_of_length_le (by omega), List.take_of_length_le (by omega)] at he
    exact (decide_eq_true he).symm
  | succ d ih =>
    intro i hd he
    refine Ev.succ ?_
    simp only [slices_Equal_uint32_uint32.l0]
    refine Ev.ite_pos (by omega) (Ev.ite_pos (by omega) (Ev.ite_pos (by omega) (Ev.ite_pos (by omega) ?_)))
    have ha : i < a.length := by omega
    have hb : i < b.length := by omega
    by_cases c : rd a i = rd b i
    · refine Ev.ite_pos c ?_
      rw [w64 (by omega) (by omega)]
      refine ih (i + 1) (by omega) ?_
      rw [rd_nat' ha, rd_nat' hb] at c
      rw [List.take_succ_eq_append_getElem ha, List.take_succ_eq_append_getElem hb, he, c]
    · refine Ev.ite_neg c (Ev.fin ?_)
      exact (decide_eq_false fun h => c (by rw [h])).symm
theorem equal_ev {a b : List Int} (hm : a.length ≤ 9223372036854775807) : Ev (fun k => slices_Equal_uint32_uint32.f k a b) (decide (a = b)) := by
  unfold slices_Equal_uint32_uint32.f
  by_cases c : (a.length : Int) = b.length
  · exact Ev.ite_pos c (equal_loop (by omega) hm a.length 0 (Nat.zero_add _) rfl)
  · exact Ev.ite_neg c (Ev.fin (decide_eq_false fun h => c (by rw [h])).symm)
theorem fits_sums {a m b c L : Nat} {dist : Int} (hb : (a : Int) - dist = b) (h1 : 1 ≤ m) (h2 : m ≤ 4096) (h3 : a + m ≤ L) (h4 : b ≤ a) (hL : L ≤ c) (hm : L ≤ 9223372036854775807) :
    wrap64 ((a : Int) + m) = (a : Int) + m ∧ wrap64 ((a : Int) - dist) = (b : Int) ∧ wrap64 ((b : Int) + m) = (b : Int) + m ∧ ((a : Int) ≤ (a : Int) + m ∧ (a : Int) + m ≤ c ∧ ((a : Int) + m).toNat = a + m ∧ ¬ c = a) ∧ ((b : Int) ≤ (b : Int) + m ∧ (b : Int) + m ≤ c ∧ ((b : Int) + m).toNat = b + m ∧ ¬ c = b) ∧ (a : Int) + m ≤ L ∧ (b : Int) + m ≤ L := by
  refine ⟨w64 (by omega) (by omega), by rw [hb]; exact w64 (by omega) (by omega), w64 (by omega) (by omega), ⟨by omega, by omega, by omega, by omega⟩, ⟨by omega, by omega, by omega, by omega⟩, by omega, by omega⟩
theorem quiet_drawn {P : Program} {f : FuncId} {args : Array Value} {w : World} {n : Nat} {v : Value} (h : Calls P f args (w.drewN n) fun e w' => e = .returned v ∧ Drawn0 (w.drewN n) w') : Calls P f args (w.drewN n) fun e w' => e = .returned v ∧ ∃ m, w' = w.drewN m := by
  refine h.mono fun e w' ⟨he, hd⟩ => ⟨he, ?_⟩
  obtain ⟨m, rfl⟩ := hd.out
  exact ⟨n + m, by first | rfl | simp⟩
set_option maxHeartbeats 4000000 in
set_option maxRecDepth 100000 in
theorem fitsP_calls (A : Option Addr) (c : Nat) (l : List Int) (at_ n dist : Int) (w : World) (hr : Kd.C (Kd.int .u32) w A l.length l) (hc : l.length ≤ c) :
    Calls Try.prog 26 #[.slice A l.length c, .agg #[.int .i64 at_, .int .i64 n, .int .i64 dist]] w fun e w' => e = .returned (.bool (decide (fitsP l at_ n dist))) ∧ Below w.heap.size w w' := by
  have hm := hr.2.1
  have hs := (St.refl w).alloc #[.int .i64 at_, .int .i64 n, .int .i64 dist] 45
  have HB := Aside0.mk hs.below
  have m0 := (hs.cell 0).trans rfl
  have m1 := (hs.cell 1).trans rfl
  have m2 := (hs.cell 2).trans rfl
  have HR := Aside0.mk (Kd.C_below hr hs.below)
  clear hs hr
  by_cases c1 : n < 1
  · rw [decide_eq_false (fun h : fitsP l at_ n dist => by have := h.1.1; omega)]
    have t1 : decide (n < 1) = true := decide_eq_true c1
    clear c1
    go_enter Try.func26, Try.ntmps26
    go_wp2_with fail
    go_ret
    exact ⟨rfl, HB.out⟩
  have t1 : decide (n < 1) = false := decide_eq_false c1
  by_cases c2 : n > 4096
  · rw [decide_eq_false (fun h : fitsP l at_ n dist => by have := h.1.2.1; omega)]
    have t2 : decide (4096 < n) = true := decide_eq_true c2
    clear c1 c2
    go_enter Try.func26, Try.ntmps26
    go_wp2_with fail
    go_ret
    exact ⟨rfl, HB.out⟩
  have t2 : decide (4096 < n) = false := decide_eq_false c2
  by_cases c3 : dist < 1
  · rw [decide_eq_false (fun h : fitsP l at_ n dist => by have := h.1.2.2.1; omega)]
    have t3 : decide (dist < 1) = true := decide_eq_true c3
    clear c1 c2 c3
    go_enter Try.func26, Try.ntmps26
    go_wp2_with fail
    go_ret
    exact ⟨rfl, HB.out⟩
  have t3 : decide (dist < 1) = false := decide_eq_false c3
  by_cases c4 : dist > at_
  · rw [decide_eq_false (fun h : fitsP l at_ n dist => by have := h.1.2.2.2.1; omega)]
    have t4 : decide (at_ < dist) = true := decide_eq_true c4
    clear c1 c2 c3 c4
    go_enter Try.func26, Try.ntmps26
    go_wp2_with fail
    go_ret
    exact ⟨rfl, HB.out⟩
  have t4 : decide (at_ < dist) = false := decide_eq_false c4
  by_cases c5 : dist > 1048456
  · rw [decide_eq_false (fun h : fitsP l at_ n dist => by have := h.1.2.2.2.2.1; omega)]
    have t5 : decide (1048456 < dist) = true := decide_eq_true c5
    clear c1 c2 c3 c4 c5
    go_enter Try.func26, Try.ntmps26
    go_wp2_with fail
    go_ret
    exact ⟨rfl, HB.out⟩
  have t5 : decide (1048456 < dist) = false := decide_eq_false c5
  have e1 : wrap64 ((l.length : Int) - n) = l.length - n := w64 (by omega) (by omega)
  have f1 := i64_w ((l.length : Int) - n); rw [e1] at f1
  by_cases c6 : at_ > l.length - n
  · rw [decide_eq_false (fun h : fitsP l at_ n dist => by have := h.1.2.2.2.2.2; omega)]
    have t6 : decide ((l.length : Int) - n < at_) = true := decide_eq_true c6
    clear c1 c2 c3 c4 c5 c6
    go_enter Try.func26, Try.ntmps26
    go_wp2_with fail
    go_ret
    exact ⟨rfl, HB.out⟩
  have t6 : decide ((l.length : Int) - n < at_) = false := decide_eq_false c6
  obtain ⟨m, rfl⟩ := Int.eq_ofNat_of_zero_le (show 0 ≤ n by omega)
  obtain ⟨a, rfl⟩ := Int.eq_ofNat_of_zero_le (show 0 ≤ at_ by omega)
  obtain ⟨b, hb⟩ := Int.eq_ofNat_of_zero_le (show 0 ≤ (a : Int) - dist by omega)
  obtain ⟨ad, rfl, _⟩ := HR.out.2.2 (by omega)
  have hfit1 : a + m ≤ l.length := by omega
  have hfit2 : b + m ≤ l.length := by omega
  have hres : decide (fitsP l a m dist) = decide (cutL l a m = cutL l b m) := by
    have e : ((a : Int) - dist).toNat = b := by omega
    by_cases c7 : cutL l a m = cutL l b m
    · rw [decide_eq_true c7, decide_eq_true (show fitsP l a m dist from ⟨⟨by omega, by omega, by omega, by omega, by omega, by omega⟩, by rw [e]; simpa using c7⟩)]
    · rw [decide_eq_false c7, decide_eq_false (fun h : fitsP l a m dist => c7 (by have := h.2; rw [e] at this; simpa using this))]
  rw [hres]
  obtain ⟨k, hk⟩ := (equal_ev (a := cutL l a m) (b := cutL l b m) (by rw [cutL_len hfit1]; omega)).rounds
  have HK := Aside0.mk (fun W (hC1 : Kd.C (Kd.int .u32) W (some (ad.add a)) (cutL l a m).length (cutL l a m)) (hC2 : Kd.C (Kd.int .u32) W (some (ad.add b)) (cutL l b m).length (cutL l b m)) => slices_Equal_uint32_uint32.calls k (some (ad.add a)) (c - a) (cutL l a m) (some (ad.add b)) (c - b) (cutL l b m) _ W hC1 (by rw [cutL_len hfit1]; omega) hC2 (by rw [cutL_len hfit2]; omega) hk)
  rw [cutL_len hfit1, cutL_len hfit2] at HK
  have HC1 := Aside0.mk (fun W (hB : Kd.C (Kd.int .u32) W (some ad) l.length l) => C_cutL (o := a) hB hfit1)
  have HC2 := Aside0.mk (fun W (hB : Kd.C (Kd.int .u32) W (some ad) l.length l) => C_cutL (o := b) hB hfit2)
  rw [cutL_len hfit1] at HC1
  rw [cutL_len hfit2] at HC2
  obtain ⟨a1, a2, a3, ⟨g1, g2, g3, g4⟩, ⟨g5, g6, g7, g8⟩, g9, g10⟩ := fits_sums (c := c) hb (show 1 ≤ m by omega) (by omega) hfit1 (by omega) hc hm
  have b1 := i64_w ((a : Int) + m); rw [a1] at b1
  have b2 := i64_w ((a : Int) - dist); rw [a2] at b2
  have b3 := i64_w ((b : Int) + m); rw [a3] at b3
  clear c1 c2 c3 c4 c5 c6 hb hres hk hm
  go_enter Try.func26, Try.ntmps26
  go_wp2_with fail
  generalize w.alloc (.cells #[.int .i64 a, .int .i64 m, .int .i64 dist] 45) = W1 at *
  go_quiet (first | (go_at_call 36; with_reducible exact quiet_drawn (HK.out _ (HC1.out _ (Kd.C_drewN HR.out _)) (HC2.out _ (Kd.C_drewN HR.out _)))))
  go_wp2_with fail
  go_ret
  exact ⟨rfl, pw_below_drewN HB.out _⟩
end Go.Proofs.Ytnpmnfhmlnhepaa.P
