/- Chunks laid one behind the other are the bytes of both; each has an even number of bytes; a name that may not be is told. -/
import Derived.Test.YtfbkbbognabkkaaChunk4
import Derived.Test.YtfbkbbognabkkaaMark
import Derived.Lib.Hide
namespace Go.Proofs.Ytfbkbbognabkkaa.Pure
open Go Go.RowKit Go.Proofs.Ytfbkbbognabkkaa.P Go.Proofs.YtfbkbbognabkkaaW.PrintWords Go.Proofs.YtfbkbbognabkkaaW.PrintLast Go.Proofs.YtfbkbbognabkkaaW.PrintMore Go.Proofs.Ytfbkbbognabkkaa.U
set_option linter.unusedVariables false
set_option linter.unusedSimpArgs false
attribute [local go_sem] max2_int min2_int max_two min_two max_three min_three max_four min_four
theorem small_calls {A : Option Addr} {c : Nat} {l : List Ch} {w : World} (hf : Fine l) (g0 : Kd.C k35 w A l.length l) (l0 : l.length ≤ c) :
    Calls Try.prog 14 #[.slice A l.length c] w fun e w' => e = .returned (.bool (small l)) ∧ Drawn0 w w' := by
  obtain ⟨k, hk⟩ := (small_ev hf).rounds
  exact marquetrylaw24_small.calls k A c l _ w g0 l0 hk
theorem Lay_calls {A : Option Addr} {c : Nat} {l : List Ch} {x : List Int} {e : Int} {w : World} (hs : l.length + weight l < 20000) (hx : laid l = (x, e)) (g0 : Kd.C k35 w A l.length l) (l0 : l.length ≤ c) :
    Calls Try.prog 16 #[.slice A l.length c] w fun e_ w' => ∃ v : Value, e_ = .returned (.tuple #[v, .int .i64 e]) ∧ Kd.R (Kd.int .u8) 5 w' w.heap.size (fun _ => True) v x ∧ Below w.heap.size w w' := by
  obtain ⟨k, hk⟩ := (chunk_Lay_ev hs).rounds
  rw [hx] at hk
  exact chunk_Lay.calls k A c l _ _ w g0 l0 hk
theorem laid_append (a b : List Ch) : laid (a ++ b) = if (laid a).2 = 0 ∧ (laid b).2 = 0 then ((laid a).1 ++ (laid b).1, 0) else ([], 7) := by
  have h : ok (a ++ b) ↔ ok a ∧ ok b := by
    unfold ok
    constructor
    · exact fun h => ⟨fun x hx => h x (List.mem_append_left _ hx), fun x hx => h x (List.mem_append_right _ hx)⟩
    · rintro ⟨h1, h2⟩ x hx
      rcases List.mem_append.1 hx with h | h
      · exact h1 x h
      · exact h2 x h
  unfold laid
  by_cases ca : ok a <;> by_cases cb : ok b
  · rw [if_pos (h.2 ⟨ca, cb⟩), if_pos ca, if_pos cb, lay_append]; rfl
  · rw [if_neg (fun x => cb (h.1 x).2), if_pos ca, if_neg cb]; rfl
  · rw [if_neg (fun x => ca (h.1 x).1), if_neg ca, if_pos cb]; rfl
  · rw [if_neg (fun x => ca (h.1 x).1), if_neg ca, if_neg cb]; rfl
set_option maxHeartbeats 800000 in
set_option maxRecDepth 100000 in
theorem ChunkJoins (A : Option Addr) (c : Nat) (a : List Ch) (A2 : Option Addr) (c2 : Nat) (b : List Ch) (w : World)
    (h1 : a.length ≤ maxLen) (h2 : a.length * 40 ≤ 140737488351232) (h3 : ∀ y ∈ a, q35 y) (h4 : b.length ≤ maxLen) (h5 : b.length * 40 ≤ 140737488351232) (h6 : ∀ y ∈ b, q35 y)
    (g0 : Kd.C k35 w A a.length a) (l0 : a.length ≤ c) (g2 : Kd.C k35 w A2 b.length b) (l2 : b.length ≤ c2) :
    Calls Try.prog 6 #[.slice A a.length c, .slice A2 b.length c2] w fun e w' => e = .returned (.bool true) ∧ Below w.heap.size w w' := by
  have hfa := fine_of h2 h3
  have hfb := fine_of h5 h6
  clear h1 h2 h3 h4 h5 h6
  have G0 := Aside0.mk g0; clear g0
  have G2 := Aside0.mk g2; clear g2
  have FA := Aside0.mk hfa; clear hfa
  have FB := Aside0.mk hfb; clear hfb
  have L0 := Aside0.mk l0; clear l0
  have L2 := Aside0.mk l2; clear l2
  by_cases ca : small a = true
  case neg =>
    have ca' : small a = false := by simpa using ca
    clear ca
    go_enter Try.func6, Try.ntmps6
    go_wp2_with fail
    refine (small_calls FA.out G0.out L0.out).mono ?_; rintro e w1 ⟨rfl, ⟨nd, rfl⟩⟩
    rw [ca']
    go_wp2_with fail
    refine (marquetrylaw24_answers.calls true _ rfl).mono ?_; rintro e w2 ⟨rfl, hb⟩
    have HB := Aside0.mk (below_then (pw_below_drewN (Below.refl _ _) nd) (Nat.le_refl _) hb); clear hb
    go_wp2_with fail
    go_ret
    exact ⟨rfl, HB.out⟩
  by_cases cb : small b = true
  case neg =>
    have cb' : small b = false := by simpa using cb
    clear cb
    go_enter Try.func6, Try.ntmps6
    go_wp2_with fail
    refine (small_calls FA.out G0.out L0.out).mono ?_; rintro e w1 ⟨rfl, ⟨nd, rfl⟩⟩
    rw [ca]
    go_wp2_with fail
    refine (small_calls FB.out (Kd.C_drewN G2.out nd) L2.out).mono ?_; rintro e w1 ⟨rfl, ⟨nd2, rfl⟩⟩
    rw [cb']
    go_wp2_with fail
    refine (marquetrylaw24_answers.calls true _ rfl).mono ?_; rintro e w2 ⟨rfl, hb⟩
    have HB := Aside0.mk (below_then (pw_below_drewN (Below.refl _ _) (nd + nd2)) (Nat.le_refl _) hb); clear hb
    go_wp2_with fail
    go_ret
    exact ⟨rfl, HB.out⟩
  have CA := Aside0.mk ca; clear ca
  have CB := Aside0.mk cb; clear cb
  have SA := Aside0.mk (small_iff.1 CA.out)
  have SB := Aside0.mk (small_iff.1 CB.out)
  go_enter Try.func6, Try.ntmps6
  go_wp2_with fail
  refine (small_calls FA.out G0.out L0.out).mono ?_; rintro e w1 ⟨rfl, ⟨nd, rfl⟩⟩
  rw [CA.out]
  go_wp2_with fail
  refine (small_calls FB.out (Kd.C_drewN G2.out nd) L2.out).mono ?_; rintro e w1 ⟨rfl, ⟨nd2, rfl⟩⟩
  rw [CB.out]
  obtain ⟨xa, ea, hxa⟩ : ∃ x e, laid a = (x, e) := ⟨_, _, rfl⟩
  obtain ⟨xb, eb, hxb⟩ : ∃ x e, laid b = (x, e) := ⟨_, _, rfl⟩
  have hxc := laid_append a b
  rw [hxa, hxb] at hxc
  simp only at hxc
  have HA := Aside0.mk hxa; clear hxa
  have HBx := Aside0.mk hxb; clear hxb
  have HCx := Aside0.mk hxc; clear hxc
  have HB := Aside0.mk (pw_below_drewN (pw_below_drewN (Below.refl w.heap.size w) nd) nd2)
  have HS := Aside0.mk (St.belowR (St.refl w) HB.out)
  generalize (w.drewN nd).drewN nd2 = W at *
  go_wp2_with fail
  refine (Lay_calls (by have := SA.out; omega) HA.out (Kd.C_below G0.out HB.out) L0.out).mono ?_; rintro e w1 ⟨v, rfl, ho, hb⟩
  have hs1 := HS.out.newRow hb (Kd.own_of_R ho) (Nat.le_refl _)
  obtain ⟨X, cx, rfl⟩ := Kd.R_slice ho
  have HS1 := Aside0.mk hs1; clear hs1 hb ho HS HB
  go_wp2_with fail
  refine (Lay_calls (by have := SB.out; omega) HBx.out (Kd.C_below G2.out HS1.out.below) L2.out).mono ?_; rintro e w2 ⟨v, rfl, ho, hb⟩
  have hs1 := HS1.out.newRow hb (Kd.own_of_R ho) (Nat.le_refl _)
  obtain ⟨Y, cy, rfl⟩ := Kd.R_slice ho
  have HS2 := Aside0.mk hs1; clear hs1 hb ho HS1
  have HB2 := Aside0.mk HS2.out.below
  have C0 := Aside0.mk (Kd.C_below G0.out HS2.out.below); clear G0
  have C2 := Aside0.mk (Kd.C_below G2.out HS2.out.below); clear G2
  have TA : a.length < 5000 := by have := SA.out; omega
  have TB : b.length < 5000 := by have := SB.out; omega
  have TA := Aside0.mk TA
  have TB := Aside0.mk TB
  go_wp2_with (first
    | ((with_reducible refine gate_dst (N := 31) rfl ?_); refine Kd.N_lit k35 w2.heap.size 35 ?hg (N' := 31) ?hd (xs := []) (inner := []) (ok := fun _ => True) (okp := fun _ => True) ?hr ?hp (fun _ hk => hk) trivial (Below.refl _ _) (Nat.le_refl _) (by simp) ?_; (case hd => rfl); (case hg => rfl); (case hr => first | (go_simp; done) | (go_simp; rfl)); (case hp => exact Reps.none _ _); intro v3 w3 hN hb hg_ hnew_; clear hg_; have HN3 := Aside0.mk hN; have HB3 := Aside0.mk hb; have HW3 := Aside0.mk hnew_; clear hN hb hnew_)
    | ((with_reducible refine gate_builtin (b := .append) (xs := #[.tmp 31, .tmp 32]) rfl ?_); at_builtin; refine Kd.N_append_rows k35 (w0 := w2) w2.heap.size rfl (.tmp 31) (.tmp 32) 24 35 _ 40 rfl Try.underlying24 info35 rfl (by decide) (by omega) v3 [] a A a.length c (fun _ => True) (fun k => k < w2.heap.size) rfl rfl HN3.out (Kd.F_below (Kd.C_F k35_heap C0.out) HB3.out) (fun k hk => ⟨trivial, by obtain ⟨b, hb, hle⟩ := HW3.out; rw [hb]; intro e; injection e with e; omega⟩) (fun _ _ => trivial) HB3.out HB3.out.size (by have := TA.out; simp only [List.length_nil]; omega) ?_; intro v4 w4 hN hb hg_ hat; have HW4 := Aside0.mk (show ∃ b, v4.ownBlock = some b ∧ w2.heap.size ≤ b from hat.elim (fun e => by obtain ⟨b, hb, hle⟩ := HW3.out; exact ⟨b, e.trans hb, hle⟩) (fun ⟨b, e, hle⟩ => ⟨b, e, Nat.le_trans HB3.out.size hle⟩)); rw [List.nil_append] at hN; have HN4 := Aside0.mk hN; have HB4 := Aside0.mk hb; clear hN hb hat hg_)
    | ((with_reducible refine gate_builtin (b := .append) (xs := #[.tmp 33, .tmp 34]) rfl ?_); at_builtin; refine Kd.N_append_rows k35 (w0 := w2) w2.heap.size rfl (.tmp 33) (.tmp 34) 24 35 _ 40 rfl Try.underlying24 info35 rfl (by decide) (by omega) v4 a b A2 b.length c2 (fun _ => True) (fun k => k < w2.heap.size) rfl rfl HN4.out (Kd.F_below (Kd.C_F k35_heap C2.out) HB4.out) (fun k hk => ⟨trivial, by obtain ⟨b, hb, hle⟩ := HW4.out; rw [hb]; intro e; injection e with e; omega⟩) (fun _ _ => trivial) HB4.out HB4.out.size (by have := TA.out; have := TB.out; omega) ?_; intro v5 w5 hN hb hg_ hat; have HN5 := Aside0.mk hN; have HB5 := Aside0.mk hb; clear hN hb hat hg_; obtain ⟨Z, cz, ez⟩ := Kd.N_slice HN5.out; subst ez))
  have hN := Kd.N_reads' HN5.out
  have HN := Aside0.mk hN; clear hN
  have hs5 := HS2.out.belowR HB5.out
  have HS5 := Aside0.mk hs5; clear hs5 HN3 HN4 HN5 HB3 HB4 HB5 HW3 HW4 C0 C2 HB2 HS2
  have hw : (a ++ b).length + weight (a ++ b) < 20000 := by have h1 := SA.out; have h2 := SB.out; rw [List.length_append, weight_append]; omega
  have WW := Aside0.mk hw; clear hw
  rw [show a.length + b.length = (a ++ b).length from List.length_append.symm]
  by_cases c1 : ea = 0
  case neg =>
    have e := HCx.out
    rw [if_neg (fun h => c1 h.1)] at e
    have HE := Aside0.mk e; clear e
    have t1 : (ea != 0) = true := by simp [c1]
    clear c1
    refine (Lay_calls WW.out HE.out HN.out.2.2 HN.out.2.1).mono ?_; rintro e w6 ⟨v, rfl, ho, hb⟩
    obtain ⟨z, cz', rfl⟩ := Kd.R_slice ho
    have HB6 := Aside0.mk (HS5.out.belowR hb).below; clear hb ho
    go_wp2_with fail
    refine (marquetrylaw24_answers.calls true _ rfl).mono ?_; rintro e w7 ⟨rfl, hb⟩
    have HB7 := Aside0.mk (below_then HB6.out HB6.out.size hb); clear hb
    go_wp2_with fail
    go_ret
    exact ⟨rfl, HB7.out⟩
  subst c1
  by_cases c2 : eb = 0
  case neg =>
    have e := HCx.out
    rw [if_neg (fun h => c2 h.2)] at e
    have HE := Aside0.mk e; clear e
    have t1 : (eb != 0) = true := by simp [c2]
    clear c2
    refine (Lay_calls WW.out HE.out HN.out.2.2 HN.out.2.1).mono ?_; rintro e w6 ⟨v, rfl, ho, hb⟩
    obtain ⟨z, cz', rfl⟩ := Kd.R_slice ho
    have HB6 := Aside0.mk (HS5.out.belowR hb).below; clear hb ho
    go_wp2_with fail
    refine (marquetrylaw24_answers.calls true _ rfl).mono ?_; rintro e w7 ⟨rfl, hb⟩
    have HB7 := Aside0.mk (below_then HB6.out HB6.out.size hb); clear hb
    go_wp2_with fail
    go_ret
    exact ⟨rfl, HB7.out⟩
  subst c2
  have e := HCx.out
  rw [if_pos ⟨rfl, rfl⟩] at e
  have HE := Aside0.mk e; clear e
  refine (Lay_calls WW.out HE.out HN.out.2.2 HN.out.2.1).mono ?_; rintro e w6 ⟨v, rfl, ho, hb⟩
  have hs6 := HS5.out.newRow hb (Kd.own_of_R ho) (Nat.le_refl _)
  obtain ⟨D, cd, rfl⟩ := Kd.R_slice ho
  have HS6 := Aside0.mk hs6; clear hs6 hb ho HS5
  go_wp2_with fail
  refine (marquetrylaw24_answers.calls true _ rfl).mono ?_; rintro e w7 ⟨rfl, hb⟩
  have hs7 := (HS6.out.belowR hb).allocRow 5 .u8 [] (by decide)
  have HS7 := Aside0.mk hs7; clear hs7 hb HS6
  have hxa : xa = lay a ∧ ok a := by
    have := HA.out
    unfold laid at this
    by_cases c : ok a
    · rw [if_pos c] at this; injection this with h1 h2; exact ⟨h1.symm, c⟩
    · rw [if_neg c] at this; injection this with h1 h2; exact absurd h2 (by decide)
  have hxb : xb = lay b ∧ ok b := by
    have := HBx.out
    unfold laid at this
    by_cases c : ok b
    · rw [if_pos c] at this; injection this with h1 h2; exact ⟨h1.symm, c⟩
    · rw [if_neg c] at this; injection this with h1 h2; exact absurd h2 (by decide)
  have v1 := lay_even hxa.2
  have v2 := lay_even hxb.2
  rw [← hxa.1] at v1
  rw [← hxb.1] at v2
  have k1 : xa.length ≤ 100000 := by rw [hxa.1]; have := lay_len a; have := SA.out; omega
  have k2 : xb.length ≤ 100000 := by rw [hxb.1]; have := lay_len b; have := SB.out; omega
  clear hxa hxb
  have t1 : ((xa.length : Int) % 2 == 0) = true := by simp; omega
  have t2 : ((xb.length : Int) % 2 == 0) = true := by simp; omega
  have v1 := Aside0.mk v1
  have v2 := Aside0.mk v2
  have K1 := Aside0.mk k1; clear k1
  have K2 := Aside0.mk k2; clear k2
  go_wp2_with (first
    | ((with_reducible refine gate_builtin (b := .append) (xs := #[.tmp 57, .tmp 58]) rfl ?_); (try (refine gate_guard (by rfl) ?_; dsimp only)); at_builtin; refine St.append_row (w0 := w) rfl (.tmp 57) (.tmp 58) 22 5 .u8 1 rfl Try.underlying22 info5 (by decide) _ _ [] xa X xa.length cx rfl rfl HS7.out (rowReads HS7.out.rot4) (by have := K1.out; simp; omega) ?_; intro A8 c8 w8 hs; rw [List.nil_append, show ([] : List Int).length + xa.length = xa.length from Nat.zero_add _] at hs; have HS8 := Aside0.mk hs; clear hs)
    | ((with_reducible refine gate_builtin (b := .append) (xs := #[.tmp 59, .tmp 60]) rfl ?_); (try (refine gate_guard (by rfl) ?_; dsimp only)); at_builtin; refine St.append_row (w0 := w) rfl (.tmp 59) (.tmp 60) 22 5 .u8 1 rfl Try.underlying22 info5 (by decide) (.slice A8 xa.length c8) xa.length xa xb Y xb.length cy rfl rfl HS8.out (rowReads HS8.out.rot3) (by have := K1.out; have := K2.out; omega) ?_; intro A9 c9 w9 hs; have HS9 := Aside0.mk hs; clear hs))
  obtain ⟨ks, hks⟩ := (same_ev (xa ++ xb) (by have := K1.out; have := K2.out; rw [List.length_append]; omega)).rounds
  have r1 := Kd.R_reads' HS9.out.toR
  have r2 := Kd.R_reads' HS9.out.swap.toR
  have R1 := Aside0.mk r1; clear r1
  have R2 := Aside0.mk r2; clear r2
  have KS := Aside0.mk hks; clear hks
  rw [show xa.length + xb.length = (xa ++ xb).length from List.length_append.symm]
  refine (marquetryref01_Same.calls ks D cd (xa ++ xb) A9 c9 (xa ++ xb) true w9 R2.out.2.2 R2.out.2.1 R1.out.2.2 (by have := R1.out.2.1; rw [List.length_append]; exact this) KS.out).mono ?_; rintro e w10 ⟨rfl, ⟨nd3, rfl⟩⟩
  have HB := Aside0.mk (HS9.out.drewN nd3).below
  go_wp2_with fail
  go_ret
  exact ⟨rfl, HB.out⟩
end Go.Proofs.Ytfbkbbognabkkaa.Pure
