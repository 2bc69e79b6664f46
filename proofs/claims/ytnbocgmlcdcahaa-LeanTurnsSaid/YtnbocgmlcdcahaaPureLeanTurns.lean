/- Any image, by any modes, forth and back, as the reference. -/
import Derived.Test.YtnbocgmlcdcahaaLeanLaw
namespace Go.Proofs.Ytnbocgmlcdcahaa.Pure
open Go Go.RowKit Go.Proofs.Ytnbocgmlcdcahaa.P Go.Proofs.YtnbocgmlcdcahaaW.PrintWords Go.Proofs.YtnbocgmlcdcahaaW.PrintLast Go.Proofs.YtnbocgmlcdcahaaW.PrintMore Go.Proofs.Ytnbocgmlcdcahaa.U
set_option linter.unusedVariables false
set_option linter.unusedSimpArgs false
attribute [local go_sem] max2_int min2_int max_two min_two max_three min_three max_four min_four
set_option maxHeartbeats 8000000 in
set_option maxRecDepth 100000 in
theorem LeanTurns (a b : Int) (A : Option Addr) (c : Nat) (p : List Int) (d : Int) (A2 : Option Addr) (c2 : Nat) (l : List Int) (w : World)
    (h1 : (Lit.int .i64 a).wf = true) (h2 : (Lit.int .i64 b).wf = true) (h3 : p.length ≤ maxLen) (h4 : p.length * 4 ≤ 140737488351232) (h5 : ∀ y ∈ p, (Lit.int .u32 y).wf = true) (h6 : (Lit.int .i64 d).wf = true)
    (h7 : l.length ≤ maxLen) (h8 : l.length * 8 ≤ 140737488351232) (h9 : ∀ y ∈ l, (Lit.int .i64 y).wf = true)
    (g0 : Kd.C (Kd.int .u32) w A p.length p) (l0 : p.length ≤ c) (g2 : Kd.C (Kd.int .i64) w A2 l.length l) (l2 : l.length ≤ c2) :
    Calls Try.prog 5 #[.agg #[.int .i64 a, .int .i64 b, .slice A p.length c], .int .i64 d, .slice A2 l.length c2] w fun e w' => e = .returned (.bool true) ∧ Below w.heap.size w w' := by
  have hu : U32s p := u32s_of h5
  clear h1 h2 h3 h5 h6 h7 h9
  have G0 := Aside0.mk g0; clear g0
  have G2 := Aside0.mk g2; clear g2
  have HU := Aside0.mk hu; clear hu
  have hs := (St.refl w).alloc #[.int .i64 a, .int .i64 b, .slice A p.length c] 24
  by_cases c1 : 2000 < p.length ∨ 2000 < l.length
  · have HS := Aside0.mk hs; clear hs
    by_cases c3 : 2000 < p.length
    · have t1 : decide ((2000 : Int) < p.length) = true := decide_eq_true (by omega)
      go_enter Try.func5, Try.ntmps5
      go_wp2_with fail
      refine (answers_calls _).mono ?_; rintro e w2 ⟨rfl, hb⟩
      have HB := Aside0.mk (HS.out.belowR hb).below; clear hb
      go_wp2_with fail
      go_ret
      exact ⟨rfl, HB.out⟩
    · have t1 : decide ((2000 : Int) < p.length) = false := decide_eq_false (by omega)
      have t2 : decide ((2000 : Int) < l.length) = true := decide_eq_true (by omega)
      go_enter Try.func5, Try.ntmps5
      go_wp2_with fail
      refine (answers_calls _).mono ?_; rintro e w2 ⟨rfl, hb⟩
      have HB := Aside0.mk (HS.out.belowR hb).below; clear hb
      go_wp2_with fail
      go_ret
      exact ⟨rfl, HB.out⟩
  have t1 : decide ((2000 : Int) < p.length) = false := decide_eq_false (by omega)
  have t2 : decide ((2000 : Int) < l.length) = false := decide_eq_false (by omega)
  have hpl : p.length ≤ 2000 := by omega
  have hll : l.length ≤ 2000 := by omega
  clear c1 h4 h8
  obtain ⟨ks, es⟩ := (Sound_ev (w := a) (h := b) (b := d) (p := p) (l := l) (by omega)).rounds
  obtain ⟨km, em⟩ := (Modes_ev (w := a) (h := b) (b := d) (p := p) (l := l) (by omega)).rounds
  by_cases hso : sound a b p d l
  · rw [decide_eq_true hso] at es em
    have ES := Aside0.mk es; clear es
    have EM := Aside0.mk em; clear em
    have HSO := Aside0.mk hso; clear hso
    have HS := Aside0.mk hs; clear hs
    go_enter Try.func5, Try.ntmps5
    go_wp2_with fail
    refine (lean_Forth_ok a b d A c A2 c2 p l _ (Kd.C_below G0.out HS.out.below) l0 (Kd.C_below G2.out HS.out.below) l2 HSO.out HU.out).mono ?_; rintro e w1 ⟨B, c', rfl, hc1, hs1⟩
    have hs2 := (HS.out.frame hs1).assoc.swap.drop.alloc #[.int .i64 a, .int .i64 b, .slice B p.length c'] 24
    have m0 := (hs2.rot3.cell 0).trans rfl
    have m1 := (hs2.rot3.cell 1).trans rfl
    have m2 := (hs2.rot3.cell 2).trans rfl
    have HS2 := Aside0.mk hs2; clear hs2 hs1 HS
    go_wp2_with fail
    refine (lean_Back_ok a b d A c A2 c2 p l _ (Kd.C_below G0.out HS2.out.below) l0 (Kd.C_below G2.out HS2.out.below) l2 HSO.out HU.out).mono ?_; rintro e w2 ⟨D, c4, rfl, hc4, hs3⟩
    have hs4 := (HS2.out.frame hs3).assoc.swap.drop.alloc #[.int .i64 a, .int .i64 b, .slice D p.length c4] 24
    have m0 := (hs4.drop.drop.rot3.cell 0).trans rfl
    have m1 := (hs4.drop.drop.rot3.cell 1).trans rfl
    have m2 := (hs4.drop.drop.rot3.cell 2).trans rfl
    have HS4 := Aside0.mk hs4; clear hs4 hs3 HS2
    go_wp2_with fail
    refine (marquetryref11_Modes.calls km a b A c p d A2 c2 l true _ (Kd.C_below G0.out HS4.out.below) l0 (Kd.C_below G2.out HS4.out.below) l2 EM.out).mono ?_; rintro e w3 ⟨rfl, hb3⟩
    have HS3 := Aside0.mk (HS4.out.belowR hb3); clear hb3 HS4 m0 m1 m2
    go_wp2_with fail
    refine (answers_calls _).mono ?_; rintro e w4 ⟨rfl, hb4⟩
    have HS4 := Aside0.mk (HS3.out.belowR hb4); clear hb4 HS3
    have m0 := (HS4.out.drop.drop.rot3.cell 0).trans rfl
    have m1 := (HS4.out.drop.drop.rot3.cell 1).trans rfl
    have m2 := (HS4.out.drop.drop.rot3.cell 2).trans rfl
    go_wp2_with fail
    refine (lean_Sound.calls ks a b A c p d A2 c2 l true _ (Kd.C_below G0.out HS4.out.below) l0 (Kd.C_below G2.out HS4.out.below) l2 ES.out).mono ?_; rintro e w5 ⟨rfl, hb5⟩
    have HS5 := Aside0.mk (HS4.out.belowR hb5); clear hb5 HS4 m0 m1 m2
    go_upto_region 10 with (fail)
    have HS6 := Aside0.mk HS5.out.drew
    generalize w.heap.size = gm at *
    generalize w1.heap.size = gx at *
    generalize w2.heap.size = gy at *
    have R6 := HS5.out
    have y6_0 := (R6.cell 0).trans rfl; have y6_1 := (R6.cell 1).trans rfl; have y6_2 := (R6.cell 2).trans rfl; have x6_0 := (R6.rot3.cell 0).trans rfl; have x6_1 := (R6.rot3.cell 1).trans rfl; have x6_2 := (R6.rot3.cell 2).trans rfl; have m6_0 := (R6.drop.drop.rot3.cell 0).trans rfl; have m6_1 := (R6.drop.drop.rot3.cell 1).trans rfl; have m6_2 := (R6.drop.drop.rot3.cell 2).trans rfl
    clear R6
    go_region_held3 (fun w' => w'.cell? ⟨gy, 0, none⟩ = some (.int .i64 a) ∧ w'.cell? ⟨gy, 1, none⟩ = some (.int .i64 b) ∧ w'.cell? ⟨gy, 2, none⟩ = some (.slice D p.length c4) ∧ w'.cell? ⟨gx, 0, none⟩ = some (.int .i64 a) ∧ w'.cell? ⟨gx, 1, none⟩ = some (.int .i64 b) ∧ w'.cell? ⟨gx, 2, none⟩ = some (.slice B p.length c') ∧ w'.cell? ⟨gm, 0, none⟩ = some (.int .i64 a) ∧ w'.cell? ⟨gm, 1, none⟩ = some (.int .i64 b) ∧ w'.cell? ⟨gm, 2, none⟩ = some (.slice A p.length c)) (go_keep) (first | (go_at_call 16; with_reducible refine (refLean_calls false a b d A c A2 c2 p l _ (Kd.C_below G0.out HS6.out.below) l0 (Kd.C_below G2.out HS6.out.below) l2 HSO.out HU.out).mono ?_; rintro e w7 ⟨E, c7, rfl, hc7, hr7, hb7⟩; have HS7 := Aside0.mk (HS6.out.belowR hb7); have HR7 := Aside0.mk hr7; clear hb7 hr7; have y7_0 := (HS7.out.cell 0).trans rfl; have y7_1 := (HS7.out.cell 1).trans rfl; have y7_2 := (HS7.out.cell 2).trans rfl; have x7_0 := (HS7.out.rot3.cell 0).trans rfl; have x7_1 := (HS7.out.rot3.cell 1).trans rfl; have x7_2 := (HS7.out.rot3.cell 2).trans rfl; have m7_0 := (HS7.out.drop.drop.rot3.cell 0).trans rfl; have m7_1 := (HS7.out.drop.drop.rot3.cell 1).trans rfl; have m7_2 := (HS7.out.drop.drop.rot3.cell 2).trans rfl) | (go_at_call 11; with_reducible refine (refSame_calls a b B E p.length c' c7 (lean13 false a d l p p.length) _ (lean13_len _ _ _ _ _ _) (by omega) (rowReads HS7.out.rot4) HR7.out hc1 hc7).mono ?_; rintro e w8 ⟨rfl, hb8⟩; have HS8 := Aside0.mk (HS7.out.belowR hb8); clear hb8; have y8_0 := (HS8.out.cell 0).trans rfl; have y8_1 := (HS8.out.cell 1).trans rfl; have y8_2 := (HS8.out.cell 2).trans rfl; have x8_0 := (HS8.out.rot3.cell 0).trans rfl; have x8_1 := (HS8.out.rot3.cell 1).trans rfl; have x8_2 := (HS8.out.rot3.cell 2).trans rfl; have m8_0 := (HS8.out.drop.drop.rot3.cell 0).trans rfl; have m8_1 := (HS8.out.drop.drop.rot3.cell 1).trans rfl; have m8_2 := (HS8.out.drop.drop.rot3.cell 2).trans rfl) | (go_at_call 16; with_reducible refine (refLean_calls true a b d A c A2 c2 p l _ (Kd.C_below G0.out HS8.out.below) l0 (Kd.C_below G2.out HS8.out.below) l2 HSO.out HU.out).mono ?_; rintro e w9 ⟨F, c9, rfl, hc9, hr9, hb9⟩; have HS9 := Aside0.mk (HS8.out.belowR hb9); have HR9 := Aside0.mk hr9; clear hb9 hr9; have y9_0 := (HS9.out.cell 0).trans rfl; have y9_1 := (HS9.out.cell 1).trans rfl; have y9_2 := (HS9.out.cell 2).trans rfl; have x9_0 := (HS9.out.rot3.cell 0).trans rfl; have x9_1 := (HS9.out.rot3.cell 1).trans rfl; have x9_2 := (HS9.out.rot3.cell 2).trans rfl; have m9_0 := (HS9.out.drop.drop.rot3.cell 0).trans rfl; have m9_1 := (HS9.out.drop.drop.rot3.cell 1).trans rfl; have m9_2 := (HS9.out.drop.drop.rot3.cell 2).trans rfl) | (go_at_call 11; with_reducible refine (refSame_calls a b D F p.length c4 c9 (lean13 true a d l p p.length) _ (lean13_len _ _ _ _ _ _) (by omega) (rowReads HS9.out.swap) HR9.out hc4 hc9).mono ?_; rintro e w10 ⟨rfl, hb10⟩; have HS10 := Aside0.mk (HS9.out.belowR hb10); clear hb10; have y10_0 := (HS10.out.cell 0).trans rfl; have y10_1 := (HS10.out.cell 1).trans rfl; have y10_2 := (HS10.out.cell 2).trans rfl; have x10_0 := (HS10.out.rot3.cell 0).trans rfl; have x10_1 := (HS10.out.rot3.cell 1).trans rfl; have x10_2 := (HS10.out.rot3.cell 2).trans rfl; have m10_0 := (HS10.out.drop.drop.rot3.cell 0).trans rfl; have m10_1 := (HS10.out.drop.drop.rot3.cell 1).trans rfl; have m10_2 := (HS10.out.drop.drop.rot3.cell 2).trans rfl))
    go_wp2_with fail
    go_ret
    exact ⟨rfl, HS10.out.below⟩
  · rw [decide_eq_false hso] at es em
    have ES := Aside0.mk es; clear es
    have EM := Aside0.mk em; clear em
    have HSO := Aside0.mk hso; clear hso
    have HS := Aside0.mk hs; clear hs
    go_enter Try.func5, Try.ntmps5
    go_wp2_with fail
    refine (lean_Forth_no a b d A c A2 c2 p l _ (Kd.C_below G0.out HS.out.below) l0 (Kd.C_below G2.out HS.out.below) l2 (by omega) HSO.out).mono ?_; rintro e w1 ⟨rfl, hb1⟩
    have hs2 := (HS.out.belowR hb1).alloc #[.int .i64 0, .int .i64 0, .slice none 0 0] 24
    have m0 := (hs2.swap.cell 0).trans rfl
    have m1 := (hs2.swap.cell 1).trans rfl
    have m2 := (hs2.swap.cell 2).trans rfl
    have HS2 := Aside0.mk hs2; clear hs2 hb1 HS
    go_wp2_with fail
    refine (lean_Back_no a b d A c A2 c2 p l _ (Kd.C_below G0.out HS2.out.below) l0 (Kd.C_below G2.out HS2.out.below) l2 (by omega) HSO.out).mono ?_; rintro e w2 ⟨rfl, hb2⟩
    have hs4 := (HS2.out.belowR hb2).alloc #[.int .i64 0, .int .i64 0, .slice none 0 0] 24
    have m0 := (hs4.rot3.cell 0).trans rfl
    have m1 := (hs4.rot3.cell 1).trans rfl
    have m2 := (hs4.rot3.cell 2).trans rfl
    have HS4 := Aside0.mk hs4; clear hs4 hb2 HS2
    go_wp2_with fail
    refine (marquetryref11_Modes.calls km a b A c p d A2 c2 l false _ (Kd.C_below G0.out HS4.out.below) l0 (Kd.C_below G2.out HS4.out.below) l2 EM.out).mono ?_; rintro e w3 ⟨rfl, hb3⟩
    have HS3 := Aside0.mk (HS4.out.belowR hb3); clear hb3 HS4 m0 m1 m2
    go_wp2_with fail
    refine (answers_calls _).mono ?_; rintro e w4 ⟨rfl, hb4⟩
    have HS4 := Aside0.mk (HS3.out.belowR hb4); clear hb4 HS3
    have m0 := (HS4.out.rot3.cell 0).trans rfl
    have m1 := (HS4.out.rot3.cell 1).trans rfl
    have m2 := (HS4.out.rot3.cell 2).trans rfl
    go_wp2_with fail
    refine (lean_Sound.calls ks a b A c p d A2 c2 l false _ (Kd.C_below G0.out HS4.out.below) l0 (Kd.C_below G2.out HS4.out.below) l2 ES.out).mono ?_; rintro e w5 ⟨rfl, hb5⟩
    have HS5 := Aside0.mk (HS4.out.belowR hb5); clear hb5 HS4 m0 m1 m2
    have x2 := (HS5.out.cell 2).trans rfl
    have y2 := (HS5.out.swap.cell 2).trans rfl
    go_wp2_with fail
    go_ret
    exact ⟨rfl, HS5.out.below⟩
end Go.Proofs.Ytnbocgmlcdcahaa.Pure
