/- What 'Pick' comes to. -/
import Derived.Test.YtnbocgmlcdcahaaMpixel
import Derived.Outline
namespace Go.Proofs.Ytnbocgmlcdcahaa.P
open Go Go.RowKit Go.Proofs.YtnbocgmlcdcahaaW.PrintWords Go.Proofs.YtnbocgmlcdcahaaW.PrintLast Go.Proofs.YtnbocgmlcdcahaaW.PrintMore
set_option linter.unusedVariables false
set_option linter.unusedSimpArgs false
attribute [local go_sem] max2_int min2_int max_two min_two max_three min_three max_four min_four

def gapi (a b : Int) : Int := mx (wrap64 (a - b)) (wrap64 (b - a))
set_option maxHeartbeats 800000 in
set_option maxRecDepth 100000 in
theorem px_gap (a b : Int) (w : World) :
    Calls Try.prog 58 #[.int .i64 a, .int .i64 b] w fun e w' => e = .returned (.int .i64 (gapi a b)) ∧ w' = w := by
  go_enter Try.func58, Try.ntmps58
  go_wp2
  all_goals
    go_ret
    refine ⟨congrArg (fun z => Ending.returned (.int .i64 z)) ?_, rfl⟩
    unfold gapi mx
    (repeat' split) <;> omega
theorem gap_bd (x y : Int) (h0 : -1000 ≤ x ∧ x ≤ 1000) (h1 : 0 ≤ y ∧ y ≤ 255) : 0 ≤ gapi x y ∧ gapi x y ≤ 2000 := by
  unfold gapi mx
  rw [px_w64 (n := x - y) (by omega) (by omega), px_w64 (n := y - x) (by omega) (by omega)]
  split <;> omega
def pick4 (l t tl : Int) : Int :=
  if gapi (pA l + pA t - pA tl) (pA l) + gapi (pR l + pR t - pR tl) (pR l) + gapi (pG l + pG t - pG tl) (pG l) + gapi (pB l + pB t - pB tl) (pB l) <
    gapi (pA l + pA t - pA tl) (pA t) + gapi (pR l + pR t - pR tl) (pR t) + gapi (pG l + pG t - pG tl) (pG t) + gapi (pB l + pB t - pB tl) (pB t) then l else t
def pixel_Pick.f (p q z : Int) : Option Int := if U32 p ∧ U32 q ∧ U32 z then some (pick4 p q z) else none
set_option maxHeartbeats 4000000 in
set_option maxRecDepth 100000 in
theorem pixel_Pick.calls (p q z r : Int) (w : World) (h : pixel_Pick.f p q z = some r) :
    Calls Try.prog 50 #[.int .u32 p, .int .u32 q, .int .u32 z] w fun e w' => e = .returned (.int .u32 r) ∧ Below w.heap.size w w' := by
  obtain ⟨⟨hp, hq, hz⟩, rfl⟩ := px_some h
  clear h
  have a0 := pA_bd hp
  have a1 := pR_bd p
  have a2 := pG_bd p
  have a3 := pB_bd p
  have b0 := pA_bd hq
  have b1 := pR_bd q
  have b2 := pG_bd q
  have b3 := pB_bd q
  have c0 := pA_bd hz
  have c1 := pR_bd z
  have c2 := pG_bd z
  have c3 := pB_bd z
  have g0 := gap_bd (pA p + pA q - pA z) (pA p) (by omega) (by omega)
  have g1 := gap_bd (pR p + pR q - pR z) (pR p) (by omega) (by omega)
  have g2 := gap_bd (pG p + pG q - pG z) (pG p) (by omega) (by omega)
  have g3 := gap_bd (pB p + pB q - pB z) (pB p) (by omega) (by omega)
  have h0 := gap_bd (pA p + pA q - pA z) (pA q) (by omega) (by omega)
  have h1 := gap_bd (pR p + pR q - pR z) (pR q) (by omega) (by omega)
  have h2 := gap_bd (pG p + pG q - pG z) (pG q) (by omega) (by omega)
  have h3 := gap_bd (pB p + pB q - pB z) (pB q) (by omega) (by omega)
  have Hp := Lib.hid hp
  have Hq := Lib.hid hq
  have Hr := Lib.hid hz
  clear hp hq hz
  unfold pick4
  go_enter Try.func50, Try.ntmps50
  go_wp2_with fail
  refine (px_split _ _ Hp.out).mono ?_; rintro e w1 ⟨rfl, hb1⟩
  go_wp2_with fail
  refine (px_split _ _ Hq.out).mono ?_; rintro e w2 ⟨rfl, hb2⟩
  go_wp2_with fail
  refine (px_split _ _ Hr.out).mono ?_; rintro e w3 ⟨rfl, hb3⟩
  have hb4 : Below w.heap.size w w3 := (hb1.trans (hb2.mono hb1.size)).trans (hb3.mono (Nat.le_trans hb1.size hb2.size))
  clear hb1 hb2 hb3
  have HB := Aside0.mk hb4
  clear hb4
  go_wp2
  refine wp_loop_rounds 5 ?_
  rw [rounds_succ]; go_wp2_with fail
  go_quiet (fail)
  go_wp2_with fail
  refine (px_gap _ _ _).mono ?_; rintro e w' ⟨rfl, rfl⟩
  go_wp2_with fail
  refine (px_gap _ _ _).mono ?_; rintro e w' ⟨rfl, rfl⟩
  go_wp2_with fail
  rw [rounds_succ]; go_wp2_with fail
  go_quiet (fail)
  go_wp2_with fail
  refine (px_gap _ _ _).mono ?_; rintro e w' ⟨rfl, rfl⟩
  go_wp2_with fail
  refine (px_gap _ _ _).mono ?_; rintro e w' ⟨rfl, rfl⟩
  go_wp2_with fail
  rw [rounds_succ]; go_wp2_with fail
  go_quiet (fail)
  go_wp2_with fail
  refine (px_gap _ _ _).mono ?_; rintro e w' ⟨rfl, rfl⟩
  go_wp2_with fail
  refine (px_gap _ _ _).mono ?_; rintro e w' ⟨rfl, rfl⟩
  go_wp2_with fail
  rw [rounds_succ]; go_wp2_with fail
  go_quiet (fail)
  go_wp2_with fail
  refine (px_gap _ _ _).mono ?_; rintro e w' ⟨rfl, rfl⟩
  go_wp2_with fail
  refine (px_gap _ _ _).mono ?_; rintro e w' ⟨rfl, rfl⟩
  go_wp2_with fail
  rw [rounds_succ]; go_wp2_with fail
  all_goals
    go_ret
    exact ⟨rfl, by repeat (first | (with_reducible first | exact HB.out | apply below_alloc | apply pw_below_drewN | apply below_drew1) | exact HB.out)⟩
end Go.Proofs.Ytnbocgmlcdcahaa.P
