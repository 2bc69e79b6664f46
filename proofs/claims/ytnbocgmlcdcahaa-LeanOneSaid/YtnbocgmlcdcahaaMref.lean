/- What the reference's ways of pixels come to. -/
import Derived.Test.YtnbocgmlcdcahaaMpixel
namespace Go.Proofs.Ytnbocgmlcdcahaa.P
open Go Go.RowKit Go.Proofs.YtnbocgmlcdcahaaW.PrintWords Go.Proofs.YtnbocgmlcdcahaaW.PrintLast Go.Proofs.YtnbocgmlcdcahaaW.PrintMore
set_option linter.unusedVariables false
set_option linter.unusedSimpArgs false
attribute [local go_sem] max2_int min2_int max_two min_two max_three min_three max_four min_four

set_option maxRecDepth 100000 in
theorem px_part0 (p : Int) (w : World) (h : U32 p) :
    Calls Try.prog 23 #[.int .u32 p, .int .i64 0] w fun e w' => e = .returned (.int .i64 (pA p)) ∧ w' = w := by
  unfold U32 at h
  obtain ⟨h0, h1⟩ := h
  go_enter Try.func23, Try.ntmps23
  go_wp2
  go_ret
  refine ⟨congrArg (fun z => Ending.returned (.int .i64 z)) ?_, rfl⟩
  unfold pA
  first | rfl | omega | (unfold wrap64; omega) | (simp; omega)

set_option maxRecDepth 100000 in
theorem px_part1 (p : Int) (w : World) (h : U32 p) :
    Calls Try.prog 23 #[.int .u32 p, .int .i64 1] w fun e w' => e = .returned (.int .i64 (pR p)) ∧ w' = w := by
  unfold U32 at h
  obtain ⟨h0, h1⟩ := h
  go_enter Try.func23, Try.ntmps23
  go_wp2
  go_ret
  refine ⟨congrArg (fun z => Ending.returned (.int .i64 z)) ?_, rfl⟩
  unfold pR
  first | rfl | omega | (unfold wrap64; omega) | (simp; omega)

set_option maxRecDepth 100000 in
theorem px_part2 (p : Int) (w : World) (h : U32 p) :
    Calls Try.prog 23 #[.int .u32 p, .int .i64 2] w fun e w' => e = .returned (.int .i64 (pG p)) ∧ w' = w := by
  unfold U32 at h
  obtain ⟨h0, h1⟩ := h
  go_enter Try.func23, Try.ntmps23
  go_wp2
  go_ret
  refine ⟨congrArg (fun z => Ending.returned (.int .i64 z)) ?_, rfl⟩
  unfold pG
  first | rfl | omega | (unfold wrap64; omega) | (simp; omega)

set_option maxRecDepth 100000 in
theorem px_part3 (p : Int) (w : World) (h : U32 p) :
    Calls Try.prog 23 #[.int .u32 p, .int .i64 3] w fun e w' => e = .returned (.int .i64 (pB p)) ∧ w' = w := by
  unfold U32 at h
  obtain ⟨h0, h1⟩ := h
  go_enter Try.func23, Try.ntmps23
  go_wp2
  go_ret
  refine ⟨congrArg (fun z => Ending.returned (.int .i64 z)) ?_, rfl⟩
  unfold pB
  first | rfl | omega | (unfold wrap64; omega) | (simp; omega)

theorem px_mod (a : Int) : Int.tmod (wrap64 (Int.tmod a 256 + 256)) 256 = a % 256 := by
  have h : -255 ≤ Int.tmod a 256 ∧ Int.tmod a 256 ≤ 255 ∧ ∃ q, a = 256 * q + Int.tmod a 256 := by
    refine ⟨?_, ?_, Int.tdiv a 256, (Int.mul_tdiv_add_tmod a 256).symm⟩
    · have := Int.lt_tmod_of_pos a (b := 256) (by decide); omega
    · have := Int.tmod_lt_of_pos a (b := 256) (by decide); omega
  obtain ⟨h0, h1, q, hq⟩ := h
  rw [px_w64 (by omega) (by omega), Int.tmod_eq_emod_of_nonneg (by omega)]
  omega
def marquetryref11_Make.f (a b c d : Int) : Option Int := some (join4 a b c d)
set_option maxHeartbeats 800000 in
set_option maxRecDepth 100000 in
theorem px_make (a b c d : Int) (w : World) :
    Calls Try.prog 24 #[.agg #[.int .i64 a, .int .i64 b, .int .i64 c, .int .i64 d]] w fun e w' => e = .returned (.int .u32 (join4 a b c d)) ∧ Below w.heap.size w w' := by
  have m0 := Lib.hid (px_mod a)
  have m1 := Lib.hid (px_mod b)
  have m2 := Lib.hid (px_mod c)
  have m3 := Lib.hid (px_mod d)
  go_enter Try.func24, Try.ntmps24
  go_wp2
  refine wp_loop_rounds 5 ?_
  rw [rounds_succ]; go_wp2
  rw [rounds_succ]; go_wp2
  rw [rounds_succ]; go_wp2
  rw [rounds_succ]; go_wp2
  rw [rounds_succ]; go_wp2
  go_ret
  refine ⟨congrArg (fun z => Ending.returned (.int .u32 z)) ?_, (Below.refl _ _).alloc (Nat.le_refl _) _⟩
  simp only [m0.out, m1.out, m2.out, m3.out]
  unfold join4
  simp
  omega

theorem marquetryref11_Make.calls (a b c d r : Int) (w : World) (h : marquetryref11_Make.f a b c d = some r) :
    Calls Try.prog 24 #[.agg #[.int .i64 a, .int .i64 b, .int .i64 c, .int .i64 d]] w fun e w' => e = .returned (.int .u32 r) ∧ Below w.heap.size w w' := by
  obtain rfl := Option.some.inj h
  exact px_make a b c d w

set_option maxHeartbeats 800000 in
set_option maxRecDepth 100000 in
theorem px_refcut (n : Int) (w : World) :
    Calls Try.prog 62 #[.int .i64 n] w fun e w' => e = .returned (.int .i64 (cut255 n)) ∧ w' = w := by
  go_enter Try.func62, Try.ntmps62
  go_wp2
  all_goals
    go_ret
    refine ⟨congrArg (fun z => Ending.returned (.int .i64 z)) ?_, rfl⟩
    unfold cut255 mn mx
    (repeat' split) <;> omega

def marquetryref11_Add.f (p q : Int) : Option Int := if U32 p ∧ U32 q then some (each4 fAdd p q 0) else none
set_option maxHeartbeats 2000000 in
set_option maxRecDepth 100000 in
theorem marquetryref11_Add.calls (p q r : Int) (w : World) (h : marquetryref11_Add.f p q = some r) :
    Calls Try.prog 34 #[.int .u32 p, .int .u32 q] w fun e w' => e = .returned (.int .u32 r) ∧ Below w.heap.size w w' := by
  obtain ⟨hp, rfl⟩ := px_some h
  clear h
  have p0 := pA_bd hp.1
  have p1 := pR_bd p
  have p2 := pG_bd p
  have p3 := pB_bd p
  have q0 := pA_bd hp.2
  have q1 := pR_bd q
  have q2 := pG_bd q
  have q3 := pB_bd q
  have Hp := Lib.hid hp
  clear hp
  unfold each4 fAdd
  go_enter Try.func34, Try.ntmps34
  go_wp2
  refine wp_loop_rounds 5 ?_
  rw [rounds_succ]; go_wp2_with fail
  refine (px_part0 _ _ Hp.out.1).mono ?_; rintro e w' ⟨rfl, rfl⟩
  go_wp2_with fail
  refine (px_part0 _ _ Hp.out.2).mono ?_; rintro e w' ⟨rfl, rfl⟩
  go_wp2_with fail
  rw [rounds_succ]; go_wp2_with fail
  refine (px_part1 _ _ Hp.out.1).mono ?_; rintro e w' ⟨rfl, rfl⟩
  go_wp2_with fail
  refine (px_part1 _ _ Hp.out.2).mono ?_; rintro e w' ⟨rfl, rfl⟩
  go_wp2_with fail
  rw [rounds_succ]; go_wp2_with fail
  refine (px_part2 _ _ Hp.out.1).mono ?_; rintro e w' ⟨rfl, rfl⟩
  go_wp2_with fail
  refine (px_part2 _ _ Hp.out.2).mono ?_; rintro e w' ⟨rfl, rfl⟩
  go_wp2_with fail
  rw [rounds_succ]; go_wp2_with fail
  refine (px_part3 _ _ Hp.out.1).mono ?_; rintro e w' ⟨rfl, rfl⟩
  go_wp2_with fail
  refine (px_part3 _ _ Hp.out.2).mono ?_; rintro e w' ⟨rfl, rfl⟩
  go_wp2_with fail
  rw [rounds_succ]; go_wp2_with fail
  refine (px_make _ _ _ _ _).mono ?_; rintro e w4 ⟨rfl, hb5⟩
  have hb6 := below_then (w := w) (by repeat (first | exact Below.refl _ _ | apply below_alloc | apply pw_below_drewN | apply below_drew1)) hb5
  clear hb5
  go_wp2_with fail
  go_ret
  exact ⟨rfl, hb6⟩

def marquetryref11_Sub.f (p q : Int) : Option Int := if U32 p ∧ U32 q then some (each4 fSub p q 0) else none
set_option maxHeartbeats 2000000 in
set_option maxRecDepth 100000 in
theorem marquetryref11_Sub.calls (p q r : Int) (w : World) (h : marquetryref11_Sub.f p q = some r) :
    Calls Try.prog 12 #[.int .u32 p, .int .u32 q] w fun e w' => e = .returned (.int .u32 r) ∧ Below w.heap.size w w' := by
  obtain ⟨hp, rfl⟩ := px_some h
  clear h
  have p0 := pA_bd hp.1
  have p1 := pR_bd p
  have p2 := pG_bd p
  have p3 := pB_bd p
  have q0 := pA_bd hp.2
  have q1 := pR_bd q
  have q2 := pG_bd q
  have q3 := pB_bd q
  have Hp := Lib.hid hp
  clear hp
  unfold each4 fSub
  go_enter Try.func12, Try.ntmps12
  go_wp2
  refine wp_loop_rounds 5 ?_
  rw [rounds_succ]; go_wp2_with fail
  refine (px_part0 _ _ Hp.out.1).mono ?_; rintro e w' ⟨rfl, rfl⟩
  go_wp2_with fail
  refine (px_part0 _ _ Hp.out.2).mono ?_; rintro e w' ⟨rfl, rfl⟩
  go_wp2_with fail
  rw [rounds_succ]; go_wp2_with fail
  refine (px_part1 _ _ Hp.out.1).mono ?_; rintro e w' ⟨rfl, rfl⟩
  go_wp2_with fail
  refine (px_part1 _ _ Hp.out.2).mono ?_; rintro e w' ⟨rfl, rfl⟩
  go_wp2_with fail
  rw [rounds_succ]; go_wp2_with fail
  refine (px_part2 _ _ Hp.out.1).mono ?_; rintro e w' ⟨rfl, rfl⟩
  go_wp2_with fail
  refine (px_part2 _ _ Hp.out.2).mono ?_; rintro e w' ⟨rfl, rfl⟩
  go_wp2_with fail
  rw [rounds_succ]; go_wp2_with fail
  refine (px_part3 _ _ Hp.out.1).mono ?_; rintro e w' ⟨rfl, rfl⟩
  go_wp2_with fail
  refine (px_part3 _ _ Hp.out.2).mono ?_; rintro e w' ⟨rfl, rfl⟩
  go_wp2_with fail
  rw [rounds_succ]; go_wp2_with fail
  refine (px_make _ _ _ _ _).mono ?_; rintro e w4 ⟨rfl, hb5⟩
  have hb6 := below_then (w := w) (by repeat (first | exact Below.refl _ _ | apply below_alloc | apply pw_below_drewN | apply below_drew1)) hb5
  clear hb5
  go_wp2_with fail
  go_ret
  exact ⟨rfl, hb6⟩

def marquetryref11_Avg.f (p q : Int) : Option Int := if U32 p ∧ U32 q then some (each4 fAvg p q 0) else none
set_option maxHeartbeats 2000000 in
set_option maxRecDepth 100000 in
theorem marquetryref11_Avg.calls (p q r : Int) (w : World) (h : marquetryref11_Avg.f p q = some r) :
    Calls Try.prog 53 #[.int .u32 p, .int .u32 q] w fun e w' => e = .returned (.int .u32 r) ∧ Below w.heap.size w w' := by
  obtain ⟨hp, rfl⟩ := px_some h
  clear h
  have p0 := pA_bd hp.1
  have p1 := pR_bd p
  have p2 := pG_bd p
  have p3 := pB_bd p
  have q0 := pA_bd hp.2
  have q1 := pR_bd q
  have q2 := pG_bd q
  have q3 := pB_bd q
  have Hp := Lib.hid hp
  clear hp
  unfold each4 fAvg
  go_enter Try.func53, Try.ntmps53
  go_wp2
  refine wp_loop_rounds 5 ?_
  rw [rounds_succ]; go_wp2_with fail
  refine (px_part0 _ _ Hp.out.1).mono ?_; rintro e w' ⟨rfl, rfl⟩
  go_wp2_with fail
  refine (px_part0 _ _ Hp.out.2).mono ?_; rintro e w' ⟨rfl, rfl⟩
  go_wp2_with fail
  rw [rounds_succ]; go_wp2_with fail
  refine (px_part1 _ _ Hp.out.1).mono ?_; rintro e w' ⟨rfl, rfl⟩
  go_wp2_with fail
  refine (px_part1 _ _ Hp.out.2).mono ?_; rintro e w' ⟨rfl, rfl⟩
  go_wp2_with fail
  rw [rounds_succ]; go_wp2_with fail
  refine (px_part2 _ _ Hp.out.1).mono ?_; rintro e w' ⟨rfl, rfl⟩
  go_wp2_with fail
  refine (px_part2 _ _ Hp.out.2).mono ?_; rintro e w' ⟨rfl, rfl⟩
  go_wp2_with fail
  rw [rounds_succ]; go_wp2_with fail
  refine (px_part3 _ _ Hp.out.1).mono ?_; rintro e w' ⟨rfl, rfl⟩
  go_wp2_with fail
  refine (px_part3 _ _ Hp.out.2).mono ?_; rintro e w' ⟨rfl, rfl⟩
  go_wp2_with fail
  rw [rounds_succ]; go_wp2_with fail
  refine (px_make _ _ _ _ _).mono ?_; rintro e w4 ⟨rfl, hb5⟩
  have hb6 := below_then (w := w) (by repeat (first | exact Below.refl _ _ | apply below_alloc | apply pw_below_drewN | apply below_drew1)) hb5
  clear hb5
  go_wp2_with fail
  go_ret
  exact ⟨rfl, hb6⟩

def marquetryref11_Full.f (p q z : Int) : Option Int := if U32 p ∧ U32 q ∧ U32 z then some (each4 fFull p q z) else none
set_option maxHeartbeats 2000000 in
set_option maxRecDepth 100000 in
theorem marquetryref11_Full.calls (p q z r : Int) (w : World) (h : marquetryref11_Full.f p q z = some r) :
    Calls Try.prog 55 #[.int .u32 p, .int .u32 q, .int .u32 z] w fun e w' => e = .returned (.int .u32 r) ∧ Below w.heap.size w w' := by
  obtain ⟨hp, rfl⟩ := px_some h
  clear h
  have p0 := pA_bd hp.1
  have p1 := pR_bd p
  have p2 := pG_bd p
  have p3 := pB_bd p
  have q0 := pA_bd hp.2.1
  have q1 := pR_bd q
  have q2 := pG_bd q
  have q3 := pB_bd q
  have z0 := pA_bd hp.2.2
  have z1 := pR_bd z
  have z2 := pG_bd z
  have z3 := pB_bd z
  have Hp := Lib.hid hp
  clear hp
  unfold each4 fFull
  go_enter Try.func55, Try.ntmps55
  go_wp2
  refine wp_loop_rounds 5 ?_
  rw [rounds_succ]; go_wp2_with fail
  refine (px_part0 _ _ Hp.out.1).mono ?_; rintro e w' ⟨rfl, rfl⟩
  go_wp2_with fail
  refine (px_part0 _ _ Hp.out.2.1).mono ?_; rintro e w' ⟨rfl, rfl⟩
  go_wp2_with fail
  refine (px_part0 _ _ Hp.out.2.2).mono ?_; rintro e w' ⟨rfl, rfl⟩
  go_wp2_with fail
  refine (px_refcut _ _).mono ?_; rintro e w' ⟨rfl, rfl⟩
  go_wp2_with fail
  rw [rounds_succ]; go_wp2_with fail
  refine (px_part1 _ _ Hp.out.1).mono ?_; rintro e w' ⟨rfl, rfl⟩
  go_wp2_with fail
  refine (px_part1 _ _ Hp.out.2.1).mono ?_; rintro e w' ⟨rfl, rfl⟩
  go_wp2_with fail
  refine (px_part1 _ _ Hp.out.2.2).mono ?_; rintro e w' ⟨rfl, rfl⟩
  go_wp2_with fail
  refine (px_refcut _ _).mono ?_; rintro e w' ⟨rfl, rfl⟩
  go_wp2_with fail
  rw [rounds_succ]; go_wp2_with fail
  refine (px_part2 _ _ Hp.out.1).mono ?_; rintro e w' ⟨rfl, rfl⟩
  go_wp2_with fail
  refine (px_part2 _ _ Hp.out.2.1).mono ?_; rintro e w' ⟨rfl, rfl⟩
  go_wp2_with fail
  refine (px_part2 _ _ Hp.out.2.2).mono ?_; rintro e w' ⟨rfl, rfl⟩
  go_wp2_with fail
  refine (px_refcut _ _).mono ?_; rintro e w' ⟨rfl, rfl⟩
  go_wp2_with fail
  rw [rounds_succ]; go_wp2_with fail
  refine (px_part3 _ _ Hp.out.1).mono ?_; rintro e w' ⟨rfl, rfl⟩
  go_wp2_with fail
  refine (px_part3 _ _ Hp.out.2.1).mono ?_; rintro e w' ⟨rfl, rfl⟩
  go_wp2_with fail
  refine (px_part3 _ _ Hp.out.2.2).mono ?_; rintro e w' ⟨rfl, rfl⟩
  go_wp2_with fail
  refine (px_refcut _ _).mono ?_; rintro e w' ⟨rfl, rfl⟩
  go_wp2_with fail
  rw [rounds_succ]; go_wp2_with fail
  refine (px_make _ _ _ _ _).mono ?_; rintro e w4 ⟨rfl, hb5⟩
  have hb6 := below_then (w := w) (by repeat (first | exact Below.refl _ _ | apply below_alloc | apply pw_below_drewN | apply below_drew1)) hb5
  clear hb5
  go_wp2_with fail
  go_ret
  exact ⟨rfl, hb6⟩

def marquetryref11_Half.f (p q : Int) : Option Int := if U32 p ∧ U32 q then some (each4 fHalf p q 0) else none
set_option maxHeartbeats 2000000 in
set_option maxRecDepth 100000 in
theorem marquetryref11_Half.calls (p q r : Int) (w : World) (h : marquetryref11_Half.f p q = some r) :
    Calls Try.prog 56 #[.int .u32 p, .int .u32 q] w fun e w' => e = .returned (.int .u32 r) ∧ Below w.heap.size w w' := by
  obtain ⟨hp, rfl⟩ := px_some h
  clear h
  have p0 := pA_bd hp.1
  have p1 := pR_bd p
  have p2 := pG_bd p
  have p3 := pB_bd p
  have q0 := pA_bd hp.2
  have q1 := pR_bd q
  have q2 := pG_bd q
  have q3 := pB_bd q
  have hdpA := half_bd (pA p - pA q) (by omega) (by omega)
  have hdpR := half_bd (pR p - pR q) (by omega) (by omega)
  have hdpG := half_bd (pG p - pG q) (by omega) (by omega)
  have hdpB := half_bd (pB p - pB q) (by omega) (by omega)
  have Hp := Lib.hid hp
  clear hp
  unfold each4 fHalf
  go_enter Try.func56, Try.ntmps56
  go_wp2
  refine wp_loop_rounds 5 ?_
  rw [rounds_succ]; go_wp2_with fail
  refine (px_part0 _ _ Hp.out.1).mono ?_; rintro e w' ⟨rfl, rfl⟩
  go_wp2_with fail
  refine (px_part0 _ _ Hp.out.1).mono ?_; rintro e w' ⟨rfl, rfl⟩
  go_wp2_with fail
  refine (px_part0 _ _ Hp.out.2).mono ?_; rintro e w' ⟨rfl, rfl⟩
  go_wp2_with fail
  refine (px_refcut _ _).mono ?_; rintro e w' ⟨rfl, rfl⟩
  go_wp2_with fail
  rw [rounds_succ]; go_wp2_with fail
  refine (px_part1 _ _ Hp.out.1).mono ?_; rintro e w' ⟨rfl, rfl⟩
  go_wp2_with fail
  refine (px_part1 _ _ Hp.out.1).mono ?_; rintro e w' ⟨rfl, rfl⟩
  go_wp2_with fail
  refine (px_part1 _ _ Hp.out.2).mono ?_; rintro e w' ⟨rfl, rfl⟩
  go_wp2_with fail
  refine (px_refcut _ _).mono ?_; rintro e w' ⟨rfl, rfl⟩
  go_wp2_with fail
  rw [rounds_succ]; go_wp2_with fail
  refine (px_part2 _ _ Hp.out.1).mono ?_; rintro e w' ⟨rfl, rfl⟩
  go_wp2_with fail
  refine (px_part2 _ _ Hp.out.1).mono ?_; rintro e w' ⟨rfl, rfl⟩
  go_wp2_with fail
  refine (px_part2 _ _ Hp.out.2).mono ?_; rintro e w' ⟨rfl, rfl⟩
  go_wp2_with fail
  refine (px_refcut _ _).mono ?_; rintro e w' ⟨rfl, rfl⟩
  go_wp2_with fail
  rw [rounds_succ]; go_wp2_with fail
  refine (px_part3 _ _ Hp.out.1).mono ?_; rintro e w' ⟨rfl, rfl⟩
  go_wp2_with fail
  refine (px_part3 _ _ Hp.out.1).mono ?_; rintro e w' ⟨rfl, rfl⟩
  go_wp2_with fail
  refine (px_part3 _ _ Hp.out.2).mono ?_; rintro e w' ⟨rfl, rfl⟩
  go_wp2_with fail
  refine (px_refcut _ _).mono ?_; rintro e w' ⟨rfl, rfl⟩
  go_wp2_with fail
  rw [rounds_succ]; go_wp2_with fail
  refine (px_make _ _ _ _ _).mono ?_; rintro e w4 ⟨rfl, hb5⟩
  have hb6 := below_then (w := w) (by repeat (first | exact Below.refl _ _ | apply below_alloc | apply pw_below_drewN | apply below_drew1)) hb5
  clear hb5
  go_wp2_with fail
  go_ret
  exact ⟨rfl, hb6⟩
end Go.Proofs.Ytnbocgmlcdcahaa.P
