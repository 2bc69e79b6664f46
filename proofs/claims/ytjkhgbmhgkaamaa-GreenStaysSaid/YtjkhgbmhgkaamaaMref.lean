/- What the reference's ways of pixels come to. -/
import Derived.Test.YtjkhgbmhgkaamaaMpixel
namespace Go.Proofs.Ytjkhgbmhgkaamaa.P
open Go Go.RowKit Go.Proofs.YtjkhgbmhgkaamaaW.PrintWords Go.Proofs.YtjkhgbmhgkaamaaW.PrintLast Go.Proofs.YtjkhgbmhgkaamaaW.PrintMore
set_option linter.unusedVariables false
set_option linter.unusedSimpArgs false
attribute [local go_sem] max2_int min2_int max_two min_two max_three min_three max_four min_four

set_option maxRecDepth 100000 in
theorem px_part0 (p : Int) (w : World) (h : U32 p) :
    Calls Try.prog 16 #[.int .u32 p, .int .i64 0] w fun e w' => e = .returned (.int .i64 (pA p)) ∧ w' = w := by
  unfold U32 at h
  obtain ⟨h0, h1⟩ := h
  go_enter Try.func16, Try.ntmps16
  go_wp2
  go_ret
  refine ⟨congrArg (fun z => Ending.returned (.int .i64 z)) ?_, rfl⟩
  unfold pA
  first | rfl | omega | (unfold wrap64; omega) | (simp; omega)

set_option maxRecDepth 100000 in
theorem px_part1 (p : Int) (w : World) (h : U32 p) :
    Calls Try.prog 16 #[.int .u32 p, .int .i64 1] w fun e w' => e = .returned (.int .i64 (pR p)) ∧ w' = w := by
  unfold U32 at h
  obtain ⟨h0, h1⟩ := h
  go_enter Try.func16, Try.ntmps16
  go_wp2
  go_ret
  refine ⟨congrArg (fun z => Ending.returned (.int .i64 z)) ?_, rfl⟩
  unfold pR
  first | rfl | omega | (unfold wrap64; omega) | (simp; omega)

set_option maxRecDepth 100000 in
theorem px_part2 (p : Int) (w : World) (h : U32 p) :
    Calls Try.prog 16 #[.int .u32 p, .int .i64 2] w fun e w' => e = .returned (.int .i64 (pG p)) ∧ w' = w := by
  unfold U32 at h
  obtain ⟨h0, h1⟩ := h
  go_enter Try.func16, Try.ntmps16
  go_wp2
  go_ret
  refine ⟨congrArg (fun z => Ending.returned (.int .i64 z)) ?_, rfl⟩
  unfold pG
  first | rfl | omega | (unfold wrap64; omega) | (simp; omega)

set_option maxRecDepth 100000 in
theorem px_part3 (p : Int) (w : World) (h : U32 p) :
    Calls Try.prog 16 #[.int .u32 p, .int .i64 3] w fun e w' => e = .returned (.int .i64 (pB p)) ∧ w' = w := by
  unfold U32 at h
  obtain ⟨h0, h1⟩ := h
  go_enter Try.func16, Try.ntmps16
  go_wp2
  go_ret
  refine ⟨congrArg (fun z => Ending.returned (.int .i64 z)) ?_, rfl⟩
  unfold pB
  first | rfl | omega | (unfold wrap64; omega) | (simp; omega)

theorem px_mod (a : Int) : Int.tmod (wrap64 (Int.tmod a 256 + 256)) 256 = a % 256 := by
  have h : -255 ≤ Int.tmod a 256 ∧ Int.tmod a 256 ≤ 255 ∧ ∃ q, a = 256 * q + Int.tmod a 256 := by
    refine ⟨?_, ?_, Int.tdiv a 256, (Int.mul_tdiv_add_tmod a 256).symm⟩
    · have := Int.lt_tmod_of_pos a (b := 256) (by decide); omega
    · have := Int.tmod_lt_of_pos a (b := 256) (by decide); omega
  obtain ⟨h0, h1, q, hq⟩ := h
  rw [px_w64 (by omega) (by omega), Int.tmod_eq_emod_of_nonneg (by omega)]
  omega
def marquetryref11_Make.f (a b c d : Int) : Option Int := some (join4 a b c d)
set_option maxHeartbeats 800000 in
set_option maxRecDepth 100000 in
theorem px_make (a b c d : Int) (w : World) :
    Calls Try.prog 17 #[.agg #[.int .i64 a, .int .i64 b, .int .i64 c, .int .i64 d]] w fun e w' => e = .returned (.int .u32 (join4 a b c d)) ∧ Below w.heap.size w w' := by
  have m0 := Lib.hid (px_mod a)
  have m1 := Lib.hid (px_mod b)
  have m2 := Lib.hid (px_mod c)
  have m3 := Lib.hid (px_mod d)
  go_enter Try.func17, Try.ntmps17
  go_wp2
  refine wp_loop_rounds 5 ?_
  rw [rounds_succ]; go_wp2
  rw [rounds_succ]; go_wp2
  rw [rounds_succ]; go_wp2
  rw [rounds_succ]; go_wp2
  rw [rounds_succ]; go_wp2
  go_ret
  refine ⟨congrArg (fun z => Ending.returned (.int .u32 z)) ?_, (Below.refl _ _).alloc (Nat.le_refl _) _⟩
  simp only [m0.out, m1.out, m2.out, m3.out]
  unfold join4
  simp
  omega

theorem marquetryref11_Make.calls (a b c d r : Int) (w : World) (h : marquetryref11_Make.f a b c d = some r) :
    Calls Try.prog 17 #[.agg #[.int .i64 a, .int .i64 b, .int .i64 c, .int .i64 d]] w fun e w' => e = .returned (.int .u32 r) ∧ Below w.heap.size w w' := by
  obtain rfl := Option.some.inj h
  exact px_make a b c d w

end Go.Proofs.Ytjkhgbmhgkaamaa.P
