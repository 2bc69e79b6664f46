/- Why there is no canvas behind a part. -/
import Derived.Test.YtegifkffhnhccaaMcv7
namespace Go.Proofs.Ytegifkffhnhccaa.P
open Go Go.RowKit Go.Proofs.YtegifkffhnhccaaW.PrintWords Go.Proofs.YtegifkffhnhccaaW.PrintLast Go.Proofs.YtegifkffhnhccaaW.PrintMore
set_option linter.unusedVariables false
set_option linter.unusedSimpArgs false
set_option maxHeartbeats 4000000 in
set_option maxRecDepth 100000 in
theorem canvas_Render_side (W H : Int) (A : Option Addr) (c n : Nat) (k : Int) (w : World) (h : ¬ (sideOk W ∧ sideOk H)) :
    Calls Try.prog 14 #[.int .i64 W, .int .i64 H, .slice A n c, .int .i64 k] w fun e w' => e = .returned (.tuple #[.agg #[.int .i64 0, .int .i64 0, .slice none 0 0], .int .i64 1]) ∧ Below w.heap.size w w' := by
  have HS := Aside0.mk ((St.refl w).alloc #[.int .i64 0, .int .i64 0, .slice none 0 0] 31)
  go_enter Try.func14, Try.ntmps14
  go_wp2_with fail
  refine (canvas_New_no W H _ h).mono ?_; rintro e w2 ⟨rfl, hb⟩
  have HS2 := Aside0.mk (HS.out.belowR hb); clear hb
  go_wp2_with ((with_reducible refine gate_ (.store 31 (.tmp 8) (.tmp 23)) rfl ?_); refine St.storeB rfl rfl 31 (.tmp 8) (.tmp 23) rfl 0 _ [.int .i64 0, .int .i64 0, .slice none 0 0] #[.int .i64 0, .int .i64 0, .slice none 0 0] rfl rfl rfl (by kernel_rfl) (by simp [Value.oneCell']) HS2.out (by simp) rfl ?_; intro w6 hs; have HS6 := Aside0.mk hs; clear hs)
  refine bodyPost_ret (results_ct rfl _ _ w.heap.size 31 #[.int .i64 0, .int .i64 0, .slice none 0 0] (0, 0) _ rfl HS6.out.blk Try.underlying31 rfl (by kernel_rfl)) rfl ?_
  exact ⟨rfl, HS6.out.below⟩
set_option maxHeartbeats 4000000 in
set_option maxRecDepth 100000 in
theorem canvas_Render_at (W H : Int) (A : Option Addr) (c n : Nat) (k : Int) (w : World) (hW : sideOk W) (hH : sideOk H) (h : ¬ (0 ≤ k ∧ k < n)) :
    Calls Try.prog 14 #[.int .i64 W, .int .i64 H, .slice A n c, .int .i64 k] w fun e w' => e = .returned (.tuple #[.agg #[.int .i64 0, .int .i64 0, .slice none 0 0], .int .i64 1]) ∧ Below w.heap.size w w' := by
  have HS := Aside0.mk ((St.refl w).alloc #[.int .i64 0, .int .i64 0, .slice none 0 0] 31)
  by_cases c0 : k < 0
  · have t1 : decide (k < 0) = true := decide_eq_true c0
    clear h c0
    go_enter Try.func14, Try.ntmps14
    go_wp2_with fail
    refine (canvas_New_ok W H _ w _ hW hH HS.out).mono ?_; rintro e w2 ⟨g, gb, rfl, hs⟩
    have HS2 := Aside0.mk hs.swap; clear hs HS
    go_wp2_with ((with_reducible refine gate_ (.store 31 (.tmp 8) (.tmp 33)) rfl ?_); refine St.storeB rfl rfl 31 (.tmp 8) (.tmp 33) rfl 0 _ [.int .i64 0, .int .i64 0, .slice none 0 0] #[.int .i64 0, .int .i64 0, .slice none 0 0] rfl rfl rfl (by kernel_rfl) (by simp [Value.oneCell']) HS2.out (by simp) rfl ?_; intro w6 hs; have HS6 := Aside0.mk hs; clear hs)
    refine bodyPost_ret (results_ct rfl _ _ w.heap.size 31 #[.int .i64 0, .int .i64 0, .slice none 0 0] (0, 0) _ rfl HS6.out.blk Try.underlying31 rfl (by kernel_rfl)) rfl ?_
    exact ⟨rfl, HS6.out.below⟩
  · have t1 : decide (k < 0) = false := decide_eq_false c0
    have t2 : decide ((n : Int) ≤ k) = true := decide_eq_true (by omega)
    clear h c0
    go_enter Try.func14, Try.ntmps14
    go_wp2_with fail
    refine (canvas_New_ok W H _ w _ hW hH HS.out).mono ?_; rintro e w2 ⟨g, gb, rfl, hs⟩
    have HS2 := Aside0.mk hs.swap; clear hs HS
    go_wp2_with ((with_reducible refine gate_ (.store 31 (.tmp 8) (.tmp 33)) rfl ?_); refine St.storeB rfl rfl 31 (.tmp 8) (.tmp 33) rfl 0 _ [.int .i64 0, .int .i64 0, .slice none 0 0] #[.int .i64 0, .int .i64 0, .slice none 0 0] rfl rfl rfl (by kernel_rfl) (by simp [Value.oneCell']) HS2.out (by simp) rfl ?_; intro w6 hs; have HS6 := Aside0.mk hs; clear hs)
    refine bodyPost_ret (results_ct rfl _ _ w.heap.size 31 #[.int .i64 0, .int .i64 0, .slice none 0 0] (0, 0) _ rfl HS6.out.blk Try.underlying31 rfl (by kernel_rfl)) rfl ?_
    exact ⟨rfl, HS6.out.below⟩
end Go.Proofs.Ytegifkffhnhccaa.P
