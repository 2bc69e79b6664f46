/- The canvas behind a part. -/
import Derived.Test.YtegifkffhnhccaaMcv6
namespace Go.Proofs.Ytegifkffhnhccaa.P
open Go Go.RowKit Go.Proofs.YtegifkffhnhccaaW.PrintWords Go.Proofs.YtegifkffhnhccaaW.PrintLast Go.Proofs.YtegifkffhnhccaaW.PrintMore
set_option linter.unusedVariables false
set_option linter.unusedSimpArgs false
attribute [local go_sem] max2_int min2_int max_two min_two max_three min_three max_four min_four
set_option maxHeartbeats 4000000 in
set_option maxRecDepth 100000 in
theorem canvas_Render_part (W H : Int) (A : Option Addr) (c : Nat) (l : List S47) (k : Nat) (w : World) (hW : sideOk W) (hH : sideOk H)
    (hr : Kd.C k47 w A l.length l) (hc : l.length ≤ c) (hk : k < l.length) (hu : ∀ i : Nat, i < l.length → partU (rd_T47 l i)) (j : Nat) (hjk : j ≤ k) (ha : allIn W H l j) (hno : ¬ partIn W H (rd_T47 l j)) :
    Calls Try.prog 14 #[.int .i64 W, .int .i64 H, .slice A l.length c, .int .i64 k] w fun e w' => e = .returned (.tuple #[.agg #[.int .i64 0, .int .i64 0, .slice none 0 0], .int .i64 1]) ∧ Below w.heap.size w w' := by
  have hmax := hr.2.1
  unfold maxLen at hmax
  obtain ⟨ad, rfl, _⟩ := hr.2.2 (by omega)
  have HS := Aside0.mk ((St.refl w).alloc #[.int .i64 0, .int .i64 0, .slice none 0 0] 31)
  have t1 : decide ((k : Int) < 0) = false := decide_eq_false (by omega)
  have t2 : decide ((l.length : Int) ≤ k) = false := decide_eq_false (by omega)
  have t3 : decide (l.length ≤ k) = false := decide_eq_false (by omega)
  have w1 : wrap64 ((k : Int) + 1) = ((k + 1 : Nat) : Int) := by rw [px_w64 (by omega) (by omega)]; rfl
  have v1 := i64_w ((k : Int) + 1)
  rw [w1] at v1
  have k1 : ((k + 1 : Nat) : Int) ≤ c := by omega
  have HR := Aside0.mk hr
  have HC := Aside0.mk hc
  have HK := Aside0.mk hk
  have HU := Aside0.mk hu
  have HA := Aside0.mk ha
  have HJ := Aside0.mk hjk
  have HNO := Aside0.mk hno
  clear hr hc hk hu ha hjk hno
  go_enter Try.func14, Try.ntmps14
  go_wp2_with fail
  refine (canvas_New_ok W H _ w _ hW hH HS.out).mono ?_; rintro e w2 ⟨g, gb, rfl, hs⟩
  have HS2 := Aside0.mk hs; clear hs HS
  go_wp2_with fail
  go_loopw [9, 39] (fun v i wr => ∃ n : Nat, n ≤ j ∧ v = .int .i64 0 ∧ i = .int .i64 n ∧ St w wr ((comeF W H l n).obj g gb W H * (Asrt.blk w.heap.size 31 #[.int .i64 0, .int .i64 0, .slice none 0 0] * Asrt.emp))) (fun _ i _ => j - (intOf i).toNat)
  case atStart => exact ⟨0, Nat.zero_le _, rfl, rfl, HS2.out⟩
  case round =>
    obtain ⟨n, hn, rfl, rfl, hs⟩ := hrel
    clear HS2
    have hlt : n < k + 1 := Nat.lt_succ_of_le (Nat.le_trans hn HJ.out)
    have hnl : n < l.length := by have := HK.out; clear hs; omega
    have y1 : decide ((n : Int) < (k : Int) + 1) = true := decide_eq_true (by clear hs; omega)
    have y2 : decide (n < k + 1) = true := decide_eq_true hlt
    have y3 : (n < k + 1) = True := eq_true hlt
    have y4 : ((n : Int) < (k : Int) + 1) = True := eq_true (by clear hs; omega)
    have y5 : (n ≤ k) = True := eq_true (by clear hs; omega)
    have y6 : decide ((n : Int) < ((k + 1 : Nat) : Int)) = true := decide_eq_true (by clear hs; omega)
    have n16 : n ≤ 9223372036854775806 := by clear hs; omega
    obtain ⟨ad', A6, c6, hade, d0, d1, d2, d3, d4, d5, d6, l6, g6⟩ := at_T47 (Kd.C_below HR.out hs.below) (n : Int) (Int.natCast_nonneg _) (Int.ofNat_lt.2 hnl)
    obtain ⟨ad0, A60, c60, hade0, _, _, _, _, _, _, d60, l60, g60⟩ := at_T47 HR.out (n : Int) (Int.natCast_nonneg _) (Int.ofNat_lt.2 hnl)
    injection hade with hade
    subst hade
    injection hade0 with hade0
    subst hade0
    have he6 := ((hs.below.cell (World.block_lt_of_cell? _ _ d60)).trans d60).symm.trans d6
    injection he6 with he6
    injection he6 with he6 _ he7
    subst he6 he7
    simp only [Int.toNat_natCast] at d0 d1 d2 d3 d4 d5 d6
    have HL6 := Aside0.mk l6
    have HG6 := Aside0.mk g60
    have HHU := Aside0.mk (HU.out n hnl)
    have HOK := Aside0.mk (comeF_ok hW hH HU.out n (Nat.le_of_lt hnl) fun i hi => HA.out i (Nat.lt_of_lt_of_le hi hn))
    have hnx : comeF W H l (n + 1) = (comeF W H l n).put W (rd_T47 l n) := rfl
    have HNX := Aside0.mk hnx; clear hnx
    by_cases hjn : n = j
    · subst hjn
      have HS3 := Aside0.mk hs; clear hs g6 g60 l6 l60 d60 hnl hlt hn
      have HHP := HNO
      generalize hp : rd_T47 l n = p at *
      have HPP := Aside0.mk hp; clear hp
      go_wp2_with ((with_reducible refine gate_ (.store 47 (.tmp 13) (.tmp 42)) rfl ?_); refine St.storeB rfl rfl 47 (.tmp 13) (.tmp 42) rfl 0 _ [.int .i64 p.f0, .int .i64 p.f1, .bool p.f2, .bool p.f3, .int .i64 p.f4.f0, .int .i64 p.f4.f1, .slice A60 p.f4.f2.length c60] #[.int .i64 p.f0, .int .i64 p.f1, .bool p.f2, .bool p.f3, .int .i64 p.f4.f0, .int .i64 p.f4.f1, .slice A60 p.f4.f2.length c60] rfl rfl rfl (by kernel_rfl) (by simp [Value.oneCell']) (HS3.out.alloc #[.int .i64 0, .int .i64 0, .bool false, .bool false, .int .i64 0, .int .i64 0, .slice none 0 0] 47) (by simp) rfl ?_; intro w4 hs; have b0 := (hs.cell 0).trans rfl; have b1 := (hs.cell 1).trans rfl; have b2 := (hs.cell 2).trans rfl; have b3 := (hs.cell 3).trans rfl; have b4 := (hs.cell 4).trans rfl; have b5 := (hs.cell 5).trans rfl; have b6 := (hs.cell 6).trans rfl; have HS4 := Aside0.mk hs; clear hs)
      refine (canvas_put_no g gb W H (comeF W H l n) p A60 c60 _ w _ hW hH HG6.out HL6.out HHP.out HS4.out.swap).mono ?_; rintro e w5 ⟨rfl, hs⟩
      have HS5 := Aside0.mk (hs.swap.drop.swap); clear hs
      go_wp2_with ((with_reducible refine gate_ (.store 31 (.tmp 8) (.tmp 48)) rfl ?_); refine St.storeB rfl rfl 31 (.tmp 8) (.tmp 48) rfl 0 _ [.int .i64 0, .int .i64 0, .slice none 0 0] #[.int .i64 0, .int .i64 0, .slice none 0 0] rfl rfl rfl (by kernel_rfl) (by simp [Value.oneCell']) HS5.out (by simp) rfl ?_; intro w6 hs; have HS6 := Aside0.mk hs; clear hs)
      refine bodyPost_ret (results_ct rfl _ _ w.heap.size 31 #[.int .i64 0, .int .i64 0, .slice none 0 0] (0, 0) _ rfl HS6.out.blk Try.underlying31 rfl (by kernel_rfl)) rfl ?_
      exact ⟨rfl, HS6.out.below⟩
    have hlj : n < j := Nat.lt_of_le_of_ne hn hjn
    have HHP := Aside0.mk (HA.out n hlj)
    have HLT := Aside0.mk hlj
    have HS3 := Aside0.mk hs; clear hs g6 g60 l6 l60 d60 hnl hlt hn hlj hjn
    generalize hp : rd_T47 l n = p at *
    have HPP := Aside0.mk hp; clear hp
    go_wp2_with ((with_reducible refine gate_ (.store 47 (.tmp 13) (.tmp 42)) rfl ?_); refine St.storeB rfl rfl 47 (.tmp 13) (.tmp 42) rfl 0 _ [.int .i64 p.f0, .int .i64 p.f1, .bool p.f2, .bool p.f3, .int .i64 p.f4.f0, .int .i64 p.f4.f1, .slice A60 p.f4.f2.length c60] #[.int .i64 p.f0, .int .i64 p.f1, .bool p.f2, .bool p.f3, .int .i64 p.f4.f0, .int .i64 p.f4.f1, .slice A60 p.f4.f2.length c60] rfl rfl rfl (by kernel_rfl) (by simp [Value.oneCell']) (HS3.out.alloc #[.int .i64 0, .int .i64 0, .bool false, .bool false, .int .i64 0, .int .i64 0, .slice none 0 0] 47) (by simp) rfl ?_; intro w4 hs; have b0 := (hs.cell 0).trans rfl; have b1 := (hs.cell 1).trans rfl; have b2 := (hs.cell 2).trans rfl; have b3 := (hs.cell 3).trans rfl; have b4 := (hs.cell 4).trans rfl; have b5 := (hs.cell 5).trans rfl; have b6 := (hs.cell 6).trans rfl; have HS4 := Aside0.mk hs; clear hs)
    refine (canvas_put g gb W H (comeF W H l n) p A60 c60 _ w _ hW hH HOK.out HHU.out HG6.out HL6.out HHP.out HS4.out.swap).mono ?_; rintro e w5 ⟨rfl, hs⟩
    have HS5 := Aside0.mk hs.swap.drop; clear hs
    go_wp2_with fail
    go_roundw
    case rel => exact ⟨n + 1, HLT.out, rfl, by go_num, by rw [HNX.out]; exact HS5.out⟩
    case measure => have := HLT.out; simp [intOf]; omega
end Go.Proofs.Ytegifkffhnhccaa.P
