/- The canvas behind a part. -/
import Derived.Test.YtegifkffhnhccaaMcv5
namespace Go.Proofs.Ytegifkffhnhccaa.P
open Go Go.RowKit Go.Proofs.YtegifkffhnhccaaW.PrintWords Go.Proofs.YtegifkffhnhccaaW.PrintLast Go.Proofs.YtegifkffhnhccaaW.PrintMore
set_option linter.unusedVariables false
set_option linter.unusedSimpArgs false
attribute [local go_sem] max2_int min2_int max_two min_two max_three min_three max_four min_four
set_option maxHeartbeats 4000000 in
set_option maxRecDepth 100000 in
theorem canvas_Render_ok (W H : Int) (A : Option Addr) (c : Nat) (l : List S47) (k : Nat) (w : World) (hW : sideOk W) (hH : sideOk H)
    (hr : Kd.C k47 w A l.length l) (hc : l.length ≤ c) (hk : k < l.length) (hu : ∀ i : Nat, i < l.length → partU (rd_T47 l i)) (ha : allIn W H l (k + 1)) :
    Calls Try.prog 14 #[.int .i64 W, .int .i64 H, .slice A l.length c, .int .i64 k] w fun e w' => ∃ B cB, e = .returned (.tuple #[.agg #[.int .i64 W, .int .i64 H, .slice B (comeF W H l (k + 1)).pix.length cB], .int .i64 0]) ∧
      St w w' (Asrt.row 22 1 (.slice B (comeF W H l (k + 1)).pix.length cB) (comeF W H l (k + 1)).pix.length (nums .u32 (comeF W H l (k + 1)).pix) * Asrt.emp) := by
  have hmax := hr.2.1
  unfold maxLen at hmax
  obtain ⟨ad, rfl, _⟩ := hr.2.2 (by omega)
  have HS := Aside0.mk ((St.refl w).alloc #[.int .i64 0, .int .i64 0, .slice none 0 0] 31)
  have t1 : decide ((k : Int) < 0) = false := decide_eq_false (by omega)
  have t2 : decide ((l.length : Int) ≤ k) = false := decide_eq_false (by omega)
  have t3 : decide (l.length ≤ k) = false := decide_eq_false (by omega)
  have w1 : wrap64 ((k : Int) + 1) = ((k + 1 : Nat) : Int) := by rw [px_w64 (by omega) (by omega)]; rfl
  have v1 := i64_w ((k : Int) + 1)
  rw [w1] at v1
  have k1 : ((k + 1 : Nat) : Int) ≤ c := by omega
  have HR := Aside0.mk hr
  have HC := Aside0.mk hc
  have HK := Aside0.mk hk
  have HU := Aside0.mk hu
  have HA := Aside0.mk ha
  clear hr hc hk hu ha
  go_enter Try.func14, Try.ntmps14
  go_wp2_with fail
  refine (canvas_New_ok W H _ w _ hW hH HS.out).mono ?_; rintro e w2 ⟨g, gb, rfl, hs⟩
  have HS2 := Aside0.mk hs; clear hs HS
  go_wp2_with fail
  go_loopw [9, 39] (fun v i wr => ∃ n : Nat, n ≤ k + 1 ∧ v = .int .i64 0 ∧ i = .int .i64 n ∧ St w wr ((comeF W H l n).obj g gb W H * (Asrt.blk w.heap.size 31 #[.int .i64 0, .int .i64 0, .slice none 0 0] * Asrt.emp))) (fun _ i _ => k + 1 - (intOf i).toNat)
  case atStart => exact ⟨0, Nat.zero_le _, rfl, rfl, HS2.out⟩
  case round =>
    obtain ⟨n, hn, rfl, rfl, hs⟩ := hrel
    clear HS2
    by_cases hlt : n < k + 1
    · have hnl : n < l.length := by have := HK.out; clear hs; omega
      have y1 : decide ((n : Int) < (k : Int) + 1) = true := decide_eq_true (by clear hs; omega)
      have y2 : decide (n < k + 1) = true := decide_eq_true hlt
      have y3 : (n < k + 1) = True := eq_true hlt
      have y4 : ((n : Int) < (k : Int) + 1) = True := eq_true (by clear hs; omega)
      have y5 : (n ≤ k) = True := eq_true (by clear hs; omega)
      have y6 : decide ((n : Int) < ((k + 1 : Nat) : Int)) = true := decide_eq_true (by clear hs; omega)
      have n16 : n ≤ 9223372036854775806 := by clear hs; omega
      obtain ⟨ad', A6, c6, hade, d0, d1, d2, d3, d4, d5, d6, l6, g6⟩ := at_T47 (Kd.C_below HR.out hs.below) (n : Int) (Int.natCast_nonneg _) (Int.ofNat_lt.2 hnl)
      obtain ⟨ad0, A60, c60, hade0, _, _, _, _, _, _, d60, l60, g60⟩ := at_T47 HR.out (n : Int) (Int.natCast_nonneg _) (Int.ofNat_lt.2 hnl)
      injection hade with hade
      subst hade
      injection hade0 with hade0
      subst hade0
      have he6 := ((hs.below.cell (World.block_lt_of_cell? _ _ d60)).trans d60).symm.trans d6
      injection he6 with he6
      injection he6 with he6 _ he7
      subst he6 he7
      simp only [Int.toNat_natCast] at d0 d1 d2 d3 d4 d5 d6
      have HL6 := Aside0.mk l6
      have HG6 := Aside0.mk g60
      have HHP := Aside0.mk (HA.out n hlt)
      have HHU := Aside0.mk (HU.out n hnl)
      have HOK := Aside0.mk (comeF_ok hW hH HU.out n (Nat.le_of_lt hnl) fun i hi => HA.out i (Nat.lt_trans hi hlt))
      have hnx : comeF W H l (n + 1) = (comeF W H l n).put W (rd_T47 l n) := rfl
      have HNX := Aside0.mk hnx; clear hnx
      have HLT := Aside0.mk hlt
      have HS3 := Aside0.mk hs; clear hs g6 g60 l6 l60 d60 hnl hlt hn
      generalize hp : rd_T47 l n = p at *
      have HPP := Aside0.mk hp; clear hp
      go_wp2_with ((with_reducible refine gate_ (.store 47 (.tmp 13) (.tmp 42)) rfl ?_); refine St.storeB rfl rfl 47 (.tmp 13) (.tmp 42) rfl 0 _ [.int .i64 p.f0, .int .i64 p.f1, .bool p.f2, .bool p.f3, .int .i64 p.f4.f0, .int .i64 p.f4.f1, .slice A60 p.f4.f2.length c60] #[.int .i64 p.f0, .int .i64 p.f1, .bool p.f2, .bool p.f3, .int .i64 p.f4.f0, .int .i64 p.f4.f1, .slice A60 p.f4.f2.length c60] rfl rfl rfl (by kernel_rfl) (by simp [Value.oneCell']) (HS3.out.alloc #[.int .i64 0, .int .i64 0, .bool false, .bool false, .int .i64 0, .int .i64 0, .slice none 0 0] 47) (by simp) rfl ?_; intro w4 hs; have b0 := (hs.cell 0).trans rfl; have b1 := (hs.cell 1).trans rfl; have b2 := (hs.cell 2).trans rfl; have b3 := (hs.cell 3).trans rfl; have b4 := (hs.cell 4).trans rfl; have b5 := (hs.cell 5).trans rfl; have b6 := (hs.cell 6).trans rfl; have HS4 := Aside0.mk hs; clear hs)
      refine (canvas_put g gb W H (comeF W H l n) p A60 c60 _ w _ hW hH HOK.out HHU.out HG6.out HL6.out HHP.out HS4.out.swap).mono ?_; rintro e w5 ⟨rfl, hs⟩
      have HS5 := Aside0.mk hs.swap.drop; clear hs
      go_wp2_with fail
      go_roundw
      case rel => exact ⟨n + 1, HLT.out, rfl, by go_num, by rw [HNX.out]; exact HS5.out⟩
      case measure => have := HLT.out; simp [intOf]; omega
    · obtain rfl : k + 1 = n := Nat.le_antisymm (Nat.le_of_not_lt hlt) hn
      have y1 : decide (((k + 1 : Nat) : Int) < (k : Int) + 1) = false := decide_eq_false (by clear hs; omega)
      have HS3 := Aside0.mk hs; clear hs hlt hn
      go_wp2_with fail
      have HOK := Aside0.mk (comeF_ok hW hH HU.out (k + 1) HK.out HA.out)
      have hpl : (comeF W H l (k + 1)).pix.length ≤ 268435456 := nat_big (by have := (mul_area hW hH).2; rw [← HOK.out.1] at this; exact this)
      have HPL := Aside0.mk hpl; clear hpl
      refine (canvas_Image_ok g gb W H _ _ _ _ (comeF W H l (k + 1)).pix _ w _ HPL.out HS3.out).mono ?_; rintro e w5 ⟨B, cB, rfl, hs⟩
      have HS5 := Aside0.mk hs.rot3; clear hs
      go_wp2_with ((with_reducible refine gate_ (.store 31 (.tmp 8) (.tmp 52)) rfl ?_); refine St.storeB rfl rfl 31 (.tmp 8) (.tmp 52) rfl 0 _ [.int .i64 W, .int .i64 H, .slice B (comeF W H l (k + 1)).pix.length cB] #[.int .i64 W, .int .i64 H, .slice B (comeF W H l (k + 1)).pix.length cB] rfl rfl rfl (by kernel_rfl) (by simp [Value.oneCell']) HS5.out (by simp) rfl ?_; intro w6 hs; have HS6 := Aside0.mk hs; clear hs)
      refine bodyPost_ret (results_ct rfl _ _ w.heap.size 31 #[.int .i64 W, .int .i64 H, .slice B (comeF W H l (k + 1)).pix.length cB] (0, 0) _ rfl HS6.out.blk Try.underlying31 rfl (by kernel_rfl)) rfl ?_
      exact ⟨B, cB, rfl, HS6.out.drop.swap.drop⟩
end Go.Proofs.Ytegifkffhnhccaa.P
