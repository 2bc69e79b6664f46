/- The parts as the document's: the same cells. -/
import Derived.Test.YtegifkffhnhccaaApp
import Derived.Test.YtegifkffhnhccaaMcv9
namespace Go.Proofs.Ytegifkffhnhccaa.P
open Go Go.RowKit Go.Proofs.YtegifkffhnhccaaW.PrintWords Go.Proofs.YtegifkffhnhccaaW.PrintLast Go.Proofs.YtegifkffhnhccaaW.PrintMore
set_option linter.unusedVariables false
set_option linter.unusedSimpArgs false
attribute [local go_sem] max2_int min2_int max_two min_two max_three min_three max_four min_four
/-- The seven cells of a part. -/
def cells7 (p : S47) (A : Option Addr) (c : Nat) : List Value := [.int .i64 p.f0, .int .i64 p.f1, .bool p.f2, .bool p.f3, .int .i64 p.f4.f0, .int .i64 p.f4.f1, .slice A p.f4.f2.length c]
theorem take_cells {w : World} {ad : Addr} {n : Nat} {xs : List Value} {l : List S47} (hr : ReadsCells w 7 (some ad) n xs) (hk : KL k47 w l xs) (i : Nat) (hi : i < n) (hl : l.length = n) :
    ∃ A c, xs.take (7 * (i + 1)) = xs.take (7 * i) ++ cells7 (rd_T47 l i) A c ∧ (rd_T47 l i).f4.f2.length ≤ c ∧ Kd.C (Kd.int .u32) w A (rd_T47 l i).f4.f2.length (rd_T47 l i).f4.f2 ∧
      ∀ j u, (cells7 (rd_T47 l i) A c)[j]? = some u → w.cell? (ad.add (i * 7 + j)) = some u := by
  have e : rd_T47 l i = l[i]'(by omega) := by simp [rd_T47, List.getD_eq_getElem?_getD, show i < l.length by omega]
  obtain ⟨cs, h1, h2, h3⟩ := KL_get hk i (rd_T47 l i) (by rw [e]; exact List.getElem?_eq_getElem (by omega))
  obtain ⟨A6, c6, rfl, l6, g6⟩ := k47_open h2
  have h3' : ∀ j u, (cells7 (rd_T47 l i) A6 c6)[j]? = some u → xs[i * 7 + j]? = some u := h3
  obtain ⟨ad', he, hc⟩ := hr.2.2 (by omega)
  injection he with he
  subst he
  refine ⟨A6, c6, ?_, l6, g6, fun j u hu => hc _ u (h3' j u hu)⟩
  have hlen := hr.1
  apply List.ext_getElem?
  intro k
  rcases Nat.lt_or_ge k (7 * i) with c | c
  · rw [List.getElem?_append_left (by rw [List.length_take]; omega), List.getElem?_take_of_lt (by omega), List.getElem?_take_of_lt c]
  rcases Nat.lt_or_ge k (7 * (i + 1)) with c' | c'
  · rw [List.getElem?_take_of_lt c', List.getElem?_append_right (by rw [List.length_take]; omega), List.length_take, Nat.min_eq_left (by omega)]
    have hj : k - 7 * i < (cells7 (rd_T47 l i) A6 c6).length := by show k - 7 * i < 7; omega
    rw [List.getElem?_eq_getElem hj]
    have := h3' (k - 7 * i) _ (List.getElem?_eq_getElem hj)
    rw [show i * 7 + (k - 7 * i) = k by omega] at this
    exact this
  · rw [List.getElem?_eq_none (by rw [List.length_take]; omega), List.getElem?_eq_none (by rw [List.length_append, List.length_take]; show k ≥ _ + 7; omega)]
set_option maxHeartbeats 4000000 in
set_option maxRecDepth 100000 in
theorem parts_st (A : Option Addr) (c : Nat) (l : List S47) (xs : List Value) (w : World) (hc : l.length ≤ c) (hl : l.length < 3000) (hr : ReadsCells w 7 A l.length xs) (hk : KL k47 w l xs) :
    Calls Try.prog 15 #[.slice A l.length c] w fun e w' => ∃ B cB, e = .returned (.slice B l.length cB) ∧ St w w' (Asrt.row 39 7 (.slice B l.length cB) l.length xs * Asrt.emp) := by
  have HS := Aside0.mk ((St.refl w).rowNil 39 7)
  have HR := Aside0.mk hr
  have HK := Aside0.mk hk
  clear hr hk
  go_enter Try.func15, Try.ntmps15
  go_wp2_with fail
  go_loopw [3, 4] (fun v i wr => ∃ (n : Nat) (B : Option Addr) (cB : Nat), n ≤ l.length ∧ v = .slice B n cB ∧ i = .int .i64 n ∧ St w wr (Asrt.row 39 7 (.slice B n cB) n (xs.take (7 * n)) * Asrt.emp)) (fun _ i _ => l.length - (intOf i).toNat)
  case atStart => exact ⟨0, none, 0, by omega, rfl, rfl, by simpa using HS.out⟩
  case round =>
    obtain ⟨n, B, cB, hn, rfl, rfl, hs⟩ := hrel
    clear HS
    by_cases hlt : n < l.length
    · have y1 : decide ((n : Int) < l.length) = true := decide_eq_true (by omega)
      have y2 : decide (n < l.length) = true := decide_eq_true hlt
      have hA : ∃ ad, A = some ad := by
        obtain ⟨ad, h, _⟩ := HR.out.2.2 (by omega)
        exact ⟨ad, h⟩
      obtain ⟨ad, rfl⟩ := hA
      obtain ⟨A6, c6, ht, _, _, hcl⟩ := take_cells HR.out HK.out n hlt rfl
      have hcw : ∀ j u, (cells7 (rd_T47 l n) A6 c6)[j]? = some u → wr.cell? (ad.add (n * 7 + j)) = some u := fun j u hu => (hs.below.cell (World.block_lt_of_cell? _ _ (hcl j u hu))).trans (hcl j u hu)
      have d0 := hcw 0 _ rfl
      have d1 := hcw 1 _ rfl
      have d2 := hcw 2 _ rfl
      have d3 := hcw 3 _ rfl
      have d4 := hcw 4 _ rfl
      have d5 := hcw 5 _ rfl
      have d6 := hcw 6 _ rfl
      rw [Nat.add_zero] at d0
      rw [add_field _ _ 1 (by omega)] at d1
      rw [add_field _ _ 2 (by omega)] at d2
      rw [add_field _ _ 3 (by omega)] at d3
      rw [add_field _ _ 4 (by omega)] at d4
      rw [add_field _ _ 5 (by omega)] at d5
      rw [add_field _ _ 6 (by omega)] at d6
      have e0 := hcl 0 _ rfl
      have e1 := hcl 1 _ rfl
      have e2 := hcl 2 _ rfl
      have e3 := hcl 3 _ rfl
      have e4 := hcl 4 _ rfl
      have e5 := hcl 5 _ rfl
      have e6 := hcl 6 _ rfl
      rw [Nat.add_zero] at e0
      rw [add_field _ _ 1 (by omega)] at e1
      rw [add_field _ _ 2 (by omega)] at e2
      rw [add_field _ _ 3 (by omega)] at e3
      rw [add_field _ _ 4 (by omega)] at e4
      rw [add_field _ _ 5 (by omega)] at e5
      rw [add_field _ _ 6 (by omega)] at e6
      have hs2 := (((hs.drew).allocCells 39 7 1 (cells7 (rd_T47 l n) A6 c6) rfl (by decide)).swap)
      have HS2 := Aside0.mk hs2
      have HT := Aside0.mk ht
      have hone : ∀ u ∈ cells7 (rd_T47 l n) A6 c6, u.oneCell' = true := by simp [cells7, Value.oneCell']
      have HONE := Aside0.mk hone
      have hbytes : (n + 1) * 64 ≤ 140737488355328 := by omega
      clear hs hs2 ht hcl hcw hone
      generalize hp : rd_T47 l n = p at *
      go_upto_region 5 with (fail)
      have HW := Aside0.mk (St.refl wr).below
      go_region_held3 (fun w' => w'.cell? (ad.add (n * 7)) = some (.int .i64 p.f0) ∧ w'.cell? ⟨(ad.add (n * 7)).block, (ad.add (n * 7)).off + 1, none⟩ = some (.int .i64 p.f1) ∧ w'.cell? ⟨(ad.add (n * 7)).block, (ad.add (n * 7)).off + 2, none⟩ = some (.bool p.f2) ∧ w'.cell? ⟨(ad.add (n * 7)).block, (ad.add (n * 7)).off + 3, none⟩ = some (.bool p.f3) ∧ w'.cell? ⟨(ad.add (n * 7)).block, (ad.add (n * 7)).off + 4, none⟩ = some (.int .i64 p.f4.f0) ∧ w'.cell? ⟨(ad.add (n * 7)).block, (ad.add (n * 7)).off + 5, none⟩ = some (.int .i64 p.f4.f1) ∧ w'.cell? ⟨(ad.add (n * 7)).block, (ad.add (n * 7)).off + 6, none⟩ = some (.slice A6 p.f4.f2.length c6)) (go_keep) (first | (refine St.append_cells_step (w0 := w) (by rfl) (.tmp 11) (.tmp 38) 35 39 (.agg #[.int .i64 0, .int .i64 0, .bool false, .bool false, .int .i64 0, .int .i64 0, .slice none 0 0]) 7 64 rfl Try.underlying35 (by kernel_rfl) rfl (by decide) (by decide) _ n (xs.take (7 * n)) (cells7 p A6 c6) (some ⟨_, 0, none⟩) 1 1 rfl rfl HS2.out (rowReadsC HS2.out.swap HONE.out) hbytes ?_; intro A1 c1 w1 hs; rw [← HT.out] at hs; have HS3 := Aside0.mk hs; have q0 := (hs.below.cell (World.block_lt_of_cell? w _ e0)).trans e0; have q1 := (hs.below.cell (World.block_lt_of_cell? w _ e1)).trans e1; have q2 := (hs.below.cell (World.block_lt_of_cell? w _ e2)).trans e2; have q3 := (hs.below.cell (World.block_lt_of_cell? w _ e3)).trans e3; have q4 := (hs.below.cell (World.block_lt_of_cell? w _ e4)).trans e4; have q5 := (hs.below.cell (World.block_lt_of_cell? w _ e5)).trans e5; have q6 := (hs.below.cell (World.block_lt_of_cell? w _ e6)).trans e6; clear hs))
      clear d0 d1 d2 d3 d4 d5 d6 e0 e1 e2 e3 e4 e5 e6
      go_wp2_with fail
      go_roundw
      case rel => exact ⟨n + 1, A1, c1, hlt, rfl, by go_num, HS3.out.swap.drop⟩
      case measure => simp [intOf]; omega
    · have y1 : decide ((n : Int) < l.length) = false := decide_eq_false (by omega)
      have y2 : decide (n < l.length) = false := decide_eq_false hlt
      obtain rfl : n = l.length := by omega
      have HSJ := Aside0.mk hs
      clear hs
      go_wp2_with fail
      go_ret
      refine ⟨B, cB, rfl, ?_⟩
      have h := HSJ.out
      rw [List.take_of_length_le (by rw [HR.out.1]; omega)] at h
      exact h
end Go.Proofs.Ytegifkffhnhccaa.P
