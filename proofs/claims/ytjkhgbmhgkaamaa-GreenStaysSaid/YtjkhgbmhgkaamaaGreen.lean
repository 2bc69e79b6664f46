/- What green that is taken away, and given back, comes to. -/
import Derived.Test.YtjkhgbmhgkaamaaPx
import Derived.Test.YtjkhgbmhgkaamaaPix
import Derived.Test.YtjkhgbmhgkaamaaPixMake
namespace Go.Proofs.Ytjkhgbmhgkaamaa.Pure
open Go Go.RowKit Go.Proofs.Ytjkhgbmhgkaamaa.P Go.Proofs.YtjkhgbmhgkaamaaW.PrintWords Go.Proofs.YtjkhgbmhgkaamaaW.PrintLast Go.Proofs.YtjkhgbmhgkaamaaW.PrintMore Go.Proofs.Ytjkhgbmhgkaamaa.U

/-- Red and blue less green; more green. -/
def gS (p : Int) : Int := join4 (pA p) (pR p - pG p) (pG p) (pB p - pG p)
def gA (p : Int) : Int := join4 (pA p) (pR p + pG p) (pG p) (pB p + pG p)
def U32s (l : List Int) : Prop := ∀ x ∈ l, U32 x
theorem u32s_of {l : List Int} (h : ∀ y ∈ l, (Lit.int .u32 y).wf = true) : U32s l := fun x hx => wf_u32 (h x hx)
theorem u32s_map (f : Int → Int) (h : ∀ x, U32 (f x)) (l : List Int) : U32s (l.map f) := by
  intro x hx
  obtain ⟨y, _, rfl⟩ := List.mem_map.1 hx
  exact h y
theorem u32_gS (p : Int) : U32 (gS p) := u32_join _ _ _ _
theorem u32_gA (p : Int) : U32 (gA p) := u32_join _ _ _ _
theorem gA_gS {p : Int} (h : U32 p) : gA (gS p) = p := by
  have h0 := pA_bd h
  have h1 := pR_bd p
  have h2 := pG_bd p
  have h3 := pB_bd p
  refine parts_ext (u32_gA _) h ?_ ?_ ?_ ?_ <;> unfold gA gS
  · rw [pA_join, pA_join]; omega
  · rw [pR_join, pR_join, pG_join]; omega
  · rw [pG_join, pG_join]; omega
  · rw [pB_join, pB_join, pG_join]; omega
theorem gS_gA {p : Int} (h : U32 p) : gS (gA p) = p := by
  have h0 := pA_bd h
  have h1 := pR_bd p
  have h2 := pG_bd p
  have h3 := pB_bd p
  refine parts_ext (u32_gS _) h ?_ ?_ ?_ ?_ <;> unfold gA gS
  · rw [pA_join, pA_join]; omega
  · rw [pR_join, pR_join, pG_join]; omega
  · rw [pG_join, pG_join]; omega
  · rw [pB_join, pB_join, pG_join]; omega
theorem map_back {f g : Int → Int} (h : ∀ p, U32 p → f (g p) = p) {l : List Int} (hl : U32s l) : (l.map g).map f = l := by
  rw [List.map_map]
  conv => rhs; rw [← List.map_id l]
  exact List.map_congr_left (fun x hx => h x (hl x hx))
theorem rd_mem {l : List Int} {i : Int} (h0 : 0 ≤ i) (h : i < l.length) : rd l i ∈ l := by
  unfold rd
  rw [List.getD_eq_getElem?_getD, List.getElem?_eq_getElem (by omega)]
  exact List.getElem_mem _
theorem rd_nat {l : List Int} {i : Nat} (h : i < l.length) : rd l (i : Int) = l[i] := by
  unfold rd
  rw [Int.toNat_natCast, List.getD_eq_getElem?_getD, List.getElem?_eq_getElem h]; rfl
theorem map_take (f : Int → Int) {l : List Int} {i : Nat} (h : i < l.length) : (l.take i).map f ++ [f (rd l (i : Int))] = (l.take (i + 1)).map f := by
  rw [rd_nat h, List.take_succ_eq_append_getElem h, List.map_append]; rfl
theorem greens_eq (p : Int) : pixel_Make.f 0 (p / 256 % 256) 0 (p / 256 % 256) = some (pG p * 65536 + pG p) := by
  have h2 := pG_bd p
  rw [make_eq _ _ _ _ (by omega) (by unfold pG at h2; exact h2) (by omega) (by unfold pG at h2; exact h2)]
  unfold pG; congr 1; omega
theorem greens_parts (p : Int) : U32 (pG p * 65536 + pG p) ∧ pA (pG p * 65536 + pG p) = 0 ∧ pR (pG p * 65536 + pG p) = pG p ∧ pG (pG p * 65536 + pG p) = 0 ∧ pB (pG p * 65536 + pG p) = pG p := by
  have h2 := pG_bd p
  generalize pG p = g at *
  have e1 : (g * 65536 + g) / 65536 = g := by omega
  have e2 : (g * 65536 + g) / 256 = g * 256 := by omega
  have e3 : (g * 65536 + g) / 16777216 = 0 := by omega
  have e4 : (g * 65536 + g) % 256 = g := by omega
  unfold U32 pA pR pG pB
  rw [e1, e2, e3, e4]
  omega
theorem sub_greens {p : Int} (h : U32 p) : pixel_Sub.f p (pG p * 65536 + pG p) = some (gS p) := by
  obtain ⟨u, a, b, c, d⟩ := greens_parts p
  rw [Sub_eq h u]
  unfold each4 gS fSub
  rw [a, b, c, d, Int.sub_zero, Int.sub_zero]
theorem add_greens {p : Int} (h : U32 p) : pixel_Add.f p (pG p * 65536 + pG p) = some (gA p) := by
  obtain ⟨u, a, b, c, d⟩ := greens_parts p
  rw [Add_eq h u]
  unfold each4 gA fAdd
  rw [a, b, c, d, Int.add_zero, Int.add_zero]

theorem turnS_loop {l : List Int} (hl : U32s l) (hlen : l.length ≤ 268435456) (w h : Int) (d : Nat) : ∀ i : Nat, i + d = l.length →
    Ev (fun k => green_turn__pixel_Sub.l0 k l l.length i w h ((l.take i).map gS)) (w, h, l.map gS, 0) := by
  induction d with
  | zero =>
    intro i hd
    refine Ev.succ ?_
    simp only [green_turn__pixel_Sub.l0]
    refine Ev.ite_neg (by omega) (Ev.fin ?_)
    rw [List.take_of_length_le (by omega)]
  | succ d ih =>
    intro i hd
    refine Ev.succ ?_
    simp only [green_turn__pixel_Sub.l0]
    have hu := hl _ (rd_mem (l := l) (i := (i : Int)) (by omega) (by omega))
    refine Ev.ite_pos (by omega) (Ev.ite_pos (by omega) (Ev.ite_pos (by omega) ?_))
    simp only [pixel_Parts.f, Option.bind_some, greens_eq, sub_greens hu]
    refine Ev.ite_pos (by simp; omega) ?_
    rw [map_take gS (by omega), w64 (by omega) (by omega)]
    exact ih (i + 1) (by omega)
theorem turnA_loop {l : List Int} (hl : U32s l) (hlen : l.length ≤ 268435456) (w h : Int) (d : Nat) : ∀ i : Nat, i + d = l.length →
    Ev (fun k => green_turn__pixel_Add.l0 k l l.length i w h ((l.take i).map gA)) (w, h, l.map gA, 0) := by
  induction d with
  | zero =>
    intro i hd
    refine Ev.succ ?_
    simp only [green_turn__pixel_Add.l0]
    refine Ev.ite_neg (by omega) (Ev.fin ?_)
    rw [List.take_of_length_le (by omega)]
  | succ d ih =>
    intro i hd
    refine Ev.succ ?_
    simp only [green_turn__pixel_Add.l0]
    have hu := hl _ (rd_mem (l := l) (i := (i : Int)) (by omega) (by omega))
    refine Ev.ite_pos (by omega) (Ev.ite_pos (by omega) (Ev.ite_pos (by omega) ?_))
    simp only [pixel_Parts.f, Option.bind_some, greens_eq, add_greens hu]
    refine Ev.ite_pos (by simp; omega) ?_
    rw [map_take gA (by omega), w64 (by omega) (by omega)]
    exact ih (i + 1) (by omega)
theorem Forth_ev {w h : Int} {l : List Int} (hl : U32s l) (hg : good w h l) : Ev (fun k => green_Forth.f k w h l) (w, h, l.map gS, 0) := by
  unfold green_Forth.f green_turn__pixel_Sub.f
  have := good_len hg
  simp only [pgood_eq, hg, decide_true, Option.bind_some, if_true]
  refine Ev.bind (turnS_loop hl (by omega) w h l.length 0 (by omega)) (Ev.now _)
theorem Back_ev {w h : Int} {l : List Int} (hl : U32s l) (hg : good w h l) : Ev (fun k => green_Back.f k w h l) (w, h, l.map gA, 0) := by
  unfold green_Back.f green_turn__pixel_Add.f
  have := good_len hg
  simp only [pgood_eq, hg, decide_true, Option.bind_some, if_true]
  refine Ev.bind (turnA_loop hl (by omega) w h l.length 0 (by omega)) (Ev.now _)
theorem Forth_bad {w h : Int} {l : List Int} (hg : ¬ good w h l) : Ev (fun k => green_Forth.f k w h l) (0, 0, [], 1) := by
  unfold green_Forth.f green_turn__pixel_Sub.f
  simp only [pgood_eq, hg, decide_false, Option.bind_some]
  exact Ev.bind (Ev.ite_neg (by decide) (Ev.now _)) (Ev.now _)
theorem Back_bad {w h : Int} {l : List Int} (hg : ¬ good w h l) : Ev (fun k => green_Back.f k w h l) (0, 0, [], 1) := by
  unfold green_Back.f green_turn__pixel_Add.f
  simp only [pgood_eq, hg, decide_false, Option.bind_some]
  exact Ev.bind (Ev.ite_neg (by decide) (Ev.now _)) (Ev.now _)
theorem good_map {w h : Int} {l : List Int} (f : Int → Int) (hg : good w h l) : good w h (l.map f) := by
  unfold good at *
  rw [List.length_map]
  exact hg
theorem answers_ev : Ev (fun k => marquetrylaw15_answers.f k) true := by
  unfold marquetrylaw15_answers.f
  refine Ev.bind (Forth_ev (l := [1052688]) (by intro x hx; simp at hx; subst hx; decide) (by decide)) ?_
  refine Ev.ite_pos rfl (Ev.ite_pos (by decide) (Ev.ite_pos (by decide) (Ev.fin (by decide))))
end Go.Proofs.Ytjkhgbmhgkaamaa.Pure
