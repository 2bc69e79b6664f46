/- What the printed functions of layer 27 come to. -/
import Derived.Test.YtegifkffhnhccaaPx
import Derived.Test.YtegifkffhnhccaaCanvasLaw
import Derived.Test.YtegifkffhnhccaaU
namespace Go.Proofs.Ytegifkffhnhccaa.Pure
open Go Go.RowKit Go.Proofs.Ytegifkffhnhccaa.P Go.Proofs.YtegifkffhnhccaaW.PrintWords Go.Proofs.YtegifkffhnhccaaW.PrintLast Go.Proofs.YtegifkffhnhccaaW.PrintMore Go.Proofs.Ytegifkffhnhccaa.U
set_option linter.unusedVariables false
set_option linter.unusedSimpArgs false
abbrev Pt := S47
abbrev Rt := S39
/-- What is known of a part that came in. -/
theorem part_known {l : List Pt} (h : ∀ y ∈ l, q47 y) : partsU l ∧ ∀ i : Nat, i < l.length → (rd_T47 l i).f4.f2.length ≤ 35184372087808 := by
  constructor
  · intro p hp x hx
    have := h p hp
    unfold q47 at this
    exact wf_u32 (this.2.2.2.2.2.2.2.2 x hx)
  · intro i hi
    have e : rd_T47 l i = l[i] := by simp [rd_T47, List.getD_eq_getElem?_getD, hi]
    have := h _ (List.getElem_mem hi)
    unfold q47 at this
    rw [e]
    have := this.2.2.2.2.2.2.2.1
    omega
theorem small_loop {W H : Int} {l : List Pt} (hl : l.length ≤ 2199023255552) (hq : ∀ i : Nat, i < l.length → (rd_T47 l i).f4.f2.length ≤ 35184372087808) (d : Nat) : ∀ (i : Nat) (n : Int), i + d = l.length → (i : Int) ≤ n → n ≤ 35184372100000 →
    ∃ b : Bool, Ev (fun k => marquetrylaw27_small.l0 k W H l n i) b ∧ (b = true → W ≤ 60 ∧ H ≤ 60 ∧ l.length < 3000) := by
  have fin : ∀ n : Int, (n < 3000 → (l.length : Int) ≤ n) → ∃ b : Bool, Ev (fun k => if W ≤ 60 then (if H ≤ 60 then some (decide (n < 3000)) else some false) else some false) b ∧ (b = true → W ≤ 60 ∧ H ≤ 60 ∧ l.length < 3000) := by
    intro n hn
    by_cases c1 : W ≤ 60
    case neg => exact ⟨false, Ev.ite_neg c1 (Ev.now _), by simp⟩
    by_cases c2 : H ≤ 60
    case neg => exact ⟨false, Ev.ite_pos c1 (Ev.ite_neg c2 (Ev.now _)), by simp⟩
    exact ⟨_, Ev.ite_pos c1 (Ev.ite_pos c2 (Ev.now _)), fun h => ⟨c1, c2, by have := of_decide_eq_true h; have := hn this; omega⟩⟩
  induction d with
  | zero =>
    intro i n hd hn hb
    obtain ⟨b, h1, h2⟩ := fin n (fun _ => by omega)
    refine ⟨b, Ev.succ ?_, h2⟩
    simp only [marquetrylaw27_small.l0]
    exact Ev.ite_neg (by omega) h1
  | succ d ih =>
    intro i n hd hn hb
    by_cases c : n < 3000
    · have := hq i (by omega)
      obtain ⟨b, h1, h2⟩ := ih (i + 1) (n + 1 + ((rd_T47 l i).f4.f2.length : Int)) (by omega) (by omega) (by omega)
      refine ⟨b, Ev.succ ?_, h2⟩
      simp only [marquetrylaw27_small.l0]
      refine Ev.ite_pos (by omega) (Ev.ite_pos c (Ev.ite_pos (by omega) ?_))
      rw [w64 (n := n + 1) (by omega) (by omega), w64 (by omega) (by omega), w64 (by omega) (by omega)]
      exact h1
    · obtain ⟨b, h1, h2⟩ := fin n (fun h => absurd h c)
      refine ⟨b, Ev.succ ?_, h2⟩
      simp only [marquetrylaw27_small.l0]
      exact Ev.ite_pos (by omega) (Ev.ite_neg c h1)
theorem small_ev {W H : Int} {l : List Pt} (hl : l.length * 64 ≤ 140737488351232) (h : ∀ y ∈ l, q47 y) : ∃ b : Bool, Ev (fun k => marquetrylaw27_small.f k W H l) b ∧ (b = true → W ≤ 60 ∧ H ≤ 60 ∧ l.length < 3000) := by
  unfold marquetrylaw27_small.f
  exact small_loop (by omega) (part_known h).2 l.length 0 0 (by omega) (by omega) (by omega)
/-- As the document's. -/
def toR (p : Pt) : Rt := ⟨p.f0, p.f1, p.f2, p.f3, ⟨p.f4.f0, p.f4.f1, p.f4.f2⟩⟩
theorem rd_toR {l : List Pt} (i : Nat) (h : i < l.length) : rd_T39 (l.map toR) i = toR (rd_T47 l i) := by
  simp [rd_T39, rd_T47, List.getD_eq_getElem?_getD, h]
theorem parts_loop {l : List Pt} (hl : l.length < 3000) (d : Nat) : ∀ (i : Nat), i + d = l.length → Ev (fun k => marquetrylaw27_parts.l0 k l ((l.take i).map toR) i) (l.map toR) := by
  induction d with
  | zero =>
    intro i hd
    refine Ev.succ ?_
    simp only [marquetrylaw27_parts.l0]
    refine Ev.ite_neg (by omega) (Ev.fin ?_)
    rw [List.take_of_length_le (by omega)]
  | succ d ih =>
    intro i hd
    refine Ev.succ ?_
    simp only [marquetrylaw27_parts.l0]
    refine Ev.ite_pos (by omega) (Ev.ite_pos (by omega) (Ev.ite_pos (by rw [List.length_map, List.length_take]; omega) ?_))
    rw [w64 (by omega) (by omega)]
    have := ih (i + 1) (by omega)
    have hi : i < l.length := by omega
    have e : (l.take (i + 1)).map toR = (l.take i).map toR ++ [toR (rd_T47 l i)] := by
      rw [List.take_succ_eq_append_getElem hi, List.map_append]
      simp [rd_T47, List.getD_eq_getElem?_getD, hi]
    rw [e] at this
    exact this
theorem parts_ev {l : List Pt} (hl : l.length < 3000) : Ev (fun k => marquetrylaw27_parts.f k l) (l.map toR) := by
  unfold marquetrylaw27_parts.f
  exact parts_loop hl l.length 0 (by omega)
theorem ref_good_eq (a b : Int) (l : List Int) : marquetryref11_Good.f a b l = some (decide (goodI a b l)) := by
  unfold marquetryref11_Good.f
  by_cases c1 : a ≥ 1
  case neg => rw [if_neg c1, decide_eq_false (fun h : goodI a b l => c1 h.1.1)]
  by_cases c2 : a ≤ 16384
  case neg => rw [if_pos c1, if_neg c2, decide_eq_false (fun h : goodI a b l => c2 h.1.2)]
  by_cases c3 : b ≥ 1
  case neg => rw [if_pos c1, if_pos c2, if_neg c3, decide_eq_false (fun h : goodI a b l => c3 h.2.1.1)]
  by_cases c4 : b ≤ 16384
  case neg => rw [if_pos c1, if_pos c2, if_pos c3, if_neg c4, decide_eq_false (fun h : goodI a b l => c4 h.2.1.2)]
  rw [if_pos c1, if_pos c2, if_pos c3, if_pos c4]
  have := mul_area (w := a) (h := b) ⟨c1, c2⟩ ⟨c3, c4⟩
  rw [w64 (by omega) (by omega)]
  congr 1
  by_cases c : (l.length : Int) = a * b
  · rw [decide_eq_true (show goodI a b l from ⟨⟨c1, c2⟩, ⟨c3, c4⟩, c⟩)]; simp [c]
  · rw [decide_eq_false (fun h : goodI a b l => c h.2.2)]; simp [c]
theorem within_eq {W H : Int} (hW : 1 ≤ W ∧ W ≤ 60) (hH : 1 ≤ H ∧ H ≤ 60) (p : Pt) : marquetryref24_Within.f W H p.f0 p.f1 p.f2 p.f3 p.f4.f0 p.f4.f1 p.f4.f2 = some (decide (partIn W H p)) := by
  unfold marquetryref24_Within.f
  rw [ref_good_eq, Option.bind_some]
  by_cases c0 : goodI p.f4.f0 p.f4.f1 p.f4.f2
  case neg => rw [decide_eq_false c0, if_neg (by decide), decide_eq_false (fun h : partIn W H p => c0 h.1)]
  rw [decide_eq_true c0, if_pos rfl]
  have g := c0
  unfold goodI sideOk at g
  obtain ⟨⟨g1, g2⟩, ⟨g3, g4⟩, _⟩ := g
  by_cases c1 : p.f0 ≥ 0
  case neg => rw [if_neg c1, decide_eq_false (fun h : partIn W H p => c1 h.2.1)]
  by_cases c2 : p.f1 ≥ 0
  case neg => rw [if_pos c1, if_neg c2, decide_eq_false (fun h : partIn W H p => c2 h.2.2.1)]
  by_cases c3 : p.f4.f0 ≤ W
  case neg => rw [if_pos c1, if_pos c2, if_neg c3, decide_eq_false (fun h : partIn W H p => c3 (by have := h.2.2.2.1; omega))]
  by_cases c4 : p.f4.f1 ≤ H
  case neg => rw [if_pos c1, if_pos c2, if_pos c3, if_neg c4, decide_eq_false (fun h : partIn W H p => c4 (by have := h.2.2.2.2; omega))]
  rw [if_pos c1, if_pos c2, if_pos c3, if_pos c4, w64 (by omega) (by omega), w64 (by omega) (by omega)]
  by_cases c5 : p.f0 ≤ W - p.f4.f0
  case neg => rw [if_neg c5, decide_eq_false (fun h : partIn W H p => c5 h.2.2.2.1)]
  rw [if_pos c5]
  congr 1
  by_cases c6 : p.f1 ≤ H - p.f4.f1
  · rw [decide_eq_true c6, decide_eq_true (show partIn W H p from ⟨c0, c1, c2, c5, c6⟩)]
  · rw [decide_eq_false c6, decide_eq_false (fun h : partIn W H p => c6 h.2.2.2.2)]
/-- What is known of a part that is on a small canvas. -/
theorem part_bd {W H : Int} (hW : 1 ≤ W ∧ W ≤ 60) (hH : 1 ≤ H ∧ H ≤ 60) {p : Pt} (h : partIn W H p) : (0 ≤ p.f0 ∧ p.f0 ≤ 60) ∧ (0 ≤ p.f1 ∧ p.f1 ≤ 60) ∧ (1 ≤ p.f4.f0 ∧ p.f4.f0 ≤ 60) ∧ (1 ≤ p.f4.f1 ∧ p.f4.f1 ≤ 60) ∧ p.f0 + p.f4.f0 ≤ W ∧ p.f1 + p.f4.f1 ≤ H ∧ (p.f4.f2.length : Int) = p.f4.f0 * p.f4.f1 := by
  obtain ⟨⟨⟨a1, a2⟩, ⟨a3, a4⟩, a5⟩, a6, a7, a8, a9⟩ := h
  refine ⟨?_, ?_, ?_, ?_, ?_, ?_, a5⟩ <;> clear a5 <;> omega
theorem inside_eq {W H : Int} (hW : 1 ≤ W ∧ W ≤ 60) (hH : 1 ≤ H ∧ H ≤ 60) {p : Pt} (h : partIn W H p) (x y : Int) : marquetryref24_inside.f (toR p).f0 (toR p).f1 (toR p).f2 (toR p).f3 (toR p).f4.f0 (toR p).f4.f1 (toR p).f4.f2 x y = some (decide (insP p x y)) := by
  obtain ⟨b1, b2, b3, b4, b5, b6, _⟩ := part_bd hW hH h
  show marquetryref24_inside.f p.f0 p.f1 p.f2 p.f3 p.f4.f0 p.f4.f1 p.f4.f2 x y = _
  unfold marquetryref24_inside.f
  rw [w64 (by omega) (by omega), w64 (by omega) (by omega)]
  by_cases c1 : x ≥ p.f0
  case neg => rw [if_neg c1, decide_eq_false (fun h : insP p x y => c1 h.1)]
  by_cases c2 : y ≥ p.f1
  case neg => rw [if_pos c1, if_neg c2, decide_eq_false (fun h : insP p x y => c2 h.2.1)]
  by_cases c3 : x < p.f0 + p.f4.f0
  case neg => rw [if_pos c1, if_pos c2, if_neg c3, decide_eq_false (fun h : insP p x y => c3 h.2.2.1)]
  rw [if_pos c1, if_pos c2, if_pos c3]
  congr 1
  by_cases c4 : y < p.f1 + p.f4.f1
  · rw [decide_eq_true c4, decide_eq_true (show insP p x y from ⟨c1, c2, c3, c4⟩)]
  · rw [decide_eq_false c4, decide_eq_false (fun h : insP p x y => c4 h.2.2.2)]
theorem mul60 {a b : Int} (a0 : 0 ≤ a) (a1 : a ≤ 60) (b0 : 0 ≤ b) (b1 : b ≤ 60) : 0 ≤ a * b ∧ a * b ≤ 3600 := mul_bd (X := 60) (Y := 60) a0 a1 b0 b1
theorem pixel_loop {W H : Int} (hW : 1 ≤ W ∧ W ≤ 60) (hH : 1 ≤ H ∧ H ≤ 60) {l : List Pt} (hu : partsU l) {kk : Nat} (hk : kk < l.length) (hl : l.length < 3000) (ha : allIn W H l (kk + 1)) {x y : Int} (hx : 0 ≤ x) (hxW : x < W) (hy : 0 ≤ y) (hyH : y < H) (d : Nat) :
    ∀ i : Nat, i + d = kk + 1 → Ev (fun k => marquetryref24_Pixel.l0 k (l.map toR) kk x y (pixN l x y i) i) (pixN l x y (kk + 1)) := by
  induction d with
  | zero =>
    intro i hd
    obtain rfl : i = kk + 1 := by omega
    refine Ev.succ ?_
    simp only [marquetryref24_Pixel.l0]
    exact Ev.ite_neg (by omega) (Ev.now _)
  | succ d ih =>
    intro i hd
    have ih := ih (i + 1) (by omega)
    have hpi := ha i (by omega)
    have hil : i < l.length := by omega
    obtain ⟨b1, b2, b3, b4, b5, b6, b7⟩ := part_bd hW hH hpi
    have hUi := pixN_U32 (W := W) (H := H) (x := x) (y := y) (partsU_rd hu) i (by omega) fun j hj => ha j (by omega)
    -- behind what went
    have j2 : ∀ v : Int, v = goneP l x y i (pixN l x y i) → Ev (fun k => marquetryref24_Pixel.j2 k (l.map toR) kk x y v i) (pixN l x y (kk + 1)) := by
      intro v hv
      have hg : U32 v := by
        rw [hv]
        cases i with
        | zero => exact hUi
        | succ i =>
          rw [goneP]
          split
          · unfold U32; omega
          · exact hUi
      refine Ev.succ ?_
      simp only [marquetryref24_Pixel.j2]
      refine Ev.ite_pos (by omega) (Ev.ite_pos (by rw [List.length_map]; omega) ?_)
      rw [rd_toR i hil, inside_eq hW hH hpi]
      have hnx : ∀ v' : Int, v' = pixN l x y (i + 1) → Ev (fun k => marquetryref24_Pixel.l0 k (l.map toR) kk x y v' (wrap64 ((i : Int) + 1))) (pixN l x y (kk + 1)) := by
        intro v' hv'
        rw [w64 (by omega) (by omega), hv']
        exact ih
      refine Ev.bindo rfl ?_
      by_cases c : insP (rd_T47 l i) x y
      · refine Ev.ite_pos (decide_eq_true c) ?_
        have cc := c
        obtain ⟨c1, c2, c3, c4⟩ := cc
        have hin := at_in (W := (rd_T47 l i).f4.f0) (H := (rd_T47 l i).f4.f1) (x := x - (rd_T47 l i).f0) (y := y - (rd_T47 l i).f1) (by omega) (by omega) (by omega) (by omega)
        have hm := mul60 (a := y - (rd_T47 l i).f1) (b := (rd_T47 l i).f4.f0) (by omega) (by omega) (by omega) (by omega)
        have e : wrap64 (wrap64 (wrap64 (wrap64 (y - (toR (rd_T47 l i)).f1) * (toR (rd_T47 l i)).f4.f0) + x) - (toR (rd_T47 l i)).f0) = (y - (rd_T47 l i).f1) * (rd_T47 l i).f4.f0 + (x - (rd_T47 l i).f0) := by
          show wrap64 (wrap64 (wrap64 (wrap64 (y - (rd_T47 l i).f1) * (rd_T47 l i).f4.f0) + x) - (rd_T47 l i).f0) = _
          rw [w64 (n := y - _) (by omega) (by omega), w64 (n := (y - (rd_T47 l i).f1) * _) (by omega) (by omega), w64 (n := (y - (rd_T47 l i).f1) * (rd_T47 l i).f4.f0 + x) (by omega) (by omega), w64 (by omega) (by omega)]
          omega
        rw [e]
        have hq : rd (toR (rd_T47 l i)).f4.f2 ((y - (rd_T47 l i).f1) * (rd_T47 l i).f4.f0 + (x - (rd_T47 l i).f0)) = rd (rd_T47 l i).f4.f2 ((y - (rd_T47 l i).f1) * (rd_T47 l i).f4.f0 + (x - (rd_T47 l i).f0)) := rfl
        have hqU : U32 (rd (rd_T47 l i).f4.f2 ((y - (rd_T47 l i).f1) * (rd_T47 l i).f4.f0 + (x - (rd_T47 l i).f0))) := partsU_rd hu i hil _ (rd_mem hin.1 (by rw [b7]; exact hin.2))
        refine Ev.ite_pos hin.1 (Ev.ite_pos (by show _ < ((rd_T47 l i).f4.f2.length : Int); rw [b7]; exact hin.2) ?_)
        rw [hq]
        have hp1 : pixN l x y (i + 1) = partP (rd_T47 l i).f2 v (rd (rd_T47 l i).f4.f2 ((y - (rd_T47 l i).f1) * (rd_T47 l i).f4.f0 + (x - (rd_T47 l i).f0))) := by
          rw [pixN, drawP, if_pos c, ← hv]
        by_cases ck : (rd_T47 l i).f2 = true
        · refine Ev.ite_pos ck (hnx _ ?_)
          rw [hp1, partP, if_pos ck]
        · refine Ev.ite_neg ck ?_
          refine Ev.bindo (b := overP v (rd (rd_T47 l i).f4.f2 ((y - (rd_T47 l i).f1) * (rd_T47 l i).f4.f0 + (x - (rd_T47 l i).f0)))) (by rw [marquetryref24_Over.f, if_pos ⟨hg, hqU⟩]) (hnx _ ?_)
          rw [hp1, partP, if_neg ck]
      · refine Ev.ite_neg (by simp [c]) (hnx _ ?_)
        rw [pixN, drawP, if_neg c, hv]
    have j1 : ∀ b : Bool, (if b = true then 0 else pixN l x y i) = goneP l x y i (pixN l x y i) → Ev (fun k => marquetryref24_Pixel.j1 k (l.map toR) kk x y (pixN l x y i) i b) (pixN l x y (kk + 1)) := by
      intro b hb
      refine Ev.succ ?_
      simp only [marquetryref24_Pixel.j1]
      cases b
      · exact Ev.ite_neg (by simp) (j2 _ (by simpa using hb))
      · exact Ev.ite_pos rfl (j2 _ (by simpa using hb))
    refine Ev.succ ?_
    simp only [marquetryref24_Pixel.l0]
    refine Ev.ite_pos (by omega) ?_
    cases i with
    | zero => exact Ev.ite_neg (by omega) (j1 false (by simp [goneP]))
    | succ i =>
      have hpj := ha i (by omega)
      rw [w64 (n := ((i + 1 : Nat) : Int) - 1) (by omega) (by omega), show ((i + 1 : Nat) : Int) - 1 = (i : Int) by omega, rd_toR i (by omega)]
      refine Ev.ite_pos (by omega) (Ev.ite_pos (by omega) (Ev.ite_pos (by rw [List.length_map]; omega) ?_))
      by_cases c : (rd_T47 l i).f3 = true
      · refine Ev.ite_pos c (Ev.bindo (inside_eq hW hH hpj x y) (j1 _ ?_))
        rw [goneP]
        by_cases ci : insP (rd_T47 l i) x y
        · rw [if_pos (decide_eq_true ci), if_pos ⟨c, ci⟩]
        · rw [if_neg (by simp [ci]), if_neg (fun h => ci h.2)]
      · refine Ev.ite_neg c (j1 false ?_)
        rw [goneP, if_neg (by simp), if_neg (fun h => c h.1)]
theorem pixel_ev {W H : Int} (hW : 1 ≤ W ∧ W ≤ 60) (hH : 1 ≤ H ∧ H ≤ 60) {l : List Pt} (hu : partsU l) {kk : Nat} (hk : kk < l.length) (hl : l.length < 3000) (ha : allIn W H l (kk + 1)) {x y : Int} (hx : 0 ≤ x) (hxW : x < W) (hy : 0 ≤ y) (hyH : y < H) :
    Ev (fun k => marquetryref24_Pixel.f k (l.map toR) kk x y) (pixN l x y (kk + 1)) := by
  unfold marquetryref24_Pixel.f
  exact pixel_loop hW hH hu hk hl ha hx hxW hy hyH (kk + 1) 0 (by omega)
end Go.Proofs.Ytegifkffhnhccaa.Pure
