/- Pixels outside of all parts so far are nothing. -/
import Derived.Test.YtegifkffhnhccaaCanvasEv
namespace Go.Proofs.Ytegifkffhnhccaa.Pure
open Go Go.RowKit Go.Proofs.Ytegifkffhnhccaa.P Go.Proofs.YtegifkffhnhccaaW.PrintWords Go.Proofs.YtegifkffhnhccaaW.PrintLast Go.Proofs.YtegifkffhnhccaaW.PrintMore Go.Proofs.Ytegifkffhnhccaa.U
set_option linter.unusedVariables false
theorem answers_ev : Ev (fun _ => marquetrylaw27_answers.f) true := Ev.now _
section
variable {W H : Int} {l : List Pt}
/-- One pixel: is it in one of the parts? -/
theorem ins_loop (hW : 1 ≤ W ∧ W ≤ 60) (hH : 1 ≤ H ∧ H ≤ 60) {kk : Nat} (hk : kk < l.length) (hl : l.length < 3000) (ha : allIn W H l (kk + 1)) {pix : List Int} {at_ : Nat} (hat : at_ < pix.length) (hx : (at_ : Int) / W < H)
    (hin : ¬ (∃ i : Nat, i < kk + 1 ∧ insP (rd_T47 l i) ((at_ : Int) % W) ((at_ : Int) / W)) → rd pix (at_ : Int) = 0)
    (h : Ev (fun k => marquetrylaw27_CanvasOutside.l0 k W l kk 0 ((at_ : Int) + 1) W H pix) true) (hw : (at_ : Int) ≤ 3600) (d : Nat) :
    ∀ (i : Nat) (b : Bool), i + d = kk + 1 → (b = true ↔ ∃ j : Nat, j < i ∧ insP (rd_T47 l j) ((at_ : Int) % W) ((at_ : Int) / W)) → Ev (fun k => marquetrylaw27_CanvasOutside.l1 k W l kk 0 at_ b i W H pix) true := by
  have q2 := Int.emod_nonneg (at_ : Int) (show W ≠ 0 by omega)
  have q3 := Int.emod_lt_of_pos (at_ : Int) (show 0 < W by omega)
  have q4 : 0 ≤ (at_ : Int) / W := Int.ediv_nonneg (by omega) (by omega)
  generalize hX : (at_ : Int) % W = X at *
  generalize hY : (at_ : Int) / W = Y at *
  have eX : Int.tmod (at_ : Int) W = X := by rw [Int.tmod_eq_emod_of_nonneg (by omega), hX]
  have eY : wrap64 (Int.tdiv (at_ : Int) W) = Y := by rw [Int.tdiv_eq_ediv_of_nonneg (by omega), hY, w64 (by omega) (by omega)]
  induction d with
  | zero =>
    intro i b hd hb
    obtain rfl : i = kk + 1 := by omega
    refine Ev.succ ?_
    simp only [marquetrylaw27_CanvasOutside.l1]
    refine Ev.ite_neg (by omega) ?_
    rw [w64 (n := (at_ : Int) + 1) (by omega) (by omega)]
    cases b
    · refine Ev.ite_neg (by simp) (Ev.ite_pos (by omega) (Ev.ite_pos (by omega) (Ev.ite_pos (hin fun hh => ?_) h)))
      have := hb.2 hh
      cases this
    · exact Ev.ite_pos rfl h
  | succ d ih =>
    intro i b hd hb
    have hil : i < l.length := by omega
    obtain ⟨b1, b2, b3, b4, b5, b6, b7⟩ := part_bd hW hH (ha i (by omega))
    have ih := fun b' hb' => ih (i + 1) b' (by omega) hb'
    refine Ev.succ ?_
    simp only [marquetrylaw27_CanvasOutside.l1, eX, eY]
    rw [w64 (n := (i : Int) + 1) (by omega) (by omega), w64 (n := X - _) (by omega) (by omega), w64 (n := Y - _) (by omega) (by omega)]
    refine Ev.ite_pos (by omega) (Ev.ite_neg (by omega) (Ev.ite_pos (by omega) (Ev.ite_pos (by omega) ?_)))
    cases b
    case true =>
      refine Ev.ite_pos rfl (ih true ⟨fun _ => ?_, fun _ => rfl⟩)
      obtain ⟨j, h1, h2⟩ := hb.1 rfl
      exact ⟨j, by omega, h2⟩
    refine Ev.ite_neg (by simp) ?_
    have no : ∀ j : Nat, j < i → ¬ insP (rd_T47 l j) X Y := fun j hj hh => by
      have := hb.2 ⟨j, hj, hh⟩
      cases this
    have fin : ∀ c : Bool, (c = true ↔ insP (rd_T47 l i) X Y) → Ev (fun k => marquetrylaw27_CanvasOutside.l1 k W l kk 0 at_ c ((i : Int) + 1) W H pix) true := by
      intro c hc
      refine ih c ⟨fun hh => ⟨i, by omega, hc.1 hh⟩, fun ⟨j, h1, h2⟩ => ?_⟩
      by_cases e : j = i
      · subst e; exact hc.2 h2
      · exact absurd h2 (no j (by omega))
    have noi : (¬ (X - (rd_T47 l i).f0 ≥ 0 ∧ Y - (rd_T47 l i).f1 ≥ 0 ∧ X - (rd_T47 l i).f0 < (rd_T47 l i).f4.f0)) → Ev (fun k => marquetrylaw27_CanvasOutside.l1 k W l kk 0 at_ false ((i : Int) + 1) W H pix) true := by
      intro c
      refine fin false (Iff.intro (fun h => absurd h (by decide)) fun hh => ?_)
      unfold insP inR at hh
      exact absurd ⟨by omega, by omega, by omega⟩ c
    by_cases c1 : X - (rd_T47 l i).f0 ≥ 0
    case neg => exact Ev.ite_neg c1 (noi fun h => c1 h.1)
    refine Ev.ite_pos c1 ?_
    by_cases c2 : Y - (rd_T47 l i).f1 ≥ 0
    case neg => exact Ev.ite_neg c2 (noi fun h => c2 h.2.1)
    refine Ev.ite_pos c2 ?_
    by_cases c3 : X - (rd_T47 l i).f0 < (rd_T47 l i).f4.f0
    case neg => exact Ev.ite_neg c3 (noi fun h => c3 h.2.2)
    refine Ev.ite_pos c3 (fin _ ?_)
    unfold insP inR
    rw [decide_eq_true_eq]
    constructor
    · intro h; omega
    · intro h; omega
theorem out_loop (hW : 1 ≤ W ∧ W ≤ 60) (hH : 1 ≤ H ∧ H ≤ 60) (hu : partsU l) {kk : Nat} (hk : kk < l.length) (hl : l.length < 3000) (ha : allIn W H l (kk + 1)) {pix : List Int} (hp : (pix.length : Int) = W * H)
    (hpix : ∀ x y : Int, 0 ≤ x → x < W → 0 ≤ y → y < H → rd pix (y * W + x) = pixN l x y (kk + 1)) (d : Nat) :
    ∀ i : Nat, i + d = pix.length → Ev (fun k => marquetrylaw27_CanvasOutside.l0 k W l kk 0 i W H pix) true := by
  have hm := mul60 (a := W) (b := H) (by omega) (by omega) (by omega) (by omega)
  induction d with
  | zero =>
    intro i hd
    refine Ev.succ ?_
    simp only [marquetrylaw27_CanvasOutside.l0]
    refine Ev.ite_neg (by omega) (Ev.succ ?_)
    simp only [marquetrylaw27_CanvasOutside.j1]
    exact Ev.ite_neg (by simp) (Ev.bind answers_ev (Ev.now _))
  | succ d ih =>
    intro i hd
    have ih := ih (i + 1) (by omega)
    refine Ev.succ ?_
    simp only [marquetrylaw27_CanvasOutside.l0]
    refine Ev.ite_pos (by omega) (Ev.succ ?_)
    simp only [marquetrylaw27_CanvasOutside.j1]
    have q1 : (i : Int) / W * W + i % W = i := Int.ediv_mul_add_emod _ _
    have q2 := Int.emod_nonneg (i : Int) (show W ≠ 0 by omega)
    have q3 := Int.emod_lt_of_pos (i : Int) (show 0 < W by omega)
    have q4 : 0 ≤ (i : Int) / W := Int.ediv_nonneg (by omega) (by omega)
    have q5 : (i : Int) / W < H := Int.ediv_lt_of_lt_mul (by omega) (by rw [Int.mul_comm]; omega)
    have hx := hpix _ _ q2 q3 q4 q5
    rw [q1] at hx
    refine Ev.ite_pos (by simp) (ins_loop hW hH hk hl ha (by omega) q5 (fun hno => ?_) ih (by omega) (kk + 1) 0 false (Nat.zero_add _) (Iff.intro (fun h => absurd h (by decide)) fun ⟨j, hj, _⟩ => absurd hj (Nat.not_lt_zero _)))
    rw [hx]
    exact pixN_out (kk + 1) fun j hj hh => hno ⟨j, hj, hh⟩
end
theorem CanvasOutside : marquetrylaw27_CanvasOutside.Pure := by
  intro W H l k _ _ _ hl64 hq hkw
  refine Ev.rounds (g := fun kk => marquetrylaw27_CanvasOutside.f kk W H l k) ?_
  unfold marquetrylaw27_CanvasOutside.f
  obtain ⟨b, hb1, hb2⟩ := small_ev (W := W) (H := H) hl64 hq
  refine Ev.bind hb1 ?_
  cases b
  case false => exact Ev.ite_neg (by simp) (Ev.bind answers_ev (Ev.now _))
  refine Ev.ite_pos rfl ?_
  obtain ⟨w60, h60, len⟩ := hb2 rfl
  have hu := (part_known hq).1
  by_cases ask : askOk W H l k
  · have hr : canvas_Render.f W H l k = some (W, H, (comeF W H l (k.toNat + 1)).pix, 0) := by
      unfold canvas_Render.f renderF
      rw [if_pos hu, if_pos ask]
    refine Ev.bindo hr ?_
    obtain ⟨⟨hW, hH⟩, ⟨k0, k1⟩, ha⟩ := ask
    obtain ⟨kk, rfl⟩ := Int.eq_ofNat_of_zero_le k0
    simp only [Int.toNat_natCast] at ha ⊢
    have ok := comeF_ok hW hH (partsU_rd hu) (kk + 1) (by omega) ha
    exact out_loop ⟨hW.1, w60⟩ ⟨hH.1, h60⟩ hu (by omega) len ha ok.1 (fun x y h1 h2 h3 h4 => rd_come hW hH (partsU_rd hu) h1 h2 h3 h4 (kk + 1) (by omega) ha) _ 0 (Nat.zero_add _)
  · have hr : canvas_Render.f W H l k = some (0, 0, [], 1) := by
      unfold canvas_Render.f renderF
      rw [if_pos hu, if_neg ask]
    refine Ev.bindo hr (Ev.succ ?_)
    simp only [marquetrylaw27_CanvasOutside.l0]
    refine Ev.ite_neg (by simp) (Ev.succ ?_)
    simp only [marquetrylaw27_CanvasOutside.j1]
    exact Ev.ite_neg (by simp) (Ev.bind answers_ev (Ev.now _))
end Go.Proofs.Ytegifkffhnhccaa.Pure
