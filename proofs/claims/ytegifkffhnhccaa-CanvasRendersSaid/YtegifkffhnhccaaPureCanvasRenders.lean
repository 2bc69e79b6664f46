/- The canvas behind any part, pixel by pixel; or why none. -/
import Derived.Test.YtegifkffhnhccaaCanvasEv
namespace Go.Proofs.Ytegifkffhnhccaa.Pure
open Go Go.RowKit Go.Proofs.Ytegifkffhnhccaa.P Go.Proofs.YtegifkffhnhccaaW.PrintWords Go.Proofs.YtegifkffhnhccaaW.PrintLast Go.Proofs.YtegifkffhnhccaaW.PrintMore Go.Proofs.Ytegifkffhnhccaa.U
set_option linter.unusedVariables false
theorem answers_ev : Ev (fun _ => marquetrylaw27_answers.f) true := Ev.now _
section
variable {W H : Int} {l : List Pt}
/-- Are the parts up to one all good? -/
theorem scan_loop (hW : 1 ≤ W ∧ W ≤ 60) (hH : 1 ≤ H ∧ H ≤ 60) {kk : Nat} (hk : kk < l.length) (hl : l.length < 3000) {e ew eh : Int} {ep : List Int} {r : Bool}
    (h : ∀ b : Bool, (b = true ↔ allIn W H l (kk + 1)) → Ev (fun k => marquetrylaw27_CanvasRenders.j2 k W H kk e b (l.map toR) ew eh ep) r) (d : Nat) :
    ∀ i : Nat, i + d = kk + 1 → allIn W H l i → Ev (fun k => marquetrylaw27_CanvasRenders.l0 k W H kk e true (l.map toR) i ew eh ep) r := by
  induction d with
  | zero =>
    intro i hd ha
    obtain rfl : i = kk + 1 := by omega
    refine Ev.succ ?_
    simp only [marquetrylaw27_CanvasRenders.l0]
    exact Ev.ite_neg (by omega) (h true ⟨fun _ => ha, fun _ => rfl⟩)
  | succ d ih =>
    intro i hd ha
    have hil : i < l.length := by omega
    refine Ev.succ ?_
    simp only [marquetrylaw27_CanvasRenders.l0]
    refine Ev.ite_pos (by omega) (Ev.ite_pos trivial (Ev.ite_pos (by omega) (Ev.ite_pos (by rw [List.length_map]; omega) ?_)))
    rw [rd_toR i hil]
    refine Ev.bindo (within_eq hW hH (rd_T47 l i)) ?_
    rw [w64 (by omega) (by omega)]
    by_cases c : partIn W H (rd_T47 l i)
    · rw [decide_eq_true c]
      refine ih (i + 1) (by omega) fun j hj => ?_
      by_cases e : j = i
      · subst e; exact c
      · exact ha j (by omega)
    · rw [decide_eq_false c]
      have no : ¬ allIn W H l (kk + 1) := fun hh => c (hh i (by omega))
      refine Ev.succ ?_
      simp only [marquetrylaw27_CanvasRenders.l0]
      have hj := h false (Iff.intro (fun h => absurd h (by decide)) (fun hh => absurd hh no))
      by_cases c2 : (i : Int) + 1 ≤ kk
      · exact Ev.ite_pos c2 (Ev.ite_neg (by simp) hj)
      · exact Ev.ite_neg c2 hj
theorem pix_loop (hW : 1 ≤ W ∧ W ≤ 60) (hH : 1 ≤ H ∧ H ≤ 60) (hu : partsU l) {kk : Nat} (hk : kk < l.length) (hl : l.length < 3000) (ha : allIn W H l (kk + 1)) {pix : List Int} (hp : (pix.length : Int) = W * H)
    (hpix : ∀ x y : Int, 0 ≤ x → x < W → 0 ≤ y → y < H → rd pix (y * W + x) = pixN l x y (kk + 1)) (d : Nat) :
    ∀ i : Nat, i + d = pix.length → Ev (fun k => marquetrylaw27_CanvasRenders.l1 k W kk (l.map toR) i W H pix) true := by
  have hm := mul60 (a := W) (b := H) (by omega) (by omega) (by omega) (by omega)
  induction d with
  | zero =>
    intro i hd
    refine Ev.succ ?_
    simp only [marquetrylaw27_CanvasRenders.l1]
    exact Ev.ite_neg (by omega) (Ev.now _)
  | succ d ih =>
    intro i hd
    have ih := ih (i + 1) (by omega)
    refine Ev.succ ?_
    simp only [marquetrylaw27_CanvasRenders.l1]
    have q1 : (i : Int) / W * W + i % W = i := Int.ediv_mul_add_emod _ _
    have q2 := Int.emod_nonneg (i : Int) (show W ≠ 0 by omega)
    have q3 := Int.emod_lt_of_pos (i : Int) (show 0 < W by omega)
    have q4 : 0 ≤ (i : Int) / W := Int.ediv_nonneg (by omega) (by omega)
    have q5 : (i : Int) / W < H := Int.ediv_lt_of_lt_mul (by omega) (by rw [Int.mul_comm]; omega)
    refine Ev.ite_pos (by omega) (Ev.ite_pos (by omega) (Ev.ite_neg (by omega) ?_))
    rw [Int.tmod_eq_emod_of_nonneg (by omega), Int.tdiv_eq_ediv_of_nonneg (by omega), w64 (n := (i : Int) / W) (by omega) (by omega), w64 (n := (i : Int) + 1) (by omega) (by omega)]
    have hx := hpix _ _ q2 q3 q4 q5
    rw [q1] at hx
    exact Ev.bind (pixel_ev hW hH hu hk hl ha q2 q3 q4 q5) (Ev.ite_pos hx ih)
end
theorem CanvasRenders : marquetrylaw27_CanvasRenders.Pure := by
  intro W H l k _ _ _ hl64 hq hkw
  have hk64 := wf_i64 hkw
  refine Ev.rounds (g := fun kk => marquetrylaw27_CanvasRenders.f kk W H l k) ?_
  unfold marquetrylaw27_CanvasRenders.f
  obtain ⟨b, hb1, hb2⟩ := small_ev (W := W) (H := H) hl64 hq
  refine Ev.bind hb1 ?_
  cases b
  case false => exact Ev.ite_neg (by simp) (Ev.bind answers_ev (Ev.now _))
  refine Ev.ite_pos rfl ?_
  obtain ⟨w60, h60, len⟩ := hb2 rfl
  have hu := (part_known hq).1
  -- the end where there is none
  have none_end : ∀ {x : Bool} (hno : ¬ askOk W H l k), x = false → Ev (fun kk => marquetrylaw27_CanvasRenders.j2 kk W H k 1 x (l.map toR) 0 0 []) true := by
    intro x hno hx
    subst hx
    refine Ev.succ ?_
    simp only [marquetrylaw27_CanvasRenders.j2]
    exact Ev.ite_neg (by simp) (Ev.bind answers_ev (Ev.ite_pos (by trivial) (Ev.ite_pos (by trivial) (Ev.now _))))
  have out : ∀ hno : ¬ askOk W H l k, Ev (fun kk => marquetrylaw27_CanvasRenders.j0 kk W H l k 1 false 0 0 []) true := by
    intro hno
    refine Ev.succ ?_
    simp only [marquetrylaw27_CanvasRenders.j0]
    refine Ev.bind (parts_ev len) (Ev.succ ?_)
    simp only [marquetrylaw27_CanvasRenders.l0]
    by_cases c2 : (0 : Int) ≤ k
    · exact Ev.ite_pos c2 (Ev.ite_neg (by simp) (none_end hno rfl))
    · exact Ev.ite_neg c2 (none_end hno rfl)
  by_cases ask : askOk W H l k
  · have hr : canvas_Render.f W H l k = some (W, H, (comeF W H l (k.toNat + 1)).pix, 0) := by
      unfold canvas_Render.f renderF
      rw [if_pos hu, if_pos ask]
    refine Ev.bindo hr ?_
    obtain ⟨⟨hW, hH⟩, ⟨k0, k1⟩, ha⟩ := ask
    obtain ⟨kk, rfl⟩ := Int.eq_ofNat_of_zero_le k0
    simp only [Int.toNat_natCast] at ha ⊢
    have hW' : 1 ≤ W ∧ W ≤ 60 := ⟨hW.1, w60⟩
    have hH' : 1 ≤ H ∧ H ≤ 60 := ⟨hH.1, h60⟩
    refine Ev.ite_pos hW.1 (Ev.ite_pos hH.1 (Ev.ite_pos k0 (Ev.succ ?_)))
    simp only [marquetrylaw27_CanvasRenders.j0]
    refine Ev.bind (parts_ev len) ?_
    rw [decide_eq_true k1]
    refine scan_loop hW' hH' (by omega) len ?_ (kk + 1) 0 (by omega) (fun i hi => by omega)
    intro b hb
    obtain rfl : b = true := hb.2 ha
    have ok := comeF_ok hW hH (partsU_rd hu) (kk + 1) (by omega) ha
    have hm := mul60 (a := W) (b := H) (by omega) (by omega) (by omega) (by omega)
    refine Ev.succ ?_
    simp only [marquetrylaw27_CanvasRenders.j2]
    refine Ev.ite_pos trivial (Ev.ite_pos trivial (Ev.ite_pos trivial (Ev.ite_pos trivial (Ev.ite_pos (by rw [w64 (by omega) (by omega)]; exact ok.1) (Ev.bind answers_ev (Ev.succ ?_))))))
    simp only [marquetrylaw27_CanvasRenders.j3]
    refine Ev.ite_neg (by simp) ?_
    exact pix_loop hW' hH' hu (by omega) len ha ok.1 (fun x y h1 h2 h3 h4 => rd_come hW hH (partsU_rd hu) h1 h2 h3 h4 (kk + 1) (by omega) ha) _ 0 (Nat.zero_add _)
  · have hr : canvas_Render.f W H l k = some (0, 0, [], 1) := by
      unfold canvas_Render.f renderF
      rw [if_pos hu, if_neg ask]
    refine Ev.bindo hr ?_
    show Ev (fun kk => if W ≥ 1 then (if H ≥ 1 then (if k ≥ 0 then marquetrylaw27_CanvasRenders.j0 kk W H l k 1 (decide (k < (l.length : Int))) 0 0 [] else marquetrylaw27_CanvasRenders.j0 kk W H l k 1 false 0 0 []) else marquetrylaw27_CanvasRenders.j0 kk W H l k 1 false 0 0 []) else marquetrylaw27_CanvasRenders.j0 kk W H l k 1 false 0 0 []) true
    by_cases c1 : W ≥ 1
    case neg => exact Ev.ite_neg c1 (out ask)
    refine Ev.ite_pos c1 ?_
    by_cases c2 : H ≥ 1
    case neg => exact Ev.ite_neg c2 (out ask)
    refine Ev.ite_pos c2 ?_
    by_cases c3 : k ≥ 0
    case neg => exact Ev.ite_neg c3 (out ask)
    refine Ev.ite_pos c3 ?_
    by_cases c4 : k < (l.length : Int)
    case neg => rw [decide_eq_false c4]; exact out ask
    obtain ⟨kk, rfl⟩ := Int.eq_ofNat_of_zero_le c3
    rw [decide_eq_true c4]
    refine Ev.succ ?_
    simp only [marquetrylaw27_CanvasRenders.j0]
    refine Ev.bind (parts_ev len) ?_
    refine scan_loop ⟨c1, w60⟩ ⟨c2, h60⟩ (by omega) len ?_ (kk + 1) 0 (by omega) (fun i hi => by omega)
    intro b hb
    refine none_end ask ?_
    cases b
    · rfl
    · exact absurd ⟨⟨⟨c1, by omega⟩, ⟨c2, by omega⟩⟩, ⟨by omega, c4⟩, hb.1 rfl⟩ ask
end Go.Proofs.Ytegifkffhnhccaa.Pure
