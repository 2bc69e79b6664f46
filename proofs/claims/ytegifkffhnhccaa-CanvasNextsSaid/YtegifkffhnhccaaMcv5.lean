/- Part by part: what the canvas is. -/
import Derived.Test.YtegifkffhnhccaaMcv4
namespace Go.Proofs.Ytegifkffhnhccaa.P
open Go Go.RowKit Go.Proofs.YtegifkffhnhccaaW.PrintWords Go.Proofs.YtegifkffhnhccaaW.PrintLast Go.Proofs.YtegifkffhnhccaaW.PrintMore
set_option linter.unusedVariables false
set_option linter.unusedSimpArgs false

/-- What a canvas keeps: the place that is to go, and the pixels. -/
structure CV where
  lx : Int
  ly : Int
  lw : Int
  lh : Int
  pix : List Int
def CV.start (W H : Int) : CV := ⟨0, 0, 0, 0, List.replicate (W * H).toNat 0⟩
def CV.ok (W H : Int) (s : CV) : Prop := (s.pix.length : Int) = W * H ∧ placeOk W H s.lx s.ly s.lw s.lh ∧ ∀ x ∈ s.pix, U32 x
def CV.put (W : Int) (s : CV) (p : S47) : CV := ⟨if p.f3 then p.f0 else 0, if p.f3 then p.f1 else 0, if p.f3 then p.f4.f0 else 0, if p.f3 then p.f4.f1 else 0, drawRows W (clearRows W s.pix s.lx s.ly s.lw s.lh.toNat) p.f0 p.f1 p.f4.f0 p.f2 p.f4.f2 p.f4.f1.toNat⟩
def partIn (W H : Int) (p : S47) : Prop := withinC W H p.f0 p.f1 p.f4.f0 p.f4.f1 p.f4.f2
instance (W H : Int) (p : S47) : Decidable (partIn W H p) := by unfold partIn; infer_instance
def partU (p : S47) : Prop := ∀ x ∈ p.f4.f2, U32 x
def CV.obj (g h : Nat) (W H : Int) (s : CV) : Asrt := canvO g h W H s.lx s.ly s.lw s.lh s.pix
theorem CV.start_ok {W H : Int} (hW : sideOk W) (hH : sideOk H) : (CV.start W H).ok W H := by
  have := (mul_area hW hH).1
  refine ⟨?_, .inl rfl, ?_⟩
  · rw [CV.start, List.length_replicate, Int.toNat_of_nonneg (Int.le_trans (by decide) this)]
  · intro x hx
    rw [(List.mem_replicate.1 hx).2]
    unfold U32
    omega
theorem CV.put_ok {W H : Int} {s : CV} {p : S47} (hW : sideOk W) (hH : sideOk H) (hs : s.ok W H) (hp : partIn W H p) (hu : partU p) : (s.put W p).ok W H := by
  obtain ⟨⟨⟨a1, a2⟩, ⟨a3, a4⟩, a5⟩, a6, a7, a8, a9⟩ := hp
  obtain ⟨h1, h2, h3⟩ := hs
  have b1 : p.f0 + p.f4.f0 ≤ W := by clear h1; omega
  have b2 : p.f1 + p.f4.f1 ≤ H := by clear h1; omega
  have b3 : 0 ≤ p.f4.f1 := Int.le_trans (by decide) a3
  have hcl : (clearRows W s.pix s.lx s.ly s.lw s.lh.toNat).length = s.pix.length := by
    rcases h2 with h0 | h0
    · rw [h0]; rfl
    · exact clearRows_len hW h1 h0.1 h0.2.1 h0.2.2.1 h0.2.2.2.1 h0.2.2.2.2.2 _ (by have := h0.2.2.2.2.1; clear h0 h1; omega)
  refine ⟨?_, ?_, drawRows_U32 (clearRows_U32 h3 _ _ _ _) hu _ _ _ _ _⟩
  · rw [CV.put, drawRows_len (ph := p.f4.f1) hW (by rw [hcl]; exact h1) a6 a7 a1 b1 b2 p.f2 p.f4.f2 a5 _ (by rw [Int.toNat_of_nonneg b3]; exact Int.le_refl _), hcl]
    exact h1
  · unfold CV.put
    cases p.f3
    · exact .inl rfl
    · exact .inr ⟨a6, a7, a1, b1, b3, b2⟩
/-- A part comes that may. -/
theorem canvas_put (g h : Nat) (W H : Int) (s : CV) (p : S47) (PA : Option Addr) (pc : Nat) (r : Asrt) (w0 w : World)
    (hW : sideOk W) (hH : sideOk H) (hk : s.ok W H) (hu : partU p) (hr : Kd.C (Kd.int .u32) w0 PA p.f4.f2.length p.f4.f2) (hc : p.f4.f2.length ≤ pc) (hp : partIn W H p)
    (hs : St w0 w (s.obj g h W H * r)) :
    Calls Try.prog 20 #[.pointer (some ⟨g, 0, none⟩), .agg #[.int .i64 p.f0, .int .i64 p.f1, .bool p.f2, .bool p.f3, .int .i64 p.f4.f0, .int .i64 p.f4.f1, .slice PA p.f4.f2.length pc]] w fun e w' => e = .returned (.int .i64 0) ∧ St w0 w' ((s.put W p).obj g h W H * r) :=
  canvas_Next_in g h W H s.lx s.ly s.lw s.lh s.pix p.f0 p.f1 p.f4.f0 p.f4.f1 p.f2 p.f3 PA pc p.f4.f2 r w0 w hW hH hk.1 hk.2.1 hk.2.2 hu hr hc hp hs
/-- A part comes that may not. -/
theorem canvas_put_no (g h : Nat) (W H : Int) (s : CV) (p : S47) (PA : Option Addr) (pc : Nat) (r : Asrt) (w0 w : World)
    (hW : sideOk W) (hH : sideOk H) (hr : Kd.C (Kd.int .u32) w0 PA p.f4.f2.length p.f4.f2) (hc : p.f4.f2.length ≤ pc) (hp : ¬ partIn W H p)
    (hs : St w0 w (s.obj g h W H * r)) :
    Calls Try.prog 20 #[.pointer (some ⟨g, 0, none⟩), .agg #[.int .i64 p.f0, .int .i64 p.f1, .bool p.f2, .bool p.f3, .int .i64 p.f4.f0, .int .i64 p.f4.f1, .slice PA p.f4.f2.length pc]] w fun e w' => e = .returned (.int .i64 1) ∧ St w0 w' (s.obj g h W H * r) :=
  (canvas_Next_out g h W H s.lx s.ly s.lw s.lh s.pix p.f0 p.f1 p.f4.f0 p.f4.f1 p.f2 p.f3 PA pc p.f4.f2 r w0 w hW hH (Kd.C_below hr hs.below) hc hp hs).mono fun e w' hh => ⟨hh.1, hs.belowR hh.2⟩
/-- The canvas behind the first n parts; or none. -/
def comeF (W H : Int) (l : List S47) : Nat → CV
  | 0 => CV.start W H
  | n + 1 => (comeF W H l n).put W (rd_T47 l n)
def allIn (W H : Int) (l : List S47) (n : Nat) : Prop := ∀ i : Nat, i < n → partIn W H (rd_T47 l i)
theorem comeF_ok {W H : Int} {l : List S47} (hW : sideOk W) (hH : sideOk H) (hu : ∀ i : Nat, i < l.length → partU (rd_T47 l i)) (n : Nat) (hn : n ≤ l.length) (ha : allIn W H l n) : (comeF W H l n).ok W H := by
  induction n with
  | zero => exact CV.start_ok hW hH
  | succ n ih => exact CV.put_ok hW hH (ih (by omega) fun i hi => ha i (by omega)) (ha n (by omega)) (hu n (by omega))
end Go.Proofs.Ytegifkffhnhccaa.P
