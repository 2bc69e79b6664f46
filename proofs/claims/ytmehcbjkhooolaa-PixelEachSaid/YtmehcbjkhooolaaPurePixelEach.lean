/- What becomes of one of the four hangs on that one of each pixel alone. -/
import Derived.Test.YtmehcbjkhooolaaPixLaw
namespace Go.Proofs.Ytmehcbjkhooolaa.Pure
open Go Go.RowKit Go.Proofs.Ytmehcbjkhooolaa.P Go.Proofs.YtmehcbjkhooolaaW.PrintWords Go.Proofs.YtmehcbjkhooolaaW.PrintLast Go.Proofs.YtmehcbjkhooolaaW.PrintMore Go.Proofs.Ytmehcbjkhooolaa.U

/-- One of the four, and the mask that keeps it. -/
structure Keeps (P : Int → Int) (s m : Int) : Prop where
  mask : ∀ p, U32 p → Go.bits .and .u32 p m = P p * s
  u32 : ∀ p, U32 p → U32 (P p * s)
  own : ∀ p, U32 p → P (P p * s) = P p
  each : ∀ F p q r, P (each4 F p q r) = F (P p) (P q) (P r) % 256
theorem keepsA : Keeps pA 16777216 4278190080 :=
  ⟨fun _ h => and_pA h, fun p h => by have := pA_bd h; unfold U32; omega, fun p h => by have := pA_bd h; unfold pA at *; omega, pA_each⟩
theorem keepsR : Keeps pR 65536 16711680 :=
  ⟨fun _ h => and_pR h, fun p h => by have := pR_bd p; unfold U32; omega, fun p h => by have := pR_bd p; unfold pR at *; omega, pR_each⟩
theorem keepsG : Keeps pG 256 65280 :=
  ⟨fun _ h => and_pG h, fun p h => by have := pG_bd p; unfold U32; omega, fun p h => by have := pG_bd p; unfold pG at *; omega, pG_each⟩
theorem keepsB : Keeps pB 1 255 :=
  ⟨fun _ h => by rw [and_pB h, Int.mul_one], fun p h => by have := pB_bd p; unfold U32; omega, fun p h => by have := pB_bd p; unfold pB at *; omega, pB_each⟩
theorem each_of {P : Int → Int} {s m p q r k : Int} (K : Keeps P s m) (hp : U32 p) (hq : U32 q) (hr : U32 r) (hm : shl .u32 255 ((8 * (Int.tmod k 4)) % 256) = m) : marquetrylaw11_PixelEach.f p q r k = some true := by
  unfold marquetrylaw11_PixelEach.f
  rw [hm]
  have hp' := K.u32 p hp
  have hq' := K.u32 q hq
  have hr' := K.u32 r hr
  simp only [answers_eq, Option.bind_some, if_true, K.mask p hp, K.mask q hq, K.mask r hr, Add_eq hp' hq', Add_eq hp hq, Sub_eq hp' hq', Sub_eq hp hq, Avg_eq hp' hq', Avg_eq hp hq, Full_eq hp' hq' hr', Full_eq hp hq hr, Half_eq hp' hq', Half_eq hp hq,
    K.mask _ (u32_each _ _ _ _), K.each, K.own p hp, K.own q hq, K.own r hr]
  have e : ∀ F : Int → Int → Int → Int, (∀ a b c d, F a b c = F a b d) → F (P p) (P q) (P 0) % 256 * s = F (P p) (P q) (P 0) % 256 * s := fun _ _ => rfl
  simp
theorem PixelEach : marquetrylaw11_PixelEach.Pure := by
  intro p q r k wp wq wr wk
  have hp := u32_wf wp
  have hq := u32_wf wq
  have hr := u32_wf wr
  have hk := wf_u8 wk
  have ek : Int.tmod k 4 = k % 4 := Int.tmod_eq_emod_of_nonneg hk.1
  have h4 : k % 4 = 0 ∨ k % 4 = 1 ∨ k % 4 = 2 ∨ k % 4 = 3 := by omega
  rcases h4 with h | h | h | h
  · exact each_of keepsB hp hq hr (by rw [ek, h]; decide)
  · exact each_of keepsG hp hq hr (by rw [ek, h]; decide)
  · exact each_of keepsR hp hq hr (by rw [ek, h]; decide)
  · exact each_of keepsA hp hq hr (by rw [ek, h]; decide)

end Go.Proofs.Ytmehcbjkhooolaa.Pure
