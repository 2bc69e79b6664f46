/- Steps that tell pixels, as one function. -/
import Derived.Test.YtnpmnfhmlnhepaaMcov1
namespace Go.Proofs.Ytnpmnfhmlnhepaa.P
open Go Go.RowKit Go.Proofs.YtnpmnfhmlnhepaaW.PrintWords Go.Proofs.YtnpmnfhmlnhepaaW.PrintLast Go.Proofs.YtnpmnfhmlnhepaaW.PrintMore Go.Proofs.Ytnpmnfhmlnhepaa.U
set_option linter.unusedVariables false
set_option linter.unusedSimpArgs false
theorem coverT_calls (A0 : Option Addr) (c0 : Nat) (l0 : List Int) (a1 : Int) (A2 : Option Addr) (c2 : Nat) (l2 : List (S45)) (r1 : List (S37)) (r2 : Int) (w : World) (hr0 : Kd.C (Kd.int .u32) w A0 l0.length l0) (hc0 : l0.length ≤ c0) (hr2 : Kd.C k45 w A2 l2.length l2) (hc2 : l2.length ≤ c2) (h : coverT l0 a1 l2 = some (r1, r2)) :
    Calls Try.prog 13 #[.slice A0 l0.length c0, .int .i64 a1, .slice A2 l2.length c2] w fun e w' => ∃ v0_ : Value, e = .returned (.tuple #[v0_, .int .i64 r2]) ∧ Kd.R k37 37 w' w.heap.size (fun _ => True) v0_ r1 ∧ Below w.heap.size w w' := by
  unfold coverT at h
  by_cases c : pixU l0 ∧ l0.length ≤ 268435456
  case neg => rw [if_neg c] at h; cases h
  rw [if_pos c] at h
  have h := Option.some.inj h
  unfold coverV at h
  by_cases d : bitsOk a1 ∧ fitsAll l0 0 l2
  · rw [if_pos d] at h
    obtain ⟨rfl, rfl⟩ := Prod.mk.inj h
    exact cover_yes A0 c0 l0 a1 A2 c2 l2 w hr0 hc0 hr2 hc2 d.1 d.2 c.1 c.2
  · rw [if_neg d] at h
    obtain ⟨rfl, rfl⟩ := Prod.mk.inj h
    refine (cover_no A0 c0 l0 a1 A2 c2 l2 w hr0 hc0 hr2 hc2 d).mono ?_
    rintro e w' ⟨rfl, hb⟩
    exact ⟨_, rfl, Kd.R_nil _ _ _ _ _, hb⟩
end Go.Proofs.Ytnpmnfhmlnhepaa.P
