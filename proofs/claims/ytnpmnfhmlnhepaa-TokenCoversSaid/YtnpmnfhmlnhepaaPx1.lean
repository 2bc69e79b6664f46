-- Printed by mp.py (our own program over the kit's printer) out of the translation.
import Derived.Test.YtnpmnfhmlnhepaaPx0
namespace Go.Proofs.Ytnpmnfhmlnhepaa.P
open Go.RowKit Go.Proofs.YtnpmnfhmlnhepaaW.PrintWords Go.Proofs.YtnpmnfhmlnhepaaW.PrintLast Go.Proofs.YtnpmnfhmlnhepaaW.PrintMore
attribute [local go_sem] max2_int min2_int max_two min_two max_three min_three max_four min_four   -- for this text's walks alone
set_option linter.unusedVariables false
set_option linter.unusedSimpArgs false

instance : Inhabited S37 := ⟨z37⟩
def q37 (x : S37) : Prop := (((Lit.int .i64 x.f0).wf = true) ∧ (((Lit.int .i64 x.f1).wf = true) ∧ (((Lit.int .i64 x.f2).wf = true) ∧ (((Lit.int .i64 x.f3).wf = true) ∧ ((Lit.int .u32 x.f4).wf = true)))))
theorem o37 : O.Opens k37 q37 Try.prog 37 :=
  O.opens_struct (fun p => (⟨p.1, p.2.1, p.2.2.1, p.2.2.2.1, p.2.2.2.2⟩ : S37)) (fun _ => rfl) Try.underlying37 (by kernel_rfl)
    (O.opensF_cons rfl (by kernel_rfl) (O.opens_int Try.underlying3) (O.opensF_cons rfl (by kernel_rfl) (O.opens_int Try.underlying3) (O.opensF_cons rfl (by kernel_rfl) (O.opens_int Try.underlying3) (O.opensF_cons rfl (by kernel_rfl) (O.opens_int Try.underlying3) (O.opensF_one rfl (by kernel_rfl) (O.opens_int Try.underlying35))))))
instance : Inhabited S45 := ⟨z45⟩
def q45 (x : S45) : Prop := (((Lit.int .i64 x.f0).wf = true) ∧ (((Lit.int .i64 x.f1).wf = true) ∧ ((Lit.int .i64 x.f2).wf = true)))
theorem o45 : O.Opens k45 q45 Try.prog 45 :=
  O.opens_struct (fun p => (⟨p.1, p.2.1, p.2.2⟩ : S45)) (fun _ => rfl) Try.underlying45 (by kernel_rfl)
    (O.opensF_cons rfl (by kernel_rfl) (O.opens_int Try.underlying3) (O.opensF_cons rfl (by kernel_rfl) (O.opens_int Try.underlying3) (O.opensF_one rfl (by kernel_rfl) (O.opens_int Try.underlying3))))
end Go.Proofs.Ytnpmnfhmlnhepaa.P
