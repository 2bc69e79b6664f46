-- Printed by mp.py (our own program over the kit's printer) out of the translation.
import Derived.Test.YtnbocgmlcdcahaaPx0
namespace Go.Proofs.Ytnbocgmlcdcahaa.P
open Go.RowKit Go.Proofs.YtnbocgmlcdcahaaW.PrintWords Go.Proofs.YtnbocgmlcdcahaaW.PrintLast Go.Proofs.YtnbocgmlcdcahaaW.PrintMore
attribute [local go_sem] max2_int min2_int max_two min_two max_three min_three max_four min_four   -- for this text's walks alone
set_option linter.unusedVariables false
set_option linter.unusedSimpArgs false

instance : Inhabited S24 := ⟨z24⟩
def q24 (x : S24) : Prop := (((Lit.int .i64 x.f0).wf = true) ∧ (((Lit.int .i64 x.f1).wf = true) ∧ (x.f2.length ≤ maxLen ∧ x.f2.length * 4 ≤ 140737488351232 ∧ ∀ y0 ∈ x.f2, ((Lit.int .u32 y0).wf = true))))
theorem o24 : O.Opens k24 q24 Try.prog 24 :=
  O.opens_struct (fun p => (⟨p.1, p.2.1, p.2.2⟩ : S24)) (fun _ => rfl) Try.underlying24 (by kernel_rfl)
    (O.opensF_cons rfl (by kernel_rfl) (O.opens_int Try.underlying3) (O.opensF_cons rfl (by kernel_rfl) (O.opens_int Try.underlying3) (O.opensF_one rfl (by kernel_rfl) (O.opens_slice (B := 4) Try.underlying22 (by kernel_rfl) (by kernel_rfl) (O.opens_int Try.underlying35)))))
end Go.Proofs.Ytnbocgmlcdcahaa.P
