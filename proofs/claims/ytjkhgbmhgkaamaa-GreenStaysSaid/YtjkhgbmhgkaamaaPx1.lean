-- Printed by mp.py (our own program over the kit's printer) out of the translation.
import Derived.Test.YtjkhgbmhgkaamaaPx0
namespace Go.Proofs.Ytjkhgbmhgkaamaa.P
open Go.RowKit Go.Proofs.YtjkhgbmhgkaamaaW.PrintWords Go.Proofs.YtjkhgbmhgkaamaaW.PrintLast Go.Proofs.YtjkhgbmhgkaamaaW.PrintMore
attribute [local go_sem] max2_int min2_int max_two min_two max_three min_three max_four min_four   -- for this text's walks alone
set_option linter.unusedVariables false
set_option linter.unusedSimpArgs false

instance : Inhabited S26 := ⟨z26⟩
def q26 (x : S26) : Prop := (((Lit.int .i64 x.f0).wf = true) ∧ (((Lit.int .i64 x.f1).wf = true) ∧ (x.f2.length ≤ maxLen ∧ x.f2.length * 4 ≤ 140737488351232 ∧ ∀ y0 ∈ x.f2, ((Lit.int .u32 y0).wf = true))))
theorem o26 : O.Opens k26 q26 Try.prog 26 :=
  O.opens_struct (fun p => (⟨p.1, p.2.1, p.2.2⟩ : S26)) (fun _ => rfl) Try.underlying26 (by kernel_rfl)
    (O.opensF_cons rfl (by kernel_rfl) (O.opens_int Try.underlying3) (O.opensF_cons rfl (by kernel_rfl) (O.opens_int Try.underlying3) (O.opensF_one rfl (by kernel_rfl) (O.opens_slice (B := 4) Try.underlying24 (by kernel_rfl) (by kernel_rfl) (O.opens_int Try.underlying27)))))
end Go.Proofs.Ytjkhgbmhgkaamaa.P
