-- Printed by mp.py (our own program over the kit's printer) out of the translation.
import Derived.Test.YtfbkbbognabkkaaPx0
namespace Go.Proofs.Ytfbkbbognabkkaa.P
open Go.RowKit Go.Proofs.YtfbkbbognabkkaaW.PrintWords Go.Proofs.YtfbkbbognabkkaaW.PrintLast Go.Proofs.YtfbkbbognabkkaaW.PrintMore
attribute [local go_sem] max2_int min2_int max_two min_two max_three min_three max_four min_four   -- for this text's walks alone
set_option linter.unusedVariables false
set_option linter.unusedSimpArgs false

instance : Inhabited S35 := ⟨z35⟩
def q35 (x : S35) : Prop := ((x.f0.size ≤ 140737488351232) ∧ (x.f1.length ≤ maxLen ∧ x.f1.length * 1 ≤ 140737488351232 ∧ ∀ y0 ∈ x.f1, ((Lit.int .u8 y0).wf = true)))
theorem o35 : O.Opens k35 q35 Try.prog 35 :=
  O.opens_struct (fun p => (⟨p.1, p.2⟩ : S35)) (fun _ => rfl) Try.underlying35 (by kernel_rfl)
    (O.opensF_cons rfl (by kernel_rfl) (O.opens_string Try.underlying9) (O.opensF_one rfl (by kernel_rfl) (O.opens_slice (B := 1) Try.underlying22 (by kernel_rfl) (by kernel_rfl) (O.opens_int Try.underlying5))))
end Go.Proofs.Ytfbkbbognabkkaa.P
