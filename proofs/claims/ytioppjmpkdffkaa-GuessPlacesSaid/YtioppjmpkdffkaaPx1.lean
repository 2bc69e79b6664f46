-- Printed by mp.py (our own program over the kit's printer) out of the translation.
import Derived.Test.YtioppjmpkdffkaaPx0
namespace Go.Proofs.Ytioppjmpkdffkaa.P
open Go.RowKit Go.Proofs.YtioppjmpkdffkaaW.PrintWords Go.Proofs.YtioppjmpkdffkaaW.PrintLast Go.Proofs.YtioppjmpkdffkaaW.PrintMore
attribute [local go_sem] max2_int min2_int max_two min_two max_three min_three max_four min_four   -- for this text's walks alone
set_option linter.unusedVariables false
set_option linter.unusedSimpArgs false

instance : Inhabited S29 := ⟨z29⟩
def q29 (x : S29) : Prop := (((Lit.int .i64 x.f0).wf = true) ∧ (((Lit.int .i64 x.f1).wf = true) ∧ (x.f2.length ≤ maxLen ∧ x.f2.length * 4 ≤ 140737488351232 ∧ ∀ y0 ∈ x.f2, ((Lit.int .u32 y0).wf = true))))
theorem o29 : O.Opens k29 q29 Try.prog 29 :=
  O.opens_struct (fun p => (⟨p.1, p.2.1, p.2.2⟩ : S29)) (fun _ => rfl) Try.underlying29 (by kernel_rfl)
    (O.opensF_cons rfl (by kernel_rfl) (O.opens_int Try.underlying3) (O.opensF_cons rfl (by kernel_rfl) (O.opens_int Try.underlying3) (O.opensF_one rfl (by kernel_rfl) (O.opens_slice (B := 4) Try.underlying27 (by kernel_rfl) (by kernel_rfl) (O.opens_int Try.underlying22)))))
end Go.Proofs.Ytioppjmpkdffkaa.P
