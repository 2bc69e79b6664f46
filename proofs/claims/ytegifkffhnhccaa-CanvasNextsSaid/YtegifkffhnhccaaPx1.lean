-- Printed by mp.py (our own program over the kit's printer) out of the translation.
import Derived.Test.YtegifkffhnhccaaPx0
namespace Go.Proofs.Ytegifkffhnhccaa.P
open Go.RowKit Go.Proofs.YtegifkffhnhccaaW.PrintWords Go.Proofs.YtegifkffhnhccaaW.PrintLast Go.Proofs.YtegifkffhnhccaaW.PrintMore
attribute [local go_sem] max2_int min2_int max_two min_two max_three min_three max_four min_four   -- for this text's walks alone
set_option linter.unusedVariables false
set_option linter.unusedSimpArgs false

instance : Inhabited S31 := ⟨z31⟩
def q31 (x : S31) : Prop := (((Lit.int .i64 x.f0).wf = true) ∧ (((Lit.int .i64 x.f1).wf = true) ∧ (x.f2.length ≤ maxLen ∧ x.f2.length * 4 ≤ 140737488351232 ∧ ∀ y0 ∈ x.f2, ((Lit.int .u32 y0).wf = true))))
theorem o31 : O.Opens k31 q31 Try.prog 31 :=
  O.opens_struct (fun p => (⟨p.1, p.2.1, p.2.2⟩ : S31)) (fun _ => rfl) Try.underlying31 (by kernel_rfl)
    (O.opensF_cons rfl (by kernel_rfl) (O.opens_int Try.underlying3) (O.opensF_cons rfl (by kernel_rfl) (O.opens_int Try.underlying3) (O.opensF_one rfl (by kernel_rfl) (O.opens_slice (B := 4) Try.underlying29 (by kernel_rfl) (by kernel_rfl) (O.opens_int Try.underlying22)))))
instance : Inhabited S47 := ⟨z47⟩
def q47 (x : S47) : Prop := (((Lit.int .i64 x.f0).wf = true) ∧ (((Lit.int .i64 x.f1).wf = true) ∧ (True ∧ (True ∧ (((Lit.int .i64 x.f4.f0).wf = true) ∧ (((Lit.int .i64 x.f4.f1).wf = true) ∧ (x.f4.f2.length ≤ maxLen ∧ x.f4.f2.length * 4 ≤ 140737488351232 ∧ ∀ y0 ∈ x.f4.f2, ((Lit.int .u32 y0).wf = true))))))))
theorem o47 : O.Opens k47 q47 Try.prog 47 :=
  O.opens_struct (fun p => (⟨p.1, p.2.1, p.2.2.1, p.2.2.2.1, p.2.2.2.2⟩ : S47)) (fun _ => rfl) Try.underlying47 (by kernel_rfl)
    (O.opensF_cons rfl (by kernel_rfl) (O.opens_int Try.underlying3) (O.opensF_cons rfl (by kernel_rfl) (O.opens_int Try.underlying3) (O.opensF_cons rfl (by kernel_rfl) (O.opens_bool Try.underlying4) (O.opensF_cons rfl (by kernel_rfl) (O.opens_bool Try.underlying4) (O.opensF_one rfl (by kernel_rfl) o31)))))
end Go.Proofs.Ytegifkffhnhccaa.P
