-- Printed by mp.py (our own program over the kit's printer) out of the translation.
import Derived.Test.YtnpmnfhmlnhepaaPx0
import Derived.Test.YtnpmnfhmlnhepaaMcov
import Derived.Test.YtnpmnfhmlnhepaaMtok4
namespace Go.Proofs.Ytnpmnfhmlnhepaa.P
open Go.RowKit Go.Proofs.YtnpmnfhmlnhepaaW.PrintWords Go.Proofs.YtnpmnfhmlnhepaaW.PrintLast Go.Proofs.YtnpmnfhmlnhepaaW.PrintMore
attribute [local go_sem] max2_int min2_int max_two min_two max_three min_three max_four min_four   -- for this text's walks alone
set_option linter.unusedVariables false
set_option linter.unusedSimpArgs false

-- @import Mcov
-- @import Mtok4
/-! ### marquetrylaw17_answers: function 8 -/
def marquetrylaw17_answers.f : Option Bool := some true
theorem ans_cover : coverT [7, 7, 7] 0 [(⟨1, 2, 1⟩ : S45)] = some ([litT 7, copyT 2 1], 0) := by
  unfold coverT
  rw [if_pos (by decide)]
  unfold coverV
  rw [if_pos ⟨by decide, ⟨by decide, by unfold fitsP; decide⟩, trivial⟩]
  rfl
theorem ans_expand : expandT [litT 7, copyT 2 1] 3 0 = some ([7, 7, 7], 0) := by
  unfold expandT
  rw [if_pos (by decide)]
  unfold expandV
  rw [if_neg (by decide)]
  rfl
set_option maxHeartbeats 1000000 in
set_option maxRecDepth 100000 in
theorem marquetrylaw17_answers.calls (r : Bool) (w : World) (h : marquetrylaw17_answers.f = some r) :
    Calls Try.prog 8 #[] w fun e w' => e = .returned (.bool r) ∧ Below w.heap.size w w' := by
  obtain rfl : true = r := Option.some.inj h
  clear h
  have H1 := (St.refl w).allocRow 35 .u32 [7, 7, 7] (by decide)
  have H2 := H1.alloc #[.int .i64 1, .int .i64 2, .int .i64 1] 45
  rw [show (w.alloc (.cells (nums .u32 [7, 7, 7]).toArray 35)).heap.size = w.heap.size + 1 by simp] at H2
  have hp : Kd.C (Kd.int .u32) ((w.alloc (.cells (nums .u32 [7, 7, 7]).toArray 35)).alloc (.cells #[.int .i64 1, .int .i64 2, .int .i64 1] 45)) (some ⟨w.heap.size, 0, none⟩) 3 [7, 7, 7] := ints_C (rowReads H2.swap)
  have hsp : Kd.C k45 ((w.alloc (.cells (nums .u32 [7, 7, 7]).toArray 35)).alloc (.cells #[.int .i64 1, .int .i64 2, .int .i64 1] 45)) (some ⟨w.heap.size + 1, 0, none⟩) 1 [(⟨1, 2, 1⟩ : S45)] := by
    refine ⟨rfl, by decide, fun _ => ⟨_, rfl, fun j p hj => ?_⟩⟩
    obtain rfl : j = 0 := by
      have := (List.getElem?_eq_some_iff.1 hj).1
      simpa using this
    obtain rfl : (⟨1, 2, 1⟩ : S45) = p := by simpa using hj
    refine ⟨[.int .i64 1, .int .i64 2, .int .i64 1], rfl, k45_mk _ (⟨1, 2, 1⟩ : S45), fun i u hi => ?_⟩
    show World.cell? _ ((⟨w.heap.size + 1, 0, none⟩ : Addr).add (0 * 3 + i)) = _
    rw [show (⟨w.heap.size + 1, 0, none⟩ : Addr).add (0 * 3 + i) = ⟨w.heap.size + 1, i, none⟩ by rw [Nat.zero_mul, Nat.zero_add]; unfold Addr.add; split <;> simp_all]
    have := H2.cell i
    rw [this]
    simpa using hi
  have HB := Aside0.mk H2.below
  have HC := Aside0.mk (coverT_calls (some ⟨w.heap.size, 0, none⟩) 3 [7, 7, 7] 0 (some ⟨w.heap.size + 1, 0, none⟩) 1 [(⟨1, 2, 1⟩ : S45)] _ _ _ hp (by decide) hsp (by decide) ans_cover)
  clear H1 H2 hp hsp
  go_enter Try.func8, Try.ntmps8
  go_wp2_with fail
  refine HC.out.mono ?_; rintro e w1 ⟨v, rfl, ho, hb⟩
  obtain ⟨B, cB, rfl⟩ := Kd.R_slice ho
  obtain ⟨_, hcB, hCB⟩ := Kd.R_reads' ho
  have HE := Aside0.mk (expandT_calls B cB [litT 7, copyT 2 1] 3 0 _ _ w1 hCB hcB ans_expand)
  obtain ⟨ad, hA, t0, _⟩ := at_T37 hCB 1 (by decide) (by decide)
  subst hA
  have HB1 := Aside0.mk (bthen HB.out hb)
  clear hb ho hCB hcB HC
  go_wp2_with fail
  refine HE.out.mono ?_; rintro e w2 ⟨v, rfl, ho, hb⟩
  obtain ⟨B2, cB2, rfl⟩ := Kd.R_slice ho
  have t0' := (hb.cell (World.block_lt_of_cell? _ _ t0)).trans t0
  have hrd : (rd_T37 [litT 7, copyT 2 1] 1).f0 = 2 := rfl
  rw [hrd, show (1 : Int).toNat * 5 = 5 by decide, show ad.add 5 = ⟨ad.block, ad.off + 5, none⟩ from rfl] at t0'
  have HB2 := Aside0.mk (bthen HB1.out hb)
  clear hb ho t0 HE
  go_wp2_with fail
  go_ret
  exact ⟨rfl, HB2.out⟩

-- NOT PRINTED: function 21 (marquetryref17_NewPaint)

-- NOT PRINTED: function 33 (marquetryref17_Paint_Add)

-- NOT PRINTED: function 22 (marquetryref17_Paint_Step)

end Go.Proofs.Ytnpmnfhmlnhepaa.P
