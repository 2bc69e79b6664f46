/- A canvas that is none. -/
import Derived.Test.YtegifkffhnhccaaPx
import Derived.Test.YtegifkffhnhccaaMcv9
namespace Go.Proofs.Ytegifkffhnhccaa.Pure
open Go Go.RowKit Go.Proofs.Ytegifkffhnhccaa.P Go.Proofs.YtegifkffhnhccaaW.PrintWords Go.Proofs.YtegifkffhnhccaaW.PrintLast Go.Proofs.YtegifkffhnhccaaW.PrintMore
set_option linter.unusedVariables false
set_option linter.unusedSimpArgs false
set_option maxHeartbeats 1000000 in
set_option maxRecDepth 100000 in
theorem CanvasNone (X Y : Int) (k d : Bool) (pw ph : Int) (A : Option Addr) (c : Nat) (l : List Int) (w : World)
    (_ : (Lit.int .i64 X).wf = true) (_ : (Lit.int .i64 Y).wf = true) (_ : (Lit.int .i64 pw).wf = true) (_ : (Lit.int .i64 ph).wf = true) (_ : l.length ≤ maxLen) (_ : l.length * 4 ≤ 140737488351232) (_ : ∀ y ∈ l, (Lit.int .u32 y).wf = true)
    (_ : Kd.C (Kd.int .u32) w A l.length l) (_ : l.length ≤ c) :
    Calls Try.prog 7 #[.agg #[.int .i64 X, .int .i64 Y, .bool k, .bool d, .int .i64 pw, .int .i64 ph, .slice A l.length c]] w fun e w' => e = .returned (.bool true) ∧ Below w.heap.size w w' := by
  have s1 := (St.refl w).alloc #[.int .i64 X, .int .i64 Y, .bool k, .bool d, .int .i64 pw, .int .i64 ph, .slice A l.length c] 47
  have HS := Aside0.mk s1
  clear s1
  go_enter Try.func7, Try.ntmps7
  go_wp2_with fail
  refine (canvas_Image_none _).mono ?_; rintro e w1 ⟨rfl, hb⟩
  have h2 := (HS.out.belowR hb).alloc #[.int .i64 0, .int .i64 0, .slice none 0 0] 31
  have HS2 := Aside0.mk h2; clear hb h2 HS
  go_wp2_with fail
  refine (marquetrylaw27_answers.calls true _ rfl).mono ?_; rintro e w2 ⟨rfl, hb⟩
  have h3 := HS2.out.belowR hb
  have m0 := (h3.cell 0).trans rfl
  have m1 := (h3.cell 1).trans rfl
  have m2 := (h3.cell 2).trans rfl
  have b0 := (h3.swap.cell 0).trans rfl
  have b1 := (h3.swap.cell 1).trans rfl
  have b2 := (h3.swap.cell 2).trans rfl
  have b3 := (h3.swap.cell 3).trans rfl
  have b4 := (h3.swap.cell 4).trans rfl
  have b5 := (h3.swap.cell 5).trans rfl
  have b6 := (h3.swap.cell 6).trans rfl
  have HS3 := Aside0.mk h3; clear hb h3 HS2
  go_wp2_with fail
  refine (canvas_Next_nil X Y pw ph k d A l.length c _).mono ?_; rintro e w3 ⟨rfl, hb⟩
  clear m0 m1 m2 b0 b1 b2 b3 b4 b5 b6
  have h4 := HS3.out.belowR hb
  have m0 := (h4.cell 0).trans rfl
  have m1 := (h4.cell 1).trans rfl
  have m2 := (h4.cell 2).trans rfl
  have HB := Aside0.mk h4.below; clear hb h4 HS3
  go_wp2_with fail
  go_ret
  exact ⟨rfl, HB.out⟩
end Go.Proofs.Ytegifkffhnhccaa.Pure
