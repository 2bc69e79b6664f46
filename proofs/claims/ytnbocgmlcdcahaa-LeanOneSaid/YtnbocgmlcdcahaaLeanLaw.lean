/- What the statements on Forth and Back share. -/
import Derived.Test.YtnbocgmlcdcahaaMlean
namespace Go.Proofs.Ytnbocgmlcdcahaa.Pure
open Go Go.RowKit Go.Proofs.Ytnbocgmlcdcahaa.P Go.Proofs.YtnbocgmlcdcahaaW.PrintWords Go.Proofs.YtnbocgmlcdcahaaW.PrintLast Go.Proofs.YtnbocgmlcdcahaaW.PrintMore Go.Proofs.Ytnbocgmlcdcahaa.U
set_option linter.unusedVariables false
set_option linter.unusedSimpArgs false
attribute [local go_sem] max2_int min2_int max_two min_two max_three min_three max_four min_four

theorem sound1 : sound 1 1 [4278190085] 2 [0] := by decide
theorem lean1 : lean13 false 1 2 [0] [4278190085] [(4278190085 : Int)].length = [5] := by decide
set_option maxHeartbeats 4000000 in
set_option maxRecDepth 100000 in
theorem answers_calls (w : World) :
    Calls Try.prog 8 #[] w fun e w' => e = .returned (.bool true) ∧ Below w.heap.size w w' := by
  have hs0 := ((St.refl w).allocRow 35 .u32 [4278190085] (by decide)).alloc #[.int .i64 1, .int .i64 1, .slice (some ⟨w.heap.size, 0, none⟩) 1 1] 24
  have e1 : ∀ o, (w.alloc o).heap.size = w.heap.size + 1 := fun o => by simp
  rw [e1] at hs0
  have m0 := (hs0.cell 0).trans rfl
  have m1 := (hs0.cell 1).trans rfl
  have m2 := (hs0.cell 2).trans rfl
  have hs1 := hs0.allocRow 3 .i64 [0] (by decide)
  have e2 : ∀ o o', ((w.alloc o).alloc o').heap.size = w.heap.size + 2 := fun o o' => by simp
  rw [e2] at hs1
  have HS1 := Aside0.mk hs1; clear hs0 hs1 e1 e2
  go_enter Try.func8, Try.ntmps8
  go_wp2_with fail
  refine (lean_Forth_ok 1 1 2 (some ⟨w.heap.size, 0, none⟩) 1 (some ⟨w.heap.size + 2, 0, none⟩) 1 [4278190085] [0] _ (reads_C (rowReads HS1.out.rot3)) (by decide) (reads_C (rowReads HS1.out)) (by decide) sound1 (by intro x hx; rcases List.mem_singleton.1 hx with rfl; decide)).mono ?_; rintro e w1 ⟨B, c', rfl, hc', hs2⟩
  rw [lean1] at hs2
  have hs3 := (HS1.out.frame hs2).assoc.swap.drop
  obtain ⟨gB, rfl⟩ := hs3.rowForm (by decide)
  have hs4 := hs3.alloc #[.int .i64 1, .int .i64 1, .slice (some ⟨gB, 0, none⟩) 1 c'] 24
  have b0 := (hs4.swap.rowAt 0 (by decide) (by decide)).1
  have M := hs4.rot4
  have n0 := (M.cell 0).trans rfl
  have n1 := (M.cell 1).trans rfl
  have n2 := (M.cell 2).trans rfl
  have hs5 := hs4.allocRow 3 .i64 [0] (by decide)
  have b0 : (w1.alloc (.cells #[.int .i64 1, .int .i64 1, .slice (some ⟨gB, 0, none⟩) 1 c'] 24)).cell? ⟨gB, 0, none⟩ = some (.int .u32 5) := b0
  obtain ⟨ks, es⟩ := (Sound_ev (w := 1) (h := 1) (b := 2) (p := [4278190085]) (l := [0]) (by decide)).rounds
  rw [decide_eq_true sound1] at es
  have ES := Aside0.mk es; clear es
  have HS5 := Aside0.mk hs5; clear hs5 hs4 hs3 hs2 M HS1
  go_wp2_with fail
  refine (lean_Sound.calls ks 1 1 (some ⟨w.heap.size, 0, none⟩) 1 [4278190085] 2 (some ⟨w1.heap.size + 1, 0, none⟩) 1 [0] true _ (reads_C (rowReads (HS5.out.drop.drop.drop.rot3))) (by decide) (reads_C ?_) (by decide) ES.out).mono ?_
  · have := rowReads HS5.out
    rw [show ∀ o, (w1.alloc o).heap.size = w1.heap.size + 1 from fun o => by simp] at this
    exact this
  rintro e w2 ⟨rfl, hb⟩
  have HB := Aside0.mk (HS5.out.belowR hb).below; clear hb HS5
  go_wp2_with fail
  go_ret
  exact ⟨rfl, HB.out⟩
/-- The reference's Lean, called. -/
theorem refLean_calls (back : Bool) (w h b : Int) (Am : Option Addr) (cm : Nat) (Al : Option Addr) (cl : Nat) (p l : List Int) (W : World)
    (hrp : Kd.C (Kd.int .u32) W Am p.length p) (hcm : p.length ≤ cm) (hrl : Kd.C (Kd.int .i64) W Al l.length l) (hcl : l.length ≤ cl) (hso : sound w h p b l) (hp : U32s p) :
    Calls Try.prog 16 #[.agg #[.int .i64 w, .int .i64 h, .slice Am p.length cm], .int .i64 b, .slice Al l.length cl, .bool back] W fun e W' =>
      ∃ B c', e = .returned (.agg #[.int .i64 w, .int .i64 h, .slice B p.length c']) ∧ p.length ≤ c' ∧ ReadsInt W' .u32 B p.length (lean13 back w b l p p.length) ∧ Below W.heap.size W W' := by
  obtain ⟨k, e⟩ := (refLean_ev hso hp back).rounds
  refine (marquetryref11_Lean.calls k w h Am cm p b Al cl l back w h _ W hrp hcm hrl hcl e).mono ?_
  rintro e W' ⟨v, rfl, hR, hb⟩
  obtain ⟨B, c', rfl, hle, hC⟩ := Kd.R_reads hR
  rw [lean13_len] at hle hC
  exact ⟨B, c', by rw [lean13_len], hle, C_reads hC, hb⟩
theorem refSame_calls (w h : Int) (A B : Option Addr) (n c d : Nat) (L : List Int) (W : World) (hL : L.length = n) (hn : n ≤ 268435456) (ha : ReadsInt W .u32 A n L) (hb : ReadsInt W .u32 B n L) (hc : n ≤ c) (hd : n ≤ d) :
    Calls Try.prog 11 #[.agg #[.int .i64 w, .int .i64 h, .slice A n c], .agg #[.int .i64 w, .int .i64 h, .slice B n d]] W fun e W' => e = .returned (.bool true) ∧ Below W.heap.size W W' := by
  subst hL
  obtain ⟨k, e⟩ := (same_ev w h L (by omega)).rounds
  exact marquetryref11_Same.calls k w h A c L w h B d L true W (reads_C ha) hc (reads_C hb) hd e
end Go.Proofs.Ytnbocgmlcdcahaa.Pure
