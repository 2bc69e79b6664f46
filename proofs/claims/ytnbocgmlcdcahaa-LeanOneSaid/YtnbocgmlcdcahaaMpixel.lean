/- What the functions of 'pixel' and the reference's ways come to: each call of them in the model answers the plain Lean function of the same name. -/
import Derived.Test.YtnbocgmlcdcahaaProg
import Derived.Below
import Derived.Deep.Draws
import Derived.Deep.AppendLies
import Derived.Maps.AppendAt
import Derived.OwnWalk
import Derived.Laws.BytesArg
import Derived.Laws.MakeOwn
import Derived.Laws.OwnMore
import Derived.Deep.OwnRows
import Derived.Tactics
import Derived.Lib.ConvBytes
import Derived.Laws.Slices
import Derived.WalkKit
import Derived.KernelRfl
import Derived.RowKit3
import Derived.Deep.LoopGhost
import Derived.Deep.QuietTactic
import Derived.BigQuiet
import Derived.WideLaws
import Derived.Deep.DeepCutAuto
import Derived.Deep.CutBlock
import Derived.Deep.RegionHeld3
import Derived.Laws.Rows
import Derived.Lib.AppendStr
import Derived.ArgAppend
import Derived.Laws.IdiomCopy
import Derived.OrdersHeld
import Derived.Laws.BitsLemmas
import Derived.RowKit
import Derived.LoopN
import Derived.Handy
import Derived.Lib.Hide
import Derived.StillTailTactics
import Derived.Deep.RegionLaw
import Derived.Deep.RegionWith
import Derived.Test.YtnbocgmlcdcahaaWWords
import Derived.Test.YtnbocgmlcdcahaaWLast
import Derived.Test.YtnbocgmlcdcahaaWTab
import Derived.Test.YtnbocgmlcdcahaaWFour
import Derived.Test.YtnbocgmlcdcahaaWQPut
import Derived.Test.YtnbocgmlcdcahaaWApart
import Derived.Test.YtnbocgmlcdcahaaWArr
import Derived.Test.YtnbocgmlcdcahaaWZeros
import Derived.Test.YtnbocgmlcdcahaaWFoot
import Derived.Test.YtnbocgmlcdcahaaWKept
import Derived.Test.YtnbocgmlcdcahaaWShare
import Derived.Test.YtnbocgmlcdcahaaWN
import Derived.Test.YtnbocgmlcdcahaaWFootNe
import Derived.Test.YtnbocgmlcdcahaaWAt
import Derived.Test.YtnbocgmlcdcahaaWEqStruct
import Derived.Test.YtnbocgmlcdcahaaWRepsOne
import Derived.Test.YtnbocgmlcdcahaaWInv
import Derived.Test.YtnbocgmlcdcahaaWInvWords
import Derived.Test.YtnbocgmlcdcahaaWGuard
import Derived.Test.YtnbocgmlcdcahaaWNEv
import Derived.Test.YtnbocgmlcdcahaaWMore
namespace Go.Proofs.Ytnbocgmlcdcahaa.P
open Go Go.RowKit Go.Proofs.YtnbocgmlcdcahaaW.PrintWords Go.Proofs.YtnbocgmlcdcahaaW.PrintLast Go.Proofs.YtnbocgmlcdcahaaW.PrintMore
set_option linter.unusedVariables false
set_option linter.unusedSimpArgs false

theorem still_tail_drew {P : Program} {id : Nat} {Q : Exit → Act → World → Prop} {a : Act} {w : World} {l : List Oper} (n : Nat) (hm : P.follows .mixedOrders = true) (hB : Region.lexTailB .any l.toArray n = true)
    (h : wpStill P l.toArray w.drew (fun a' => wpList P l.toArray Q (l.drop n) a' w.drew) (l.take n) a) : (Code.region id l.toArray true).wp P Q a w :=
  wp_region_still_tail n hm hB h
theorem px_and255 {x : Int} (h0 : 0 ≤ x) (h1 : x ≤ 4294967295) : bits .and .u32 x 255 = x % 256 := by
  have := bits_mask .u32 32 (by decide) (fun n h0 h1 => by rw [IntKind.wrap_u32]; omega) 8 (by decide) x h0 (by omega)
  simpa using this
theorem px_or8 {x y : Int} (h0 : 0 ≤ x) (h1 : x ≤ 4294967295) (hm : x % 256 = 0) (h2 : 0 ≤ y) (h3 : y ≤ 255) : bits .or .u32 x y = x + y :=
  bits_join .u32 32 (by decide) (fun n h0 h1 => by rw [IntKind.wrap_u32]; omega) 8 x y h0 (by simpa using hm) (by omega) h2 (by omega) (by omega)
theorem px_w64 {n : Int} (h0 : -9223372036854775808 ≤ n) (h1 : n ≤ 9223372036854775807) : wrap64 n = n := by unfold wrap64; omega
theorem below_then {w X w4 : World} (h1 : Below w.heap.size w X) (h2 : Below X.heap.size X w4) : Below w.heap.size w w4 := h1.trans (h2.mono h1.size)

/-- A pixel of four, each round at 256. -/
def join4 (a b c d : Int) : Int := ((a % 256 * 256 + b % 256) * 256 + c % 256) * 256 + d % 256
def pA (p : Int) : Int := p / 16777216
def pR (p : Int) : Int := p / 65536 % 256
def pG (p : Int) : Int := p / 256 % 256
def pB (p : Int) : Int := p % 256
def each4 (F : Int → Int → Int → Int) (p q r : Int) : Int := join4 (F (pA p) (pA q) (pA r)) (F (pR p) (pR q) (pR r)) (F (pG p) (pG q) (pG r)) (F (pB p) (pB q) (pB r))
def U32 (p : Int) : Prop := 0 ≤ p ∧ p ≤ 4294967295
instance (p : Int) : Decidable (U32 p) := by unfold U32; infer_instance
theorem pA_bd {p : Int} (h : U32 p) : 0 ≤ pA p ∧ pA p ≤ 255 := by unfold U32 at h; unfold pA; omega
theorem pR_bd (p : Int) : 0 ≤ pR p ∧ pR p ≤ 255 := by unfold pR; omega
theorem pG_bd (p : Int) : 0 ≤ pG p ∧ pG p ≤ 255 := by unfold pG; omega
theorem pB_bd (p : Int) : 0 ≤ pB p ∧ pB p ≤ 255 := by unfold pB; omega
theorem px_some {c : Prop} [Decidable c] {x r : Int} (h : (if c then some x else none) = some r) : c ∧ x = r := by
  by_cases hc : c
  · rw [if_pos hc] at h; exact ⟨hc, Option.some.inj h⟩
  · rw [if_neg hc] at h; cases h

set_option maxHeartbeats 800000 in
set_option maxRecDepth 100000 in
theorem px_split (p : Int) (w : World) (h : U32 p) :
    Calls Try.prog 47 #[.int .u32 p] w fun e w' => e = .returned (.agg #[.int .i64 (pA p), .int .i64 (pR p), .int .i64 (pG p), .int .i64 (pB p)]) ∧ Below w.heap.size w w' := by
  unfold U32 at h
  obtain ⟨h0, h1⟩ := h
  go_enter Try.func47, Try.ntmps47
  go_wp2
  refine bodyPost_ret (v := .agg #[.int .i64 (pA p), .int .i64 (pR p), .int .i64 (pG p), .int .i64 (pB p)]) ?_ rfl ⟨rfl, ?_⟩
  · simp [results, Try.results47, go_sem]
    rw [px_and255 (by omega) (by omega), px_and255 (by omega) (by omega), px_and255 h0 h1]
    unfold wrap64 pA pR pG pB; omega
  · exact (Below.refl _ _).alloc (Nat.le_refl _) _

theorem px_join_eq (a b c d : Int) : bits .or .u32 (bits .or .u32 (bits .or .u32 (bits .or .u32 0 (a % 256) * 256 % 4294967296) (b % 256) * 256 % 4294967296) (c % 256) * 256 % 4294967296) (d % 256) = join4 a b c d := by
  unfold join4
  rw [px_or8 (x := 0) (by omega) (by omega) (by omega) (by omega) (by omega), Int.zero_add]
  rw [show a % 256 * 256 % 4294967296 = a % 256 * 256 by omega, px_or8 (y := b % 256) (by omega) (by omega) (by omega) (by omega) (by omega)]
  rw [show (a % 256 * 256 + b % 256) * 256 % 4294967296 = (a % 256 * 256 + b % 256) * 256 by omega, px_or8 (y := c % 256) (by omega) (by omega) (by omega) (by omega) (by omega)]
  rw [show ((a % 256 * 256 + b % 256) * 256 + c % 256) * 256 % 4294967296 = ((a % 256 * 256 + b % 256) * 256 + c % 256) * 256 by omega, px_or8 (by omega) (by omega) (by omega) (by omega) (by omega)]
set_option maxHeartbeats 800000 in
set_option maxRecDepth 100000 in
theorem px_join (a b c d : Int) (w : World) :
    Calls Try.prog 48 #[.agg #[.int .i64 a, .int .i64 b, .int .i64 c, .int .i64 d]] w fun e w' => e = .returned (.int .u32 (join4 a b c d)) ∧ Below w.heap.size w w' := by
  have i0 : ∀ w, (Instr.index 66 (.agg #[.int .i64 a, .int .i64 b, .int .i64 c, .int .i64 d]) (.int .i64 0)).run Try.prog w = .ok (.int .i64 a) w := fun _ => by kernel_rfl
  have i1 : ∀ w, (Instr.index 66 (.agg #[.int .i64 a, .int .i64 b, .int .i64 c, .int .i64 d]) (.int .i64 1)).run Try.prog w = .ok (.int .i64 b) w := fun _ => by kernel_rfl
  have i2 : ∀ w, (Instr.index 66 (.agg #[.int .i64 a, .int .i64 b, .int .i64 c, .int .i64 d]) (.int .i64 2)).run Try.prog w = .ok (.int .i64 c) w := fun _ => by kernel_rfl
  have i3 : ∀ w, (Instr.index 66 (.agg #[.int .i64 a, .int .i64 b, .int .i64 c, .int .i64 d]) (.int .i64 3)).run Try.prog w = .ok (.int .i64 d) w := fun _ => by kernel_rfl
  have HJ := Lib.hid (px_join_eq a b c d)
  go_enter Try.func48, Try.ntmps48
  go_wp2
  refine wp_loop_rounds 5 ?_
  rw [rounds_succ]; go_wp2
  rw [rounds_succ]; go_wp2
  rw [rounds_succ]; go_wp2
  rw [rounds_succ]; go_wp2
  rw [rounds_succ]; go_wp2
  go_ret
  refine ⟨congrArg (fun z => Ending.returned (.int .u32 z)) ?_, (Below.refl _ _).alloc (Nat.le_refl _) _⟩
  first | exact HJ.out | (have h := HJ.out; simpa using h)

set_option maxHeartbeats 4000000 in
set_option maxRecDepth 100000 in
theorem px_each (n : Nat) (F : Int → Int → Int → Int) (hR : ∀ args W, (callFunc n args).run Try.prog W = .ok (.enter n args) W)
    (hF : ∀ (a b c : Int) (W : World), 0 ≤ a → a ≤ 255 → 0 ≤ b → b ≤ 255 → 0 ≤ c → c ≤ 255 → Calls Try.prog n #[.int .i64 a, .int .i64 b, .int .i64 c] W fun e w' => e = .returned (.int .i64 (F a b c)) ∧ w' = W)
    (p q r : Int) (w : World) (hp : U32 p) (hq : U32 q) (hr : U32 r) :
    Calls Try.prog 36 #[.int .u32 p, .int .u32 q, .int .u32 r, .func (.func n) #[] #[]] w fun e w' => e = .returned (.int .u32 (each4 F p q r)) ∧ Below w.heap.size w w' := by
  have HF := Lib.hid hF
  have HR := Lib.hid hR
  have a0 := pA_bd hp
  have a1 := pR_bd p
  have a2 := pG_bd p
  have a3 := pB_bd p
  have b0 := pA_bd hq
  have b1 := pR_bd q
  have b2 := pG_bd q
  have b3 := pB_bd q
  have c0 := pA_bd hr
  have c1 := pR_bd r
  have c2 := pG_bd r
  have c3 := pB_bd r
  clear hF hR
  have Hp := Lib.hid hp
  have Hq := Lib.hid hq
  have Hr := Lib.hid hr
  clear hp hq hr
  unfold each4
  go_enter Try.func36, Try.ntmps36
  go_wp2_with fail
  refine (px_split _ _ Hp.out).mono ?_; rintro e w1 ⟨rfl, hb1⟩
  go_wp2_with fail
  refine (px_split _ _ Hq.out).mono ?_; rintro e w2 ⟨rfl, hb2⟩
  go_wp2_with fail
  refine (px_split _ _ Hr.out).mono ?_; rintro e w3 ⟨rfl, hb3⟩
  have hb4 : Below w.heap.size w w3 := (hb1.trans (hb2.mono hb1.size)).trans (hb3.mono (Nat.le_trans hb1.size hb2.size))
  clear hb1 hb2 hb3
  go_wp2
  refine wp_loop_rounds 5 ?_
  rw [rounds_succ]; go_wp2_with fail
  refine still_tail_drew 13 (by kernel_rfl) (by kernel_rfl) ?_
  simp only [List.take_succ_cons, List.take_zero, List.drop_succ_cons, List.drop_zero]
  repeat still_step
  refine wpStill_step (fun K hK => ?_)
  go_simp
  rw [HR.out]
  refine ⟨rfl, _, HF.out _ _ _ _ (by omega) (by omega) (by omega) (by omega) (by omega) (by omega), hK _ ?_⟩
  clear hK K
  repeat still_step
  refine wpStill_nil ?_
  go_wp2_with fail
  rw [rounds_succ]; go_wp2_with fail
  refine still_tail_drew 13 (by kernel_rfl) (by kernel_rfl) ?_
  simp only [List.take_succ_cons, List.take_zero, List.drop_succ_cons, List.drop_zero]
  repeat still_step
  refine wpStill_step (fun K hK => ?_)
  go_simp
  rw [HR.out]
  refine ⟨rfl, _, HF.out _ _ _ _ (by omega) (by omega) (by omega) (by omega) (by omega) (by omega), hK _ ?_⟩
  clear hK K
  repeat still_step
  refine wpStill_nil ?_
  go_wp2_with fail
  rw [rounds_succ]; go_wp2_with fail
  refine still_tail_drew 13 (by kernel_rfl) (by kernel_rfl) ?_
  simp only [List.take_succ_cons, List.take_zero, List.drop_succ_cons, List.drop_zero]
  repeat still_step
  refine wpStill_step (fun K hK => ?_)
  go_simp
  rw [HR.out]
  refine ⟨rfl, _, HF.out _ _ _ _ (by omega) (by omega) (by omega) (by omega) (by omega) (by omega), hK _ ?_⟩
  clear hK K
  repeat still_step
  refine wpStill_nil ?_
  go_wp2_with fail
  rw [rounds_succ]; go_wp2_with fail
  refine still_tail_drew 13 (by kernel_rfl) (by kernel_rfl) ?_
  simp only [List.take_succ_cons, List.take_zero, List.drop_succ_cons, List.drop_zero]
  repeat still_step
  refine wpStill_step (fun K hK => ?_)
  go_simp
  rw [HR.out]
  refine ⟨rfl, _, HF.out _ _ _ _ (by omega) (by omega) (by omega) (by omega) (by omega) (by omega), hK _ ?_⟩
  clear hK K
  repeat still_step
  refine wpStill_nil ?_
  go_wp2_with fail
  rw [rounds_succ]; go_wp2_with fail
  refine (px_join _ _ _ _ _).mono ?_; rintro e w4 ⟨rfl, hb5⟩
  have HB := Aside0.mk hb4
  have hb6 := below_then (w := w) (by repeat (first | (with_reducible first | exact HB.out | apply below_alloc | apply pw_below_drewN | apply below_drew1) | exact HB.out)) hb5
  clear hb5
  go_wp2_with fail
  go_ret
  exact ⟨rfl, hb6⟩

attribute [local go_sem] max2_int min2_int max_two min_two max_three min_three max_four min_four
def cut255 (n : Int) : Int := mn (mx n 0) 255
def fAdd (a b _c : Int) : Int := a + b
def fSub (a b _c : Int) : Int := a - b
def fAvg (a b _c : Int) : Int := (a + b) / 2
def fFull (a b c : Int) : Int := cut255 (a + b - c)
def fHalf (a b _c : Int) : Int := cut255 (a + Int.tdiv (a - b) 2)
theorem half_bd (x : Int) (h0 : -255 ≤ x) (h1 : x ≤ 255) : -128 ≤ Int.tdiv x 2 ∧ Int.tdiv x 2 ≤ 128 := by
  by_cases h : 0 ≤ x
  · rw [Int.tdiv_eq_ediv_of_nonneg h]; omega
  · obtain ⟨y, rfl⟩ : ∃ y, x = -y := ⟨-x, by omega⟩
    rw [Int.neg_tdiv, Int.tdiv_eq_ediv_of_nonneg (by omega)]; omega
theorem px_run (n : Nat) (fn : Func) (h : Try.prog.funcs[n]? = some fn) (h1 : (fn.name == "runtime.NumGoroutine") = false) (h2 : fn.body.isNone = false) (args : Array Value) (W : World) : (callFunc n args).run Try.prog W = .ok (.enter n args) W := by
  have h1' : ¬ fn.name = "runtime.NumGoroutine" := by simpa using h1
  have h2' : ¬ fn.body = none := by intro e; rw [e] at h2; cases h2
  simp [callFunc, h, h1', h2', Sem.run]

set_option maxHeartbeats 800000 in
set_option maxRecDepth 100000 in
theorem px_Add1 (a b c : Int) (w : World) (a0 : 0 ≤ a) (a1 : a ≤ 255) (b0 : 0 ≤ b) (b1 : b ≤ 255) (c0 : 0 ≤ c) (c1 : c ≤ 255) :
    Calls Try.prog 42 #[.int .i64 a, .int .i64 b, .int .i64 c] w fun e w' => e = .returned (.int .i64 (fAdd a b c)) ∧ w' = w := by
  unfold fAdd
  go_enter Try.func42, Try.ntmps42
  go_wp2
  go_ret
  exact ⟨rfl, rfl⟩

set_option maxHeartbeats 800000 in
set_option maxRecDepth 100000 in
theorem px_Sub1 (a b c : Int) (w : World) (a0 : 0 ≤ a) (a1 : a ≤ 255) (b0 : 0 ≤ b) (b1 : b ≤ 255) (c0 : 0 ≤ c) (c1 : c ≤ 255) :
    Calls Try.prog 37 #[.int .i64 a, .int .i64 b, .int .i64 c] w fun e w' => e = .returned (.int .i64 (fSub a b c)) ∧ w' = w := by
  unfold fSub
  go_enter Try.func37, Try.ntmps37
  go_wp2
  go_ret
  exact ⟨rfl, rfl⟩

set_option maxHeartbeats 800000 in
set_option maxRecDepth 100000 in
theorem px_Avg1 (a b c : Int) (w : World) (a0 : 0 ≤ a) (a1 : a ≤ 255) (b0 : 0 ≤ b) (b1 : b ≤ 255) (c0 : 0 ≤ c) (c1 : c ≤ 255) :
    Calls Try.prog 57 #[.int .i64 a, .int .i64 b, .int .i64 c] w fun e w' => e = .returned (.int .i64 (fAvg a b c)) ∧ w' = w := by
  unfold fAvg
  go_enter Try.func57, Try.ntmps57
  go_wp2
  go_ret
  exact ⟨rfl, rfl⟩

set_option maxHeartbeats 800000 in
set_option maxRecDepth 100000 in
theorem px_cut (n : Int) (w : World) :
    Calls Try.prog 60 #[.int .i64 n] w fun e w' => e = .returned (.int .i64 (cut255 n)) ∧ w' = w := by
  go_enter Try.func60, Try.ntmps60
  go_wp2
  all_goals
    go_ret
    refine ⟨congrArg (fun z => Ending.returned (.int .i64 z)) ?_, rfl⟩
    unfold cut255 mn mx
    (repeat' split) <;> omega

set_option maxHeartbeats 800000 in
set_option maxRecDepth 100000 in
theorem px_Full1 (a b c : Int) (w : World) (a0 : 0 ≤ a) (a1 : a ≤ 255) (b0 : 0 ≤ b) (b1 : b ≤ 255) (c0 : 0 ≤ c) (c1 : c ≤ 255) :
    Calls Try.prog 59 #[.int .i64 a, .int .i64 b, .int .i64 c] w fun e w' => e = .returned (.int .i64 (fFull a b c)) ∧ w' = w := by
  unfold fFull
  go_enter Try.func59, Try.ntmps59
  go_wp2_with (go_at_call 60; refine (px_cut _ _).mono ?_; rintro e w' ⟨rfl, rfl⟩)
  go_ret
  exact ⟨rfl, rfl⟩

set_option maxHeartbeats 800000 in
set_option maxRecDepth 100000 in
theorem px_Half1 (a b c : Int) (w : World) (a0 : 0 ≤ a) (a1 : a ≤ 255) (b0 : 0 ≤ b) (b1 : b ≤ 255) (c0 : 0 ≤ c) (c1 : c ≤ 255) :
    Calls Try.prog 61 #[.int .i64 a, .int .i64 b, .int .i64 c] w fun e w' => e = .returned (.int .i64 (fHalf a b c)) ∧ w' = w := by
  unfold fHalf
  have hd := half_bd (a - b) (by omega) (by omega)
  go_enter Try.func61, Try.ntmps61
  go_wp2_with (go_at_call 60; refine (px_cut _ _).mono ?_; rintro e w' ⟨rfl, rfl⟩)
  go_ret
  exact ⟨rfl, rfl⟩

def pixel_Add.f (p q : Int) : Option Int := if U32 p ∧ U32 q then some (each4 fAdd p q 0) else none
set_option maxHeartbeats 800000 in
set_option maxRecDepth 100000 in
theorem pixel_Add.calls (p q r : Int) (w : World) (h : pixel_Add.f p q = some r) :
    Calls Try.prog 26 #[.int .u32 p, .int .u32 q] w fun e w' => e = .returned (.int .u32 r) ∧ Below w.heap.size w w' := by
  obtain ⟨hp, rfl⟩ := px_some h
  clear h
  have Hp := Lib.hid hp
  clear hp
  go_enter Try.func26, Try.ntmps26
  go_wp2_with fail
  refine (px_each _ fAdd (px_run _ Try.f42 (by kernel_rfl) (by kernel_rfl) (by kernel_rfl)) px_Add1 p q 0 _ Hp.out.1 Hp.out.2 (by unfold U32; omega)).mono ?_; rintro e w1 ⟨rfl, hb1⟩
  go_wp2_with fail
  go_ret
  exact ⟨rfl, hb1⟩

def pixel_Sub.f (p q : Int) : Option Int := if U32 p ∧ U32 q then some (each4 fSub p q 0) else none
set_option maxHeartbeats 800000 in
set_option maxRecDepth 100000 in
theorem pixel_Sub.calls (p q r : Int) (w : World) (h : pixel_Sub.f p q = some r) :
    Calls Try.prog 20 #[.int .u32 p, .int .u32 q] w fun e w' => e = .returned (.int .u32 r) ∧ Below w.heap.size w w' := by
  obtain ⟨hp, rfl⟩ := px_some h
  clear h
  have Hp := Lib.hid hp
  clear hp
  go_enter Try.func20, Try.ntmps20
  go_wp2_with fail
  refine (px_each _ fSub (px_run _ Try.f37 (by kernel_rfl) (by kernel_rfl) (by kernel_rfl)) px_Sub1 p q 0 _ Hp.out.1 Hp.out.2 (by unfold U32; omega)).mono ?_; rintro e w1 ⟨rfl, hb1⟩
  go_wp2_with fail
  go_ret
  exact ⟨rfl, hb1⟩

def pixel_Avg.f (p q : Int) : Option Int := if U32 p ∧ U32 q then some (each4 fAvg p q 0) else none
set_option maxHeartbeats 800000 in
set_option maxRecDepth 100000 in
theorem pixel_Avg.calls (p q r : Int) (w : World) (h : pixel_Avg.f p q = some r) :
    Calls Try.prog 49 #[.int .u32 p, .int .u32 q] w fun e w' => e = .returned (.int .u32 r) ∧ Below w.heap.size w w' := by
  obtain ⟨hp, rfl⟩ := px_some h
  clear h
  have Hp := Lib.hid hp
  clear hp
  go_enter Try.func49, Try.ntmps49
  go_wp2_with fail
  refine (px_each _ fAvg (px_run _ Try.f57 (by kernel_rfl) (by kernel_rfl) (by kernel_rfl)) px_Avg1 p q 0 _ Hp.out.1 Hp.out.2 (by unfold U32; omega)).mono ?_; rintro e w1 ⟨rfl, hb1⟩
  go_wp2_with fail
  go_ret
  exact ⟨rfl, hb1⟩

def pixel_Half.f (p q : Int) : Option Int := if U32 p ∧ U32 q then some (each4 fHalf p q 0) else none
set_option maxHeartbeats 800000 in
set_option maxRecDepth 100000 in
theorem pixel_Half.calls (p q r : Int) (w : World) (h : pixel_Half.f p q = some r) :
    Calls Try.prog 52 #[.int .u32 p, .int .u32 q] w fun e w' => e = .returned (.int .u32 r) ∧ Below w.heap.size w w' := by
  obtain ⟨hp, rfl⟩ := px_some h
  clear h
  have Hp := Lib.hid hp
  clear hp
  go_enter Try.func52, Try.ntmps52
  go_wp2_with fail
  refine (px_each _ fHalf (px_run _ Try.f61 (by kernel_rfl) (by kernel_rfl) (by kernel_rfl)) px_Half1 p q 0 _ Hp.out.1 Hp.out.2 (by unfold U32; omega)).mono ?_; rintro e w1 ⟨rfl, hb1⟩
  go_wp2_with fail
  go_ret
  exact ⟨rfl, hb1⟩

def pixel_Full.f (p q z : Int) : Option Int := if U32 p ∧ U32 q ∧ U32 z then some (each4 fFull p q z) else none
set_option maxHeartbeats 800000 in
set_option maxRecDepth 100000 in
theorem pixel_Full.calls (p q z r : Int) (w : World) (h : pixel_Full.f p q z = some r) :
    Calls Try.prog 51 #[.int .u32 p, .int .u32 q, .int .u32 z] w fun e w' => e = .returned (.int .u32 r) ∧ Below w.heap.size w w' := by
  obtain ⟨hp, rfl⟩ := px_some h
  clear h
  have Hp := Lib.hid hp
  clear hp
  go_enter Try.func51, Try.ntmps51
  go_wp2_with fail
  refine (px_each _ fFull (px_run _ Try.f59 (by kernel_rfl) (by kernel_rfl) (by kernel_rfl)) px_Full1 p q z _ Hp.out.1 Hp.out.2.1 Hp.out.2.2).mono ?_; rintro e w1 ⟨rfl, hb1⟩
  go_wp2_with fail
  go_ret
  exact ⟨rfl, hb1⟩
end Go.Proofs.Ytnbocgmlcdcahaa.P
