/- A pixel above another one: what canvas.Over and the reference's Over come to. -/
import Derived.Test.YtegifkffhnhccaaProg
import Derived.Below
import Derived.Deep.Draws
import Derived.Deep.AppendLies
import Derived.Maps.AppendAt
import Derived.OwnWalk
import Derived.Laws.BytesArg
import Derived.Laws.MakeOwn
import Derived.Laws.OwnMore
import Derived.Deep.OwnRows
import Derived.Tactics
import Derived.Lib.ConvBytes
import Derived.Laws.Slices
import Derived.WalkKit
import Derived.KernelRfl
import Derived.RowKit3
import Derived.Deep.LoopGhost
import Derived.Deep.QuietTactic
import Derived.BigQuiet
import Derived.WideLaws
import Derived.Deep.DeepCutAuto
import Derived.Deep.CutBlock
import Derived.Deep.RegionHeld3
import Derived.Laws.Rows
import Derived.Lib.AppendStr
import Derived.ArgAppend
import Derived.Laws.IdiomCopy
import Derived.OrdersHeld
import Derived.Laws.BitsLemmas
import Derived.RowKit
import Derived.LoopN
import Derived.Handy
import Derived.Lib.Hide
import Derived.StillTailTactics
import Derived.Deep.RegionLaw
import Derived.Deep.RegionWith
import Derived.Test.YtegifkffhnhccaaWWords
import Derived.Test.YtegifkffhnhccaaWLast
import Derived.Test.YtegifkffhnhccaaWTab
import Derived.Test.YtegifkffhnhccaaWFour
import Derived.Test.YtegifkffhnhccaaWQPut
import Derived.Test.YtegifkffhnhccaaWApart
import Derived.Test.YtegifkffhnhccaaWArr
import Derived.Test.YtegifkffhnhccaaWZeros
import Derived.Test.YtegifkffhnhccaaWFoot
import Derived.Test.YtegifkffhnhccaaWKept
import Derived.Test.YtegifkffhnhccaaWShare
import Derived.Test.YtegifkffhnhccaaWN
import Derived.Test.YtegifkffhnhccaaWFootNe
import Derived.Test.YtegifkffhnhccaaWAt
import Derived.Test.YtegifkffhnhccaaWEqStruct
import Derived.Test.YtegifkffhnhccaaWRepsOne
import Derived.Test.YtegifkffhnhccaaWInv
import Derived.Test.YtegifkffhnhccaaWInvWords
import Derived.Test.YtegifkffhnhccaaWGuard
import Derived.Test.YtegifkffhnhccaaWNEv
import Derived.Test.YtegifkffhnhccaaWMore
import Derived.Test.YtegifkffhnhccaaSl
namespace Go.Proofs.Ytegifkffhnhccaa.P
open Go Go.RowKit Go.Proofs.YtegifkffhnhccaaW.PrintWords Go.Proofs.YtegifkffhnhccaaW.PrintLast Go.Proofs.YtegifkffhnhccaaW.PrintMore
set_option linter.unusedVariables false
set_option linter.unusedSimpArgs false
attribute [local go_sem] max2_int min2_int max_two min_two max_three min_three max_four min_four

theorem px_w64 {n : Int} (h0 : -9223372036854775808 ≤ n) (h1 : n ≤ 9223372036854775807) : wrap64 n = n := by unfold wrap64; omega
theorem below_then {w X w4 : World} (h1 : Below w.heap.size w X) (h2 : Below X.heap.size X w4) : Below w.heap.size w w4 := h1.trans (h2.mono h1.size)
/-- A pixel of four, each round at 256. -/
def join4 (a b c d : Int) : Int := ((a % 256 * 256 + b % 256) * 256 + c % 256) * 256 + d % 256
def pA (p : Int) : Int := p / 16777216
def pR (p : Int) : Int := p / 65536 % 256
def pG (p : Int) : Int := p / 256 % 256
def pB (p : Int) : Int := p % 256
def U32 (p : Int) : Prop := 0 ≤ p ∧ p ≤ 4294967295
instance (p : Int) : Decidable (U32 p) := by unfold U32; infer_instance
theorem pA_bd {p : Int} (h : U32 p) : 0 ≤ pA p ∧ pA p ≤ 255 := by unfold U32 at h; unfold pA; omega
theorem pR_bd (p : Int) : 0 ≤ pR p ∧ pR p ≤ 255 := by unfold pR; omega
theorem pG_bd (p : Int) : 0 ≤ pG p ∧ pG p ≤ 255 := by unfold pG; omega
theorem pB_bd (p : Int) : 0 ≤ pB p ∧ pB p ≤ 255 := by unfold pB; omega
theorem u32_join (a b c d : Int) : U32 (join4 a b c d) := by unfold U32 join4; omega

/-- How much of what is below is seen. -/
def under (p q : Int) : Int := pA p * (255 - pA q) / 255
def mixP (x y a d : Int) : Int := (x * a + y * d) / (a + d)
/-- A pixel q above a pixel p. -/
def overP (p q : Int) : Int := if pA q + under p q = 0 then 0 else join4 (pA q + under p q) (mixP (pR q) (pR p) (pA q) (under p q)) (mixP (pG q) (pG p) (pA q) (under p q)) (mixP (pB q) (pB p) (pA q) (under p q))
theorem mul_bd {x y X Y : Int} (h0 : 0 ≤ x) (h1 : x ≤ X) (h2 : 0 ≤ y) (h3 : y ≤ Y) : 0 ≤ x * y ∧ x * y ≤ X * Y := ⟨Int.mul_nonneg h0 h2, Int.mul_le_mul h1 h3 h2 (by omega)⟩
theorem under_bd {p q : Int} (hp : U32 p) (hq : U32 q) : 0 ≤ under p q ∧ under p q ≤ 255 - pA q := by
  have h1 := pA_bd hp
  have h2 := pA_bd hq
  have h3 := mul_bd (x := pA p) (y := 255 - pA q) (X := 255) (Y := 255 - pA q) h1.1 h1.2 (by omega) (Int.le_refl _)
  unfold under
  omega
theorem mixP_bd {x y a d : Int} (hx : 0 ≤ x ∧ x ≤ 255) (hy : 0 ≤ y ∧ y ≤ 255) (ha : 0 ≤ a) (hd : 0 ≤ d) (hs : 0 < a + d) : 0 ≤ mixP x y a d ∧ mixP x y a d ≤ 255 := by
  have h1 := mul_bd (x := x) (y := a) (X := 255) (Y := a) hx.1 hx.2 ha (Int.le_refl _)
  have h2 := mul_bd (x := y) (y := d) (X := 255) (Y := d) hy.1 hy.2 hd (Int.le_refl _)
  unfold mixP
  refine ⟨Int.ediv_nonneg (by omega) (by omega), ?_⟩
  have : x * a + y * d ≤ 255 * (a + d) := by rw [Int.mul_add]; omega
  exact Int.ediv_le_of_le_mul hs (by omega)
theorem mix_eq {x y a d : Int} (hx : 0 ≤ x ∧ x ≤ 255) (hy : 0 ≤ y ∧ y ≤ 255) (ha : 0 ≤ a ∧ a ≤ 255) (hd : 0 ≤ d ∧ d ≤ 255) (hs : 0 < a + d) :
    wrap64 (x * a) = x * a ∧ wrap64 (y * d) = y * d ∧ wrap64 (x * a + y * d) = x * a + y * d ∧ (x * a + y * d).tdiv (a + d) = mixP x y a d ∧ wrap64 (mixP x y a d) = mixP x y a d := by
  have h1 := mul_bd (x := x) (y := a) (X := 255) (Y := 255) hx.1 hx.2 ha.1 ha.2
  have h2 := mul_bd (x := y) (y := d) (X := 255) (Y := 255) hy.1 hy.2 hd.1 hd.2
  have h3 := mixP_bd hx hy ha.1 hd.1 hs
  refine ⟨px_w64 (by omega) (by omega), px_w64 (by omega) (by omega), px_w64 (by omega) (by omega), ?_, px_w64 (by omega) (by omega)⟩
  rw [Int.tdiv_eq_ediv_of_nonneg (by omega)]
  rfl
theorem or24 (x y : Int) (a : 0 ≤ x) (b : x < 4294967296) (c : x % 16777216 = 0) (d : 0 ≤ y) (e : y < 16777216) : Go.bits .or .u32 x y = x + y :=
  bits_join .u32 32 (by decide) (fun n h0 h1 => by rw [IntKind.wrap_u32]; omega) 24 x y a (by simpa using c) (by omega) d (by omega) (by omega)
theorem or16 (x y : Int) (a : 0 ≤ x) (b : x < 4294967296) (c : x % 65536 = 0) (d : 0 ≤ y) (e : y < 65536) : Go.bits .or .u32 x y = x + y :=
  bits_join .u32 32 (by decide) (fun n h0 h1 => by rw [IntKind.wrap_u32]; omega) 16 x y a (by simpa using c) (by omega) d (by omega) (by omega)
theorem or08 (x y : Int) (a : 0 ≤ x) (b : x < 4294967296) (c : x % 256 = 0) (d : 0 ≤ y) (e : y < 256) : Go.bits .or .u32 x y = x + y :=
  bits_join .u32 32 (by decide) (fun n h0 h1 => by rw [IntKind.wrap_u32]; omega) 8 x y a (by simpa using c) (by omega) d (by omega) (by omega)
theorem make4_eq (a r g b : Int) (ha : 0 ≤ a ∧ a ≤ 255) (hr : 0 ≤ r ∧ r ≤ 255) (hg : 0 ≤ g ∧ g ≤ 255) (hb : 0 ≤ b ∧ b ≤ 255) :
    Go.bits .or .u32 (Go.bits .or .u32 (Go.bits .or .u32 (a * 16777216) (r * 65536)) (g * 256)) b = join4 a r g b := by
  rw [or24 (a * 16777216) (r * 65536) (by omega) (by omega) (by omega) (by omega) (by omega), or16 (a * 16777216 + r * 65536) (g * 256) (by omega) (by omega) (by omega) (by omega) (by omega), or08 _ b (by omega) (by omega) (by omega) (by omega) (by omega)]
  unfold join4
  omega
theorem px_parts (p : Int) (w : World) (h : U32 p) :
    Calls Try.prog 23 #[.int .u32 p] w fun e w' => e = .returned (.tuple #[.int .u8 (pA p), .int .u8 (pR p), .int .u8 (pG p), .int .u8 (pB p)]) ∧ w = w' := by
  obtain ⟨h0, h1⟩ := h
  go_enter Try.func23, Try.ntmps23
  go_wp2
  refine bodyPost_ret (v := .tuple #[.int .u8 (pA p), .int .u8 (pR p), .int .u8 (pG p), .int .u8 (pB p)]) ?_ rfl ⟨rfl, rfl⟩
  simp [results, Try.results23, go_sem]
  unfold pA pR pG pB
  omega
theorem px_make8 (a r g b : Int) (w : World) (ha : 0 ≤ a ∧ a ≤ 255) (hr : 0 ≤ r ∧ r ≤ 255) (hg : 0 ≤ g ∧ g ≤ 255) (hb : 0 ≤ b ∧ b ≤ 255) :
    Calls Try.prog 25 #[.int .u8 a, .int .u8 r, .int .u8 g, .int .u8 b] w fun e w' => e = .returned (.int .u32 (join4 a r g b)) ∧ w = w' := by
  have hj := make4_eq a r g b ha hr hg hb
  have q1 : a % 4294967296 * 16777216 % 4294967296 = a * 16777216 := by omega
  have q2 : r % 4294967296 * 65536 % 4294967296 = r * 65536 := by omega
  have q3 : g % 4294967296 * 256 % 4294967296 = g * 256 := by omega
  have q4 : b % 4294967296 = b := by omega
  have HJ := Aside0.mk hj; clear hj
  have Q1 := Aside0.mk q1; clear q1
  have Q2 := Aside0.mk q2; clear q2
  have Q3 := Aside0.mk q3; clear q3
  have Q4 := Aside0.mk q4; clear q4
  go_enter Try.func25, Try.ntmps25
  go_wp2
  go_ret
  refine ⟨congrArg (fun z => Ending.returned (.int .u32 z)) ?_, rfl⟩
  rw [← HJ.out]
theorem mix_all {x y a d : Int} (hx : 0 ≤ x ∧ x ≤ 255) (hy : 0 ≤ y ∧ y ≤ 255) (ha : 0 ≤ a ∧ a ≤ 255) (hd : 0 ≤ d ∧ d ≤ 255) (hs : 0 < a + d) :
    wrap64 ((wrap64 (wrap64 (wrap64 x * wrap64 a) + wrap64 (wrap64 y * d))).tdiv (a + d)) % 256 = mixP x y a d := by
  obtain ⟨e1, e2, e3, e4, e5⟩ := mix_eq hx hy ha hd hs
  have hb := mixP_bd hx hy ha.1 hd.1 hs
  rw [px_w64 (n := x) (by omega) (by omega), px_w64 (n := a) (by omega) (by omega), px_w64 (n := y) (by omega) (by omega), e1, e2, e3, e4, e5]
  omega
/-- The closure that mixes: its three boxes. -/
theorem px_mixer (x y a d s : Int) (g1 g2 g3 : Nat) (w : World) (hx : 0 ≤ x ∧ x ≤ 255) (hy : 0 ≤ y ∧ y ≤ 255) (ha : 0 ≤ a ∧ a ≤ 255) (hd : 0 ≤ d ∧ d ≤ 255) (hs : 0 < a + d) (hsd : s = a + d)
    (m1 : w.cell? ⟨g1, 0, none⟩ = some (.int .u8 a)) (m2 : w.cell? ⟨g2, 0, none⟩ = some (.int .i64 d)) (m3 : w.cell? ⟨g3, 0, none⟩ = some (.int .i64 s)) :
    Calls Try.prog 24 #[.int .u8 x, .int .u8 y, .pointer (some ⟨g1, 0, none⟩), .pointer (some ⟨g2, 0, none⟩), .pointer (some ⟨g3, 0, none⟩)] w fun e w' => e = .returned (.int .u8 (mixP x y a d)) ∧ w = w' := by
  have E := Aside0.mk (mix_all hx hy ha hd hs)
  subst hsd
  have z : ¬ (a + d = 0) := by omega
  have z1 : (a + d == 0) = false := by simp [z]
  have z2 : (a + d = 0) = False := by simp [z]
  clear hx hy ha hd hs z
  go_enter Try.func24, Try.ntmps24
  go_wp2
  go_ret
  exact ⟨congrArg (fun z => Ending.returned (.int .u8 z)) E.out, rfl⟩
def canvas_Over.f (p q : Int) : Option Int := if U32 p ∧ U32 q then some (overP p q) else none
set_option maxHeartbeats 1600000 in
set_option maxRecDepth 100000 in
theorem px_over (p q : Int) (w : World) (hp : U32 p) (hq : U32 q) :
    Calls Try.prog 10 #[.int .u32 p, .int .u32 q] w fun e w' => e = .returned (.int .u32 (overP p q)) ∧ Below w.heap.size w w' := by
  have a1 := pA_bd hp
  have a2 := pA_bd hq
  have u1 := under_bd hp hq
  have hm := mul_bd (x := pA p) (y := 255 - pA q) (X := 255) (Y := 255) a1.1 a1.2 (by omega) (by omega)
  obtain ⟨u, hu⟩ : ∃ u, pA p * (255 - pA q) / 255 = u := ⟨_, rfl⟩
  have hu2 : under p q = u := hu
  have hov : overP p q = if pA q + u = 0 then 0 else join4 (pA q + u) (mixP (pR q) (pR p) (pA q) u) (mixP (pG q) (pG p) (pA q) u) (mixP (pB q) (pB p) (pA q) u) := by rw [← hu2]; rfl
  rw [hu2] at u1
  have hs3 := (((St.refl w).alloc #[.int .u8 (pA q)] 5).alloc #[.int .i64 u] 3).alloc #[.int .i64 (pA q + u)] 3
  rw [show ((w.alloc (.cells #[.int .u8 (pA q)] 5)).alloc (.cells #[.int .i64 u] 3)).heap.size = w.heap.size + 2 by simp, show (w.alloc (.cells #[.int .u8 (pA q)] 5)).heap.size = w.heap.size + 1 by simp] at hs3
  have m3 := (hs3.cell 0).trans rfl
  have m2 := (hs3.swap.cell 0).trans rfl
  have m1 := (hs3.rot3.cell 0).trans rfl
  have HB := Aside0.mk hs3.below; clear hs3 hu2
  have hP := Aside0.mk hp; clear hp
  have hQ := Aside0.mk hq; clear hq
  by_cases hz : pA q + u = 0
  · have t1 : (pA q + u == 0) = true := by simp [hz]
    rw [if_pos hz] at hov
    have HO := Aside0.mk hov; clear hov hz m1 m2 m3
    go_enter Try.func10, Try.ntmps10
    go_wp2_with fail
    refine (px_parts p _ hP.out).mono ?_; rintro e w' ⟨rfl, rfl⟩
    go_wp2_with fail
    refine (px_parts q _ hQ.out).mono ?_; rintro e w' ⟨rfl, rfl⟩
    go_wp2_with fail
    go_ret
    exact ⟨by rw [HO.out]; rfl, HB.out⟩
  · have t1 : (pA q + u == 0) = false := by simp [hz]
    rw [if_neg hz] at hov
    have HO := Aside0.mk hov; clear hov
    have hpos : 0 < pA q + u := by omega
    clear hz
    have hs255 : IntKind.u8.wrap (pA q + u) = pA q + u := by simp [IntKind.wrap, IntKind.bits, IntKind.signed]; omega
    have b1 := mixP_bd (x := pR q) (y := pR p) (a := pA q) (d := u) (pR_bd q) (pR_bd p) a2.1 u1.1 hpos
    have b2 := mixP_bd (x := pG q) (y := pG p) (a := pA q) (d := u) (pG_bd q) (pG_bd p) a2.1 u1.1 hpos
    have b3 := mixP_bd (x := pB q) (y := pB p) (a := pA q) (d := u) (pB_bd q) (pB_bd p) a2.1 u1.1 hpos
    have B1 := Aside0.mk b1; clear b1
    have B2 := Aside0.mk b2; clear b2
    have B3 := Aside0.mk b3; clear b3
    have A2 := Aside0.mk a2
    have U1 := Aside0.mk u1
    have HP := Aside0.mk hpos; clear hpos
    have M1 := Aside0.mk m1
    have M2 := Aside0.mk m2
    have M3 := Aside0.mk m3; clear m1 m2
    have HS := Aside0.mk hs255; clear hs255
    go_enter Try.func10, Try.ntmps10
    go_wp2_with fail
    refine (px_parts p _ hP.out).mono ?_; rintro e w' ⟨rfl, rfl⟩
    go_wp2_with fail
    refine (px_parts q _ hQ.out).mono ?_; rintro e w' ⟨rfl, rfl⟩
    go_wp2_with fail
    generalize ((w.alloc (.cells #[.int .u8 (pA q)] 5)).alloc (.cells #[.int .i64 u] 3)).alloc (.cells #[.int .i64 (pA q + u)] 3) = W at *
    have hs255 := HS.out
    have M1 : Aside0 (W.drew.cell? ⟨w.heap.size, 0, none⟩ = some (.int .u8 (pA q))) := ⟨M1.out⟩
    have M2 : Aside0 (W.drew.cell? ⟨w.heap.size + 1, 0, none⟩ = some (.int .i64 u)) := ⟨M2.out⟩
    have m3' := M3.out
    have M3 : Aside0 (W.drew.cell? ⟨w.heap.size + 2, 0, none⟩ = some (.int .i64 (pA q + u))) := ⟨M3.out⟩
    have UA : Aside0 (0 ≤ u ∧ u ≤ 255) := ⟨⟨U1.out.1, by have := U1.out; have := A2.out; omega⟩⟩
    have SA : Aside0 (0 ≤ pA q + u ∧ pA q + u ≤ 255) := ⟨⟨by have := U1.out; have := A2.out; omega, by have := U1.out; have := A2.out; omega⟩⟩
    go_region_held3 (fun w' => w'.cell? ⟨w.heap.size + 2, 0, none⟩ = some (.int .i64 (pA q + u))) (go_keep) (first
      | (go_at_call 24; with_reducible refine (px_mixer (pR q) (pR p) (pA q) u (pA q + u) w.heap.size (w.heap.size + 1) (w.heap.size + 2) W.drew (pR_bd q) (pR_bd p) A2.out UA.out HP.out rfl M1.out M2.out M3.out).mono ?_; rintro e w' ⟨rfl, rfl⟩)
      | (go_at_call 24; with_reducible refine (px_mixer (pG q) (pG p) (pA q) u (pA q + u) w.heap.size (w.heap.size + 1) (w.heap.size + 2) W.drew (pG_bd q) (pG_bd p) A2.out UA.out HP.out rfl M1.out M2.out M3.out).mono ?_; rintro e w' ⟨rfl, rfl⟩)
      | (go_at_call 24; with_reducible refine (px_mixer (pB q) (pB p) (pA q) u (pA q + u) w.heap.size (w.heap.size + 1) (w.heap.size + 2) W.drew (pB_bd q) (pB_bd p) A2.out UA.out HP.out rfl M1.out M2.out M3.out).mono ?_; rintro e w' ⟨rfl, rfl⟩)
      | (go_at_call 25; with_reducible refine (px_make8 (pA q + u) (mixP (pR q) (pR p) (pA q) u) (mixP (pG q) (pG p) (pA q) u) (mixP (pB q) (pB p) (pA q) u) W.drew SA.out B1.out B2.out B3.out).mono ?_; rintro e w' ⟨rfl, rfl⟩))
    go_wp2_with fail
    go_ret
    exact ⟨by rw [HO.out]; rfl, below_drew HB.out⟩
theorem canvas_Over.calls (p q r : Int) (w : World) (h : canvas_Over.f p q = some r) :
    Calls Try.prog 10 #[.int .u32 p, .int .u32 q] w fun e w' => e = .returned (.int .u32 r) ∧ Below w.heap.size w w' := by
  unfold canvas_Over.f at h
  by_cases c : U32 p ∧ U32 q
  · rw [if_pos c] at h
    obtain rfl := Option.some.inj h
    exact px_over p q w c.1 c.2
  · rw [if_neg c] at h; cases h

/-! ### the reference's -/
set_option maxRecDepth 100000 in
theorem px_part0 (p : Int) (w : World) (h : U32 p) :
    Calls Try.prog 26 #[.int .u32 p, .int .i64 0] w fun e w' => e = .returned (.int .i64 (pA p)) ∧ w' = w := by
  unfold U32 at h
  obtain ⟨h0, h1⟩ := h
  go_enter Try.func26, Try.ntmps26
  go_wp2
  go_ret
  refine ⟨congrArg (fun z => Ending.returned (.int .i64 z)) ?_, rfl⟩
  unfold pA
  first | rfl | omega | (unfold wrap64; omega) | (simp; omega)

set_option maxRecDepth 100000 in
theorem px_part1 (p : Int) (w : World) (h : U32 p) :
    Calls Try.prog 26 #[.int .u32 p, .int .i64 1] w fun e w' => e = .returned (.int .i64 (pR p)) ∧ w' = w := by
  unfold U32 at h
  obtain ⟨h0, h1⟩ := h
  go_enter Try.func26, Try.ntmps26
  go_wp2
  go_ret
  refine ⟨congrArg (fun z => Ending.returned (.int .i64 z)) ?_, rfl⟩
  unfold pR
  first | rfl | omega | (unfold wrap64; omega) | (simp; omega)

set_option maxRecDepth 100000 in
theorem px_part2 (p : Int) (w : World) (h : U32 p) :
    Calls Try.prog 26 #[.int .u32 p, .int .i64 2] w fun e w' => e = .returned (.int .i64 (pG p)) ∧ w' = w := by
  unfold U32 at h
  obtain ⟨h0, h1⟩ := h
  go_enter Try.func26, Try.ntmps26
  go_wp2
  go_ret
  refine ⟨congrArg (fun z => Ending.returned (.int .i64 z)) ?_, rfl⟩
  unfold pG
  first | rfl | omega | (unfold wrap64; omega) | (simp; omega)

set_option maxRecDepth 100000 in
theorem px_part3 (p : Int) (w : World) (h : U32 p) :
    Calls Try.prog 26 #[.int .u32 p, .int .i64 3] w fun e w' => e = .returned (.int .i64 (pB p)) ∧ w' = w := by
  unfold U32 at h
  obtain ⟨h0, h1⟩ := h
  go_enter Try.func26, Try.ntmps26
  go_wp2
  go_ret
  refine ⟨congrArg (fun z => Ending.returned (.int .i64 z)) ?_, rfl⟩
  unfold pB
  first | rfl | omega | (unfold wrap64; omega) | (simp; omega)

theorem px_mod (a : Int) : Int.tmod (wrap64 (Int.tmod a 256 + 256)) 256 = a % 256 := by
  have h : -255 ≤ Int.tmod a 256 ∧ Int.tmod a 256 ≤ 255 ∧ ∃ q, a = 256 * q + Int.tmod a 256 := by
    refine ⟨?_, ?_, Int.tdiv a 256, (Int.mul_tdiv_add_tmod a 256).symm⟩
    · have := Int.lt_tmod_of_pos a (b := 256) (by decide); omega
    · have := Int.tmod_lt_of_pos a (b := 256) (by decide); omega
  obtain ⟨h0, h1, q, hq⟩ := h
  rw [px_w64 (by omega) (by omega), Int.tmod_eq_emod_of_nonneg (by omega)]
  omega
def marquetryref11_Make.f (a b c d : Int) : Option Int := some (join4 a b c d)
set_option maxHeartbeats 800000 in
set_option maxRecDepth 100000 in
theorem px_make (a b c d : Int) (w : World) :
    Calls Try.prog 27 #[.agg #[.int .i64 a, .int .i64 b, .int .i64 c, .int .i64 d]] w fun e w' => e = .returned (.int .u32 (join4 a b c d)) ∧ Below w.heap.size w w' := by
  have m0 := Lib.hid (px_mod a)
  have m1 := Lib.hid (px_mod b)
  have m2 := Lib.hid (px_mod c)
  have m3 := Lib.hid (px_mod d)
  go_enter Try.func27, Try.ntmps27
  go_wp2
  refine wp_loop_rounds 5 ?_
  rw [rounds_succ]; go_wp2
  rw [rounds_succ]; go_wp2
  rw [rounds_succ]; go_wp2
  rw [rounds_succ]; go_wp2
  rw [rounds_succ]; go_wp2
  go_ret
  refine ⟨congrArg (fun z => Ending.returned (.int .u32 z)) ?_, (Below.refl _ _).alloc (Nat.le_refl _) _⟩
  simp only [m0.out, m1.out, m2.out, m3.out]
  unfold join4
  simp
  omega

theorem marquetryref11_Make.calls (a b c d r : Int) (w : World) (h : marquetryref11_Make.f a b c d = some r) :
    Calls Try.prog 27 #[.agg #[.int .i64 a, .int .i64 b, .int .i64 c, .int .i64 d]] w fun e w' => e = .returned (.int .u32 r) ∧ Below w.heap.size w w' := by
  obtain rfl := Option.some.inj h
  exact px_make a b c d w


theorem mixI_all {x y a d : Int} (hx : 0 ≤ x ∧ x ≤ 255) (hy : 0 ≤ y ∧ y ≤ 255) (ha : 0 ≤ a ∧ a ≤ 255) (hd : 0 ≤ d ∧ d ≤ 255) (hs : 0 < a + d) :
    wrap64 ((wrap64 (wrap64 (x * a) + wrap64 (y * d))).tdiv (a + d)) = mixP x y a d := by
  obtain ⟨e1, e2, e3, e4, e5⟩ := mix_eq hx hy ha hd hs
  rw [e1, e2, e3, e4, e5]
def marquetryref24_Over.f (p q : Int) : Option Int := if U32 p ∧ U32 q then some (overP p q) else none
set_option maxHeartbeats 1600000 in
set_option maxRecDepth 100000 in
theorem px_rover (p q : Int) (w : World) (hp : U32 p) (hq : U32 q) :
    Calls Try.prog 12 #[.int .u32 p, .int .u32 q] w fun e w' => e = .returned (.int .u32 (overP p q)) ∧ Below w.heap.size w w' := by
  have a1 := pA_bd hp
  have a2 := pA_bd hq
  have u1 := under_bd hp hq
  have hm := mul_bd (x := pA p) (y := 255 - pA q) (X := 255) (Y := 255) a1.1 a1.2 (by omega) (by omega)
  obtain ⟨u, hu⟩ : ∃ u, pA p * (255 - pA q) / 255 = u := ⟨_, rfl⟩
  have hu2 : under p q = u := hu
  have hov : overP p q = if pA q + u = 0 then 0 else join4 (pA q + u) (mixP (pR q) (pR p) (pA q) u) (mixP (pG q) (pG p) (pA q) u) (mixP (pB q) (pB p) (pA q) u) := by rw [← hu2]; rfl
  rw [hu2] at u1
  clear hu2
  have hP := Aside0.mk hp; clear hp
  have hQ := Aside0.mk hq; clear hq
  by_cases hz : pA q + u = 0
  · have t1 : (pA q + u == 0) = true := by simp [hz]
    rw [if_pos hz] at hov
    have HO := Aside0.mk hov; clear hov hz
    go_enter Try.func12, Try.ntmps12
    go_wp2_with fail
    refine (px_part0 q _ hQ.out).mono ?_; rintro e w' ⟨rfl, hw⟩; obtain rfl := hw.symm; clear hw
    go_wp2_with fail
    refine (px_part0 p _ hP.out).mono ?_; rintro e w' ⟨rfl, hw⟩; obtain rfl := hw.symm; clear hw
    go_wp2_with fail
    go_ret
    exact ⟨by rw [HO.out]; rfl, Below.refl _ _⟩
  · have t1 : (pA q + u == 0) = false := by simp [hz]
    rw [if_neg hz] at hov
    have HO := Aside0.mk hov; clear hov
    have hpos : 0 < pA q + u := by omega
    have t2 : (pA q + u = 0) = False := by simp [hz]
    clear hz
    have e1 := mixI_all (x := pR q) (y := pR p) (a := pA q) (d := u) (pR_bd q) (pR_bd p) a2 ⟨u1.1, by omega⟩ hpos
    have e2 := mixI_all (x := pG q) (y := pG p) (a := pA q) (d := u) (pG_bd q) (pG_bd p) a2 ⟨u1.1, by omega⟩ hpos
    have e3 := mixI_all (x := pB q) (y := pB p) (a := pA q) (d := u) (pB_bd q) (pB_bd p) a2 ⟨u1.1, by omega⟩ hpos
    have E1 := Aside0.mk e1; clear e1
    have E2 := Aside0.mk e2; clear e2
    have E3 := Aside0.mk e3; clear e3
    have HP := Aside0.mk hpos; clear hpos
    go_enter Try.func12, Try.ntmps12
    go_wp2_with fail
    refine (px_part0 q _ hQ.out).mono ?_; rintro e w' ⟨rfl, hw⟩; obtain rfl := hw.symm; clear hw
    go_wp2_with fail
    refine (px_part0 p _ hP.out).mono ?_; rintro e w' ⟨rfl, hw⟩; obtain rfl := hw.symm; clear hw
    go_wp2_with fail
    refine wp_loop_rounds 4 ?_
    rw [rounds_succ]
    go_wp2_with fail
    refine (px_part1 q _ hQ.out).mono ?_; rintro e w' ⟨rfl, hw⟩; obtain rfl := hw.symm; clear hw
    go_wp2_with fail
    refine (px_part1 p _ hP.out).mono ?_; rintro e w' ⟨rfl, hw⟩; obtain rfl := hw.symm; clear hw
    have e1 := E1.out
    go_wp2_with fail
    clear e1
    rw [rounds_succ]
    go_wp2_with fail
    refine (px_part2 q _ hQ.out).mono ?_; rintro e w' ⟨rfl, hw⟩; obtain rfl := hw.symm; clear hw
    go_wp2_with fail
    refine (px_part2 p _ hP.out).mono ?_; rintro e w' ⟨rfl, hw⟩; obtain rfl := hw.symm; clear hw
    have e2 := E2.out
    go_wp2_with fail
    clear e2
    rw [rounds_succ]
    go_wp2_with fail
    refine (px_part3 q _ hQ.out).mono ?_; rintro e w' ⟨rfl, hw⟩; obtain rfl := hw.symm; clear hw
    go_wp2_with fail
    refine (px_part3 p _ hP.out).mono ?_; rintro e w' ⟨rfl, hw⟩; obtain rfl := hw.symm; clear hw
    have e3 := E3.out
    go_wp2_with fail
    clear e3
    rw [rounds_succ]
    go_wp2_with fail
    refine (px_make (pA q + u) (mixP (pR q) (pR p) (pA q) u) (mixP (pG q) (pG p) (pA q) u) (mixP (pB q) (pB p) (pA q) u) _).mono ?_; rintro e w2 ⟨rfl, hb⟩
    have HB := Aside0.mk (below_then (below_alloc (Below.refl _ _) _) hb); clear hb
    go_wp2_with fail
    go_ret
    exact ⟨by rw [HO.out]; rfl, HB.out⟩
theorem marquetryref24_Over.calls (p q r : Int) (w : World) (h : marquetryref24_Over.f p q = some r) :
    Calls Try.prog 12 #[.int .u32 p, .int .u32 q] w fun e w' => e = .returned (.int .u32 r) ∧ Below w.heap.size w w' := by
  unfold marquetryref24_Over.f at h
  by_cases c : U32 p ∧ U32 q
  · rw [if_pos c] at h
    obtain rfl := Option.some.inj h
    exact px_rover p q w c.1 c.2
  · rw [if_neg c] at h; cases h
end Go.Proofs.Ytegifkffhnhccaa.P
