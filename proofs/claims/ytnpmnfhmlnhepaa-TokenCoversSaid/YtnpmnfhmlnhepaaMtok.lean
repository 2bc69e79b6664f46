/- Steps that are painted: the painter, as plain lists. -/
import Derived.Test.YtnpmnfhmlnhepaaPxA
import Derived.Test.YtnpmnfhmlnhepaaMcache
namespace Go.Proofs.Ytnpmnfhmlnhepaa.P
open Go Go.RowKit Go.Proofs.YtnpmnfhmlnhepaaW.PrintWords Go.Proofs.YtnpmnfhmlnhepaaW.PrintLast Go.Proofs.YtnpmnfhmlnhepaaW.PrintMore
set_option linter.unusedVariables false
set_option linter.unusedSimpArgs false
attribute [local go_sem] max2_int min2_int max_two min_two max_three min_three max_four min_four
def U32 (p : Int) : Prop := 0 ≤ p ∧ p ≤ 4294967295
instance (p : Int) : Decidable (U32 p) := by unfold U32; infer_instance
abbrev Tk := S37
/-- Colours that were there, of bits; 0: none. -/
def addC (bits : Int) (cl : List Int) (x : Int) : List Int := if bits = 0 then cl else cl.set (slotN x bits).toNat x
structure PS where
  pix : List Int
  cl : List Int
def bitsOk (bits : Int) : Prop := 0 ≤ bits ∧ bits ≤ 11
instance (bits : Int) : Decidable (bitsOk bits) := by unfold bitsOk; infer_instance
def clOk (bits : Int) (cl : List Int) : Prop := ((bits = 0 ∧ cl = []) ∨ (1 ≤ bits ∧ bits ≤ 11 ∧ cl.length = 2 ^ bits.toNat)) ∧ ∀ x ∈ cl, U32 x
def PS.ok (bits : Int) (s : PS) : Prop := clOk bits s.cl ∧ ∀ x ∈ s.pix, U32 x
def startC (bits : Int) : List Int := if bits = 0 then [] else List.replicate (2 ^ bits.toNat) 0
def PS.start (bits : Int) : PS := ⟨[], startC bits⟩
def PS.add (bits : Int) (s : PS) (x : Int) : PS := ⟨s.pix ++ [x], addC bits s.cl x⟩
def PS.copy (bits : Int) (s : PS) (dist : Int) : Nat → PS
  | 0 => s
  | n + 1 => (PS.copy bits s dist n).add bits (rd (PS.copy bits s dist n).pix ((PS.copy bits s dist n).pix.length - dist))
/-- May pixels be copied? -/
def mayCopy (most : Int) (s : PS) (t : Tk) : Prop := 1 ≤ t.f1 ∧ t.f1 ≤ 4096 ∧ 1 ≤ t.f2 ∧ t.f2 ≤ s.pix.length ∧ t.f1 ≤ most - s.pix.length
instance (most : Int) (s : PS) (t : Tk) : Decidable (mayCopy most s t) := by unfold mayCopy; infer_instance
def PS.step (bits most : Int) (s : PS) (t : Tk) : Option PS :=
  if (s.pix.length : Int) ≥ most then none else
  if t.f0 = 1 then some (s.add bits t.f4) else
  if t.f0 = 2 then (if mayCopy most s t then some (s.copy bits t.f2 t.f1.toNat) else none) else
  if t.f0 = 3 then (if 0 ≤ t.f3 ∧ t.f3 < s.cl.length then some (s.add bits (rd s.cl t.f3)) else none) else none
def PS.steps (bits most : Int) (s : PS) : List Tk → Option PS
  | [] => some s
  | t :: l => (s.step bits most t).bind fun s => PS.steps bits most s l
theorem clOk_start {bits : Int} (h : bitsOk bits) : clOk bits (startC bits) := by
  unfold startC
  by_cases c : bits = 0
  · rw [if_pos c]; exact ⟨.inl ⟨c, rfl⟩, fun x hx => by cases hx⟩
  · rw [if_neg c]
    refine ⟨.inr ⟨by unfold bitsOk at h; omega, h.2, by rw [List.length_replicate]⟩, fun x hx => ?_⟩
    rw [(List.mem_replicate.1 hx).2]
    unfold U32; omega
theorem clOk_add {bits x : Int} {cl : List Int} (h : clOk bits cl) (hx : U32 x) : clOk bits (addC bits cl x) := by
  unfold addC
  by_cases c : bits = 0
  · rw [if_pos c]; exact h
  · rw [if_neg c]
    obtain ⟨h1, h2⟩ := h
    refine ⟨.inr (h1.elim (fun h => absurd h.1 c) (fun h => ⟨h.1, h.2.1, by rw [List.length_set]; exact h.2.2⟩)), fun y hy => ?_⟩
    rcases List.mem_or_eq_of_mem_set hy with h | h
    · exact h2 y h
    · rw [h]; exact hx
theorem PS.start_ok {bits : Int} (h : bitsOk bits) : (PS.start bits).ok bits := ⟨clOk_start h, fun x hx => by cases hx⟩
theorem PS.add_ok {bits x : Int} {s : PS} (h : s.ok bits) (hx : U32 x) : (s.add bits x).ok bits := by
  refine ⟨clOk_add h.1 hx, fun y hy => ?_⟩
  rcases List.mem_append.1 hy with hy | hy
  · exact h.2 y hy
  · rw [List.mem_singleton.1 hy]; exact hx
theorem PS.copy_len {bits dist : Int} {s : PS} (n : Nat) : (s.copy bits dist n).pix.length = s.pix.length + n := by
  induction n with
  | zero => rfl
  | succ n ih =>
    show ((s.copy bits dist n).pix ++ _).length = _
    rw [List.length_append, ih]
    rfl
theorem PS.copy_ok {bits dist : Int} {s : PS} (h : s.ok bits) (h1 : 1 ≤ dist) (h2 : dist ≤ s.pix.length) (n : Nat) : (s.copy bits dist n).ok bits := by
  induction n with
  | zero => exact h
  | succ n ih =>
    refine PS.add_ok ih (ih.2 _ (rd_mem ?_ ?_)) <;> rw [PS.copy_len] <;> omega
theorem PS.step_ok {bits most : Int} {s s' : PS} {t : Tk} (h : s.ok bits) (ht : U32 t.f4) (he : s.step bits most t = some s') : s'.ok bits ∧ (s'.pix.length : Int) ≤ most := by
  unfold PS.step at he
  split at he
  case isTrue => cases he
  split at he
  case isTrue =>
    obtain rfl := Option.some.inj he
    exact ⟨PS.add_ok h ht, by show ((s.pix ++ [t.f4]).length : Int) ≤ most; rw [List.length_append]; simp; omega⟩
  split at he
  case isTrue =>
    split at he
    case isFalse => cases he
    rename_i hc
    obtain rfl := Option.some.inj he
    unfold mayCopy at hc
    exact ⟨PS.copy_ok h hc.2.2.1 hc.2.2.2.1 _, by rw [PS.copy_len]; omega⟩
  split at he
  case isTrue =>
    split at he
    case isFalse => cases he
    rename_i hc
    obtain rfl := Option.some.inj he
    exact ⟨PS.add_ok h (h.1.2 _ (rd_mem hc.1 hc.2)), by show ((s.pix ++ [rd s.cl t.f3]).length : Int) ≤ most; rw [List.length_append]; simp; omega⟩
  cases he

/-! ### a cache that may be none -/
def cacheO (v : Option Addr) (bits : Int) (cl : List Int) : Asrt := Asrt.ex fun g : Nat => Asrt.lift ((bits = 0 ∧ v = none) ∨ (1 ≤ bits ∧ v = some ⟨g, 0, none⟩)) (if bits = 0 then Asrt.emp else cacheA g bits cl)
section
variable {w0 w : World} {v : Option Addr} {bits : Int} {cl : List Int} {r : Asrt}
theorem cacheO_none (h : bits = 0) (hs : St w0 w (cacheO v bits cl * r)) : v = none ∧ St w0 w r := by
  obtain ⟨g, hg⟩ := hs.ex
  obtain ⟨hl, hg⟩ := hg.lift
  rw [if_pos h] at hg
  exact ⟨hl.elim (fun h => h.2) (fun h' => by omega), hg.drop⟩
theorem cacheO_some (h : 1 ≤ bits) (hs : St w0 w (cacheO v bits cl * r)) : ∃ g, v = some ⟨g, 0, none⟩ ∧ St w0 w (cacheA g bits cl * r) := by
  obtain ⟨g, hg⟩ := hs.ex
  obtain ⟨hl, hg⟩ := hg.lift
  rw [if_neg (by omega)] at hg
  exact ⟨g, hl.elim (fun h' => by omega) (fun h => h.2), hg⟩
theorem cacheO_mk0 (h : bits = 0) (hs : St w0 w r) : St w0 w (cacheO none bits cl * r) := by
  refine St.toEx 0 (St.toLift (.inl ⟨h, rfl⟩) ?_)
  rw [if_pos h]
  exact hs.imp (Asrt.emp_l' r)
theorem cacheO_mk1 {g : Nat} (h : 1 ≤ bits) (hs : St w0 w (cacheA g bits cl * r)) : St w0 w (cacheO (some ⟨g, 0, none⟩) bits cl * r) := by
  refine St.toEx g (St.toLift (.inr ⟨h, rfl⟩) ?_)
  rw [if_neg (by omega)]
  exact hs
end
theorem cacheO_New (bits : Int) (r : Asrt) (w0 w : World) (h : bitsOk bits) (hs : St w0 w r) :
    Calls Try.prog 23 #[.int .i64 bits] w fun e w' => ∃ v x, e = .returned (.tuple #[.pointer v, .int .i64 x]) ∧ St w0 w' (cacheO v bits (startC bits) * r) := by
  by_cases c : bits = 0
  · refine (cache_New_out bits w (.inl (by omega))).mono ?_
    rintro e w' ⟨rfl, rfl⟩
    exact ⟨_, _, rfl, cacheO_mk0 c hs⟩
  · have hb : 1 ≤ bits := by unfold bitsOk at h; omega
    refine (cache_New_in bits r w0 w hb h.2 hs).mono ?_
    rintro e w' ⟨g, rfl, hs'⟩
    refine ⟨_, _, rfl, ?_⟩
    unfold startC
    rw [if_neg c]
    exact cacheO_mk1 hb hs'
theorem cacheO_Add (v : Option Addr) (bits x : Int) (cl : List Int) (r : Asrt) (w0 w : World) (hk : clOk bits cl) (hx : U32 x) (hs : St w0 w (cacheO v bits cl * r)) :
    Calls Try.prog 25 #[.pointer v, .int .u32 x] w fun e w' => e = .returned (.tuple #[]) ∧ St w0 w' (cacheO v bits (addC bits cl x) * r) := by
  rcases hk.1 with h | h
  · obtain ⟨rfl, hs'⟩ := cacheO_none h.1 hs
    refine (cache_Add_none x w).mono ?_
    rintro e w' ⟨rfl, rfl⟩
    exact ⟨rfl, by unfold addC; rw [if_pos h.1]; exact hs⟩
  · obtain ⟨g, rfl, hs'⟩ := cacheO_some h.1 hs
    refine (cache_Add_in g bits x cl r w0 w h.1 h.2.1 hx h.2.2 hs').mono ?_
    rintro e w' ⟨rfl, hs2⟩
    refine ⟨rfl, ?_⟩
    unfold addC
    rw [if_neg (by omega)]
    exact cacheO_mk1 h.1 hs2
theorem cacheO_Get (v : Option Addr) (bits i : Int) (cl : List Int) (r : Asrt) (w0 w : World) (hk : clOk bits cl) (hs : St w0 w (cacheO v bits cl * r)) :
    Calls Try.prog 32 #[.pointer v, .int .i64 i] w fun e w' => e = .returned (.tuple #[.int .u32 (if 0 ≤ i ∧ i < cl.length then rd cl i else 0), .bool (decide (0 ≤ i ∧ i < cl.length))]) ∧ w = w' := by
  rcases hk.1 with h | h
  · obtain ⟨rfl, hs'⟩ := cacheO_none h.1 hs
    have hn : ¬ (0 ≤ i ∧ i < (cl.length : Int)) := by rw [h.2]; simp
    rw [if_neg hn, decide_eq_false hn]
    exact cache_Get_none i w
  · obtain ⟨g, rfl, hs'⟩ := cacheO_some h.1 hs
    by_cases c : 0 ≤ i ∧ i < (cl.length : Int)
    · rw [if_pos c, decide_eq_true c]
      exact cache_Get_in g bits cl i r w0 w c.1 c.2 hs'
    · rw [if_neg c, decide_eq_false c]
      exact cache_Get_out g bits cl i r w0 w (by omega) hs'
/-- Where a colour stands, or nothing. -/
def findC (bits x : Int) (cl : List Int) : Option Int := if bits = 0 then none else if rd cl (slotN x bits) = x then some (slotN x bits) else none
theorem cacheO_Find (v : Option Addr) (bits x : Int) (cl : List Int) (r : Asrt) (w0 w : World) (hk : clOk bits cl) (hx : U32 x) (hs : St w0 w (cacheO v bits cl * r)) :
    Calls Try.prog 24 #[.pointer v, .int .u32 x] w fun e w' => e = .returned (.tuple #[.int .i64 ((findC bits x cl).getD 0), .bool (findC bits x cl).isSome]) ∧ Drawn0 w w' := by
  rcases hk.1 with h | h
  · obtain ⟨rfl, hs'⟩ := cacheO_none h.1 hs
    unfold findC
    rw [if_pos h.1]
    exact cache_Find_none x w
  · obtain ⟨g, rfl, hs'⟩ := cacheO_some h.1 hs
    unfold findC
    rw [if_neg (by omega)]
    by_cases c : rd cl (slotN x bits) = x
    · rw [if_pos c]
      exact cache_Find_hit g bits x cl r w0 w h.1 h.2.1 hx h.2.2 hs' c
    · rw [if_neg c]
      exact cache_Find_miss g bits x cl r w0 w h.1 h.2.1 hx h.2.2 hs' c
end Go.Proofs.Ytnpmnfhmlnhepaa.P
