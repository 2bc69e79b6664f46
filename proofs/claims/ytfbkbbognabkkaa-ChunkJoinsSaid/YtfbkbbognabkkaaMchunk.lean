/- chunk.Name and bytes.Clone: what a call of each comes to. -/
import Derived.Test.YtfbkbbognabkkaaProg
import Derived.Below
import Derived.Deep.Draws
import Derived.Deep.AppendLies
import Derived.Maps.AppendAt
import Derived.OwnWalk
import Derived.Laws.BytesArg
import Derived.Laws.MakeOwn
import Derived.Laws.OwnMore
import Derived.Deep.OwnRows
import Derived.Tactics
import Derived.Lib.ConvBytes
import Derived.Laws.Slices
import Derived.WalkKit
import Derived.KernelRfl
import Derived.RowKit3
import Derived.Deep.LoopGhost
import Derived.Deep.QuietTactic
import Derived.BigQuiet
import Derived.WideLaws
import Derived.Deep.DeepCutAuto
import Derived.Deep.CutBlock
import Derived.Deep.RegionHeld3
import Derived.Laws.Rows
import Derived.Lib.AppendStr
import Derived.ArgAppend
import Derived.Laws.IdiomCopy
import Derived.OrdersHeld
import Derived.Laws.BitsLemmas
import Derived.RowKit
import Derived.LoopN
import Derived.Handy
import Derived.Lib.Hide
import Derived.StillTailTactics
import Derived.Deep.RegionLaw
import Derived.Deep.RegionWith
import Derived.Test.YtfbkbbognabkkaaWWords
import Derived.Test.YtfbkbbognabkkaaWLast
import Derived.Test.YtfbkbbognabkkaaWTab
import Derived.Test.YtfbkbbognabkkaaWFour
import Derived.Test.YtfbkbbognabkkaaWQPut
import Derived.Test.YtfbkbbognabkkaaWApart
import Derived.Test.YtfbkbbognabkkaaWArr
import Derived.Test.YtfbkbbognabkkaaWZeros
import Derived.Test.YtfbkbbognabkkaaWFoot
import Derived.Test.YtfbkbbognabkkaaWKept
import Derived.Test.YtfbkbbognabkkaaWShare
import Derived.Test.YtfbkbbognabkkaaWN
import Derived.Test.YtfbkbbognabkkaaWFootNe
import Derived.Test.YtfbkbbognabkkaaWAt
import Derived.Test.YtfbkbbognabkkaaWEqStruct
import Derived.Test.YtfbkbbognabkkaaWRepsOne
import Derived.Test.YtfbkbbognabkkaaWInv
import Derived.Test.YtfbkbbognabkkaaWInvWords
import Derived.Test.YtfbkbbognabkkaaWGuard
import Derived.Test.YtfbkbbognabkkaaWNEv
import Derived.Test.YtfbkbbognabkkaaWMore
import Derived.Laws.RangeString
import Derived.WalkSpells
namespace Go.Proofs.Ytfbkbbognabkkaa.P
open Go Go.RowKit Go.Proofs.YtfbkbbognabkkaaW.PrintWords Go.Proofs.YtfbkbbognabkkaaW.PrintLast Go.Proofs.YtfbkbbognabkkaaW.PrintMore
set_option linter.unusedVariables false
set_option linter.unusedSimpArgs false

theorem decode_high (s : ByteArray) (i : Nat) (h : 128 ≤ (s.get! i).toNat) : 128 ≤ (Utf8.decode s i).1 := by
  unfold Utf8.decode Utf8.runeError
  simp only [Nat.add_zero]
  rw [if_neg (by omega)]
  repeat' split
  all_goals first | omega | (simp_all; omega) | simp_all
theorem run_next_rune {P : Program} (w : World) (s : ByteArray) (pos : Nat) (ty : TypeId) (h : pos < s.size) :
    (Instr.next (.pointer (some ⟨w.heap.size, 0, none⟩)) true ty).run P (w.iter s pos) =
      .ok (.tuple #[.bool true, .int .i64 pos, .int .i32 (Utf8.decode s pos).1]) (w.iter s (pos + (Utf8.decode s pos).2)) := by
  simp only [Instr.next, getObj, setObj, Sem.run_bind, Sem.run, World.iter_heap, Result.andThen, h, if_true, World.iter_set]
  simp [goInt, Sem.run, World.iter_heap, World.iter_set]
/-- A sign that may stand in a name. -/
def sign (b : Int) : Prop := 32 ≤ b ∧ b ≤ 126
instance (b : Int) : Decidable (sign b) := by unfold sign; infer_instance
def chunk_Name.f (s : ByteArray) : Option Bool := some (decide ((bytesOf s).length = 4 ∧ ∀ b ∈ bytesOf s, sign b))
theorem rd_bytes (s : ByteArray) {i : Nat} (h : i < s.size) : (bytesOf s)[i]? = some ((s.get! i).toNat : Int) := by
  have e : s.get! i = s[i]'h := by
    simp [ByteArray.get!, getElem!_pos, h]
    rfl
  rw [e]
  unfold bytesOf
  simp [h]
  first | done | rfl | exact ⟨h, rfl⟩
theorem decode_low (s : ByteArray) (i : Nat) (h : (s.get! i).toNat < 128) : Utf8.decode s i = ((s.get! i).toNat, 1) := by
  simp only [Utf8.decode, Nat.add_zero, h, if_true]
def iterPos (g : Nat) (w : World) : Nat := match w.heap[g]? with | some (.stringIter _ p) => p | _ => 0
theorem iterPos_iter (w : World) (s : ByteArray) (p : Nat) : iterPos w.heap.size (w.iter s p) = p := by
  unfold iterPos
  rw [World.iter_heap]
theorem iter_below (w : World) (s : ByteArray) (p : Nat) : Below w.heap.size w (w.iter s p) := below_alloc (Below.refl _ _) _
set_option maxHeartbeats 4000000 in
set_option maxRecDepth 100000 in
theorem chunk_Name.calls (s : ByteArray) (r : Bool) (w : World) (h : chunk_Name.f s = some r) :
    Calls Try.prog 25 #[.string s] w fun e w' => e = .returned (.bool r) ∧ Below w.heap.size w w' := by
  have hr : decide ((bytesOf s).length = 4 ∧ ∀ b ∈ bytesOf s, sign b) = r := Option.some.inj h
  clear h
  have hlen : (bytesOf s).length = s.size := bytesOf_length s
  have HR := Aside0.mk hr; clear hr
  go_enter Try.func25, Try.ntmps25
  go_wp2_with fail
  go_loopw [2] (fun v wr => v = .bool false ∧ ∃ p : Nat, p ≤ s.size ∧ wr = w.iter s p ∧ ∀ j : Nat, j < p → ∀ b, (bytesOf s)[j]? = some b → sign b) (fun _ wr => s.size - iterPos w.heap.size wr)
  case atStart => exact ⟨rfl, 0, by omega, rfl, fun j hj => by omega⟩
  case round =>
    obtain ⟨rfl, p, hp, rfl, hall⟩ := hrel
    by_cases hlt : p < s.size
    · have hrd := rd_bytes s hlt
      have hn := fun ty => run_next_rune (P := Try.prog) w s p ty hlt
      obtain ⟨b, hb⟩ : ∃ b, (s.get! p).toNat = b := ⟨_, rfl⟩
      by_cases hs : sign ((s.get! p).toNat : Int)
      · have h2 : 32 ≤ b ∧ b ≤ 126 := by unfold sign at hs; omega
        rw [decode_low s p (by omega), hb] at hn
        have t1 : decide ((b : Int) < 32) = false := decide_eq_false (by omega)
        have t2 : decide (126 < (b : Int)) = false := decide_eq_false (by omega)
        have hall2 : ∀ j : Nat, j < p + 1 → ∀ b, (bytesOf s)[j]? = some b → sign b := by
          intro j hj b' hb'
          by_cases c : j = p
          · subst c
            rw [hrd] at hb'
            injection hb' with hb'
            rw [← hb']
            exact hs
          · exact hall j (by omega) b' hb'
        have HALL := Aside0.mk hall2
        clear hall hall2 hs hrd hb
        go_wp2_with fail
        go_roundw
        case rel => exact ⟨by first | rfl | trivial, p + 1, by omega, rfl, HALL.out⟩
        case measure => rw [iterPos_iter, iterPos_iter]; omega
      · have hv : (Utf8.decode s p).1 < 32 ∨ 126 < (Utf8.decode s p).1 := by
          by_cases c : (s.get! p).toNat < 128
          · rw [decode_low s p c]
            unfold sign at hs
            omega
          · have := decode_high s p (by omega)
            omega
        have hmem : ((s.get! p).toNat : Int) ∈ bytesOf s := List.mem_of_getElem? hrd
        have hrf : r = false := by
          rw [← HR.out]
          exact decide_eq_false fun h => hs (h.2 _ hmem)
        subst hrf
        generalize Utf8.decode s p = dd at *
        obtain ⟨rn, sz⟩ := dd
        clear hall hmem hs hrd hb HR
        simp only at hv hn
        by_cases c : rn < 32
        · have t1 : decide ((rn : Int) < 32) = true := decide_eq_true (by omega)
          go_wp2_with fail
          go_ret
          exact ⟨rfl, iter_below _ _ _⟩
        · have t1 : decide ((rn : Int) < 32) = false := decide_eq_false (by omega)
          have t2 : decide (126 < (rn : Int)) = true := decide_eq_true (by omega)
          go_wp2_with fail
          go_ret
          exact ⟨rfl, iter_below _ _ _⟩
    · have hn := fun ty => run_next_end (P := Try.prog) w s p ty hlt
      have hall2 : ∀ b ∈ bytesOf s, sign b := by
        intro b hb
        obtain ⟨j, hj⟩ := List.getElem?_of_mem hb
        have : j < (bytesOf s).length := by
          rcases Nat.lt_or_ge j (bytesOf s).length with h | h
          · exact h
          · rw [List.getElem?_eq_none h] at hj; cases hj
        exact hall j (by omega) b hj
      have hrr : r = decide ((s.size : Int) = 4) := by
        rw [← HR.out]
        exact decide_eq_decide.2 ⟨fun h => by omega, fun h => ⟨by omega, hall2⟩⟩
      subst hrr
      clear HR hall hall2
      go_wp2_with fail
      go_ret
      refine ⟨?_, iter_below _ _ _⟩
      first | rfl | (congr 1; done) | (simp; done) | (congr 2; simp [beq_eq_decide]; done)
def bytes_Clone.f (l : List Int) : Option (List Int) := if l.length ≤ 140737488351232 then some l else none
theorem C_reads24 {w : World} {A : Option Addr} {n : Nat} {l : List Int} (h : Kd.C (Kd.int .u8) w A n l) : ReadsInt w .u8 A n l := by
  refine ⟨h.1, h.2.1, fun hn => ?_⟩
  obtain ⟨ad, e, hc⟩ := h.2.2 hn
  refine ⟨ad, e, fun i hi => ?_⟩
  have hi' : i < l.length := by rw [h.1]; exact hi
  obtain ⟨c, hl, hk, hcell⟩ := hc i _ (List.getElem?_eq_getElem hi')
  have hk' : c = [Value.int .u8 l[i]] := hk
  have := hcell 0 (Value.int .u8 l[i]) (by rw [hk']; rfl)
  have e2 : (Kd.int .u8).sz = 1 := rfl
  rw [e2, Nat.mul_one, Nat.add_zero] at this
  rw [this]
  simp [hi']
set_option maxHeartbeats 1000000 in
set_option maxRecDepth 100000 in
theorem bytes_Clone.calls (A : Option Addr) (c : Nat) (l r : List Int) (w : World) (hr : Kd.C (Kd.int .u8) w A l.length l) (hc : l.length ≤ c) (h : bytes_Clone.f l = some r) :
    Calls Try.prog 28 #[.slice A l.length c] w fun e w' => ∃ v : Value, e = .returned v ∧ Kd.R (Kd.int .u8) 5 w' w.heap.size (fun _ => True) v r ∧ Below w.heap.size w w' := by
  have hl : l.length ≤ 140737488351232 ∧ l = r := by
    unfold bytes_Clone.f at h
    by_cases c : l.length ≤ 140737488351232
    · rw [if_pos c] at h; exact ⟨c, Option.some.inj h⟩
    · rw [if_neg c] at h; cases h
  clear h
  obtain ⟨hl, rfl⟩ := hl
  have HR := Aside0.mk (C_reads24 hr); clear hr
  have hnil := fun (w : World) => Lib.run_eql_slice_nil (P := Try.prog) w 22 5 A l.length c 0 0 Try.underlying22
  rcases A with _ | ad
  · have h0 : l = [] := by
      rcases Nat.eq_zero_or_pos l.length with h0 | h0
      · exact List.eq_nil_of_length_eq_zero h0
      · obtain ⟨ad, h, _⟩ := HR.out.2.2 h0
        cases h
    subst h0
    simp only [List.length_nil] at hnil
    go_enter Try.func28, Try.ntmps28
    go_wp2_with fail
    go_ret
    exact ⟨_, rfl, Kd.R_nil _ _ _ _ _, Below.refl _ _⟩
  · have HO := Aside0.mk (own_lit w w.heap.size 5 .u8 [] (Nat.le_refl _) (by decide))
    have HB := Aside0.mk (below_alloc (Below.refl w.heap.size w) (.cells #[] 5))
    go_enter Try.func28, Try.ntmps28
    go_wp2_with (at_builtin; refine print_append_row (w0 := w) w.heap.size rfl (.tmp 5) (.tmp 6) 22 5 .u8 1 rfl Try.underlying22 (by kernel_rfl) (by decide) (.slice (some ⟨w.heap.size, 0, none⟩) 0 0) [] l (some ad) l.length c rfl rfl HO.out (HR.out.allocS _) HB.out (by simp) (by simp; omega) ?_; intro v1 w1 ho hb hg hat; rw [List.nil_append] at ho; have HO1 := Aside0.mk ho; have HB1 := Aside0.mk hb; clear ho hb hg hat)
    go_ret
    exact ⟨_, rfl, Kd.R_of_own (h1 := fun _ => rfl) HO1.out (fun _ _ => trivial), HB1.out⟩
end Go.Proofs.Ytfbkbbognabkkaa.P
