/- A reader of bits: what its ways come to. -/
import Derived.Test.YtflkinhbecjahaaSl
import Derived.Test.YtflkinhbecjahaaBitNum
namespace Go.Proofs.Ytflkinhbecjahaa.P
open Go Go.RowKit Go.Proofs.YtflkinhbecjahaaW.PrintWords Go.Proofs.YtflkinhbecjahaaW.PrintLast Go.Proofs.YtflkinhbecjahaaW.PrintMore Go.Proofs.Ytflkinhbecjahaa.Pure Go.Proofs.Ytflkinhbecjahaa.U
set_option linter.unusedVariables false
set_option linter.unusedSimpArgs false
attribute [local go_sem] max2_int min2_int max_two min_two max_three min_three max_four min_four

/-- A reader at block g: its bytes, where it is, whether they ran out. -/
def readerA (g : Nat) (b : List Int) (p : Nat) (over : Bool) : Asrt := Asrt.ex fun v => Asrt.blk g 44 #[v, .int .i64 p, .bool over] * Asrt.row 5 1 v b.length (nums .u8 b)
theorem readerA_open {w0 w : World} {g : Nat} {b : List Int} {p : Nat} {over : Bool} {r : Asrt} (h : St w0 w (readerA g b p over * r)) : ∃ A c, St w0 w (Asrt.blk g 44 #[.slice A b.length c, .int .i64 p, .bool over] * (Asrt.row 5 1 (.slice A b.length c) b.length (nums .u8 b) * r)) := by
  obtain ⟨v, hv⟩ := h.ex
  obtain ⟨A, c, e⟩ := own_slice hv.assoc.swap.row
  subst e
  exact ⟨A, c, hv.assoc⟩
theorem readerA_shut {w0 w : World} {g : Nat} {b : List Int} {p : Nat} {over : Bool} {v : Value} {r : Asrt} (h : St w0 w (Asrt.blk g 44 #[v, .int .i64 p, .bool over] * (Asrt.row 5 1 v b.length (nums .u8 b) * r))) : St w0 w (readerA g b p over * r) := St.toEx (f := fun v => Asrt.blk g 44 #[v, .int .i64 p, .bool over] * Asrt.row 5 1 v b.length (nums .u8 b)) v h.assoc'

set_option maxHeartbeats 1000000 in
set_option maxRecDepth 100000 in
theorem bitin_New (A : Option Addr) (n c : Nat) (b : List Int) (r : Asrt) (w0 w : World) (hr : ReadsInt w .u8 A n b) (hn : n ≤ 140737488351232) (hs : St w0 w r) :
    Calls Try.prog 8 #[.slice A n c] w fun e w' => ∃ g, e = .returned (.pointer (some ⟨g, 0, none⟩)) ∧ St w0 w' (readerA g b 0 false * r) := by
  obtain rfl := hr.1
  have HS := Aside0.mk (hs.rowNil 5 1); clear hs
  have HR := Aside0.mk hr; clear hr
  go_enter Try.func8, Try.ntmps8
  go_wp2_with (at_builtin; refine St.append_row rfl (.const (.slice none 0 0)) (.tmp 3) 22 5 .u8 1 rfl Try.underlying22 (by kernel_rfl) (by decide) (.slice none 0 0) 0 [] b A b.length c rfl rfl HS.out HR.out (by omega) ?_; intro A1 c1 w1 hs1; rw [Nat.zero_add] at hs1 ⊢; have HS1 := Aside0.mk hs1; clear hs1)
  go_ret
  exact ⟨_, rfl, readerA_shut (HS1.out.alloc #[.slice A1 b.length c1, .int .i64 0, .bool false] 44)⟩

set_option maxHeartbeats 1000000 in
set_option maxRecDepth 100000 in
theorem bitin_Left_none (w : World) :
    Calls Try.prog 12 #[.pointer none] w fun e w' => e = .returned (.int .i64 0) ∧ w = w' := by
  go_enter Try.func12, Try.ntmps12
  go_wp2
  go_ret
  exact ⟨rfl, rfl⟩
set_option maxHeartbeats 1000000 in
set_option maxRecDepth 100000 in
theorem bitin_Over_none (w : World) :
    Calls Try.prog 13 #[.pointer none] w fun e w' => e = .returned (.bool true) ∧ w = w' := by
  go_enter Try.func13, Try.ntmps13
  go_wp2
  go_ret
  exact ⟨rfl, rfl⟩
/-- How many bits are left. -/
def leftN (b : List Int) (p : Nat) (over : Bool) : Int := if over then 0 else 8 * b.length - p
set_option maxHeartbeats 1000000 in
set_option maxRecDepth 100000 in
theorem bitin_Left (g : Nat) (b : List Int) (p : Nat) (over : Bool) (r : Asrt) (w0 w : World) (hp : p ≤ 8 * b.length) (hl : b.length ≤ 140737488351232) (hs : St w0 w (readerA g b p over * r)) :
    Calls Try.prog 12 #[.pointer (some ⟨g, 0, none⟩)] w fun e w' => e = .returned (.int .i64 (leftN b p over)) ∧ Drawn0 w w' := by
  obtain ⟨A, c, hb⟩ := readerA_open hs
  have c0 := (hb.cell 0).trans rfl
  have c1 := (hb.cell 1).trans rfl
  have c2 := (hb.cell 2).trans rfl
  clear hs hb
  unfold leftN
  cases over
  · have e1 : IntKind.i64.wrap (8 * (b.length : Int)) = 8 * (b.length : Int) := wi64 (by omega) (by omega)
    have e2 : IntKind.i64.wrap (8 * (b.length : Int) - p) = 8 * (b.length : Int) - p := wi64 (by omega) (by omega)
    go_enter Try.func12, Try.ntmps12
    go_wp2
    go_quiet (fail)
    go_wp2
    go_ret
    exact ⟨rfl, ⟨_, rfl⟩⟩
  · go_enter Try.func12, Try.ntmps12
    go_wp2
    go_ret
    exact ⟨rfl, ⟨0, rfl⟩⟩
set_option maxHeartbeats 1000000 in
set_option maxRecDepth 100000 in
theorem bitin_Over (g : Nat) (b : List Int) (p : Nat) (over : Bool) (r : Asrt) (w0 w : World) (hs : St w0 w (readerA g b p over * r)) :
    Calls Try.prog 13 #[.pointer (some ⟨g, 0, none⟩)] w fun e w' => e = .returned (.bool over) ∧ w = w' := by
  obtain ⟨A, c, hb⟩ := readerA_open hs
  have c2 := (hb.cell 2).trans rfl
  clear hs hb
  go_enter Try.func13, Try.ntmps13
  go_wp2
  go_ret
  exact ⟨rfl, rfl⟩

set_option maxHeartbeats 1000000 in
set_option maxRecDepth 100000 in
theorem bitin_Bits_none (n : Int) (w : World) :
    Calls Try.prog 9 #[.pointer none, .int .i64 n] w fun e w' => e = .returned (.tuple #[.int .u32 0, .int .i64 2]) ∧ w = w' := by
  go_enter Try.func9, Try.ntmps9
  go_wp2
  go_ret2
  exact ⟨rfl, rfl⟩
set_option maxHeartbeats 1000000 in
set_option maxRecDepth 100000 in
theorem bitin_Bits_arg (g : Nat) (n : Int) (w : World) (h : n < 0 ∨ 32 < n) :
    Calls Try.prog 9 #[.pointer (some ⟨g, 0, none⟩), .int .i64 n] w fun e w' => e = .returned (.tuple #[.int .u32 0, .int .i64 1]) ∧ w = w' := by
  by_cases h0 : n < 0
  · have t0 : decide (n < 0) = true := decide_eq_true h0
    go_enter Try.func9, Try.ntmps9
    go_wp2
    go_ret2
    exact ⟨rfl, rfl⟩
  · have t0 : decide (n < 0) = false := decide_eq_false h0
    have t1 : decide (32 < n) = true := decide_eq_true (by omega)
    go_enter Try.func9, Try.ntmps9
    go_wp2
    go_ret2
    exact ⟨rfl, rfl⟩
set_option maxHeartbeats 1000000 in
set_option maxRecDepth 100000 in
theorem bitin_Bits_zero (g : Nat) (w : World) :
    Calls Try.prog 9 #[.pointer (some ⟨g, 0, none⟩), .int .i64 0] w fun e w' => e = .returned (.tuple #[.int .u32 0, .int .i64 0]) ∧ w = w' := by
  go_enter Try.func9, Try.ntmps9
  go_wp2
  go_ret2
  exact ⟨rfl, rfl⟩
set_option maxHeartbeats 1000000 in
set_option maxRecDepth 100000 in
theorem bitin_Bits_end (g : Nat) (b : List Int) (p : Nat) (over : Bool) (n : Int) (r : Asrt) (w0 w : World) (hp : p ≤ 8 * b.length) (hl : b.length ≤ 140737488351232) (hs : St w0 w (readerA g b p over * r)) (h0 : 1 ≤ n) (h1 : n ≤ 32) (h : leftN b p over < n) :
    Calls Try.prog 9 #[.pointer (some ⟨g, 0, none⟩), .int .i64 n] w fun e w' => e = .returned (.tuple #[.int .u32 0, .int .i64 2]) ∧ St w0 w' (readerA g b p true * r) := by
  have t0 : decide (n < 0) = false := decide_eq_false (by omega)
  have t1 : decide (32 < n) = false := decide_eq_false (by omega)
  have t2 : (n == 0) = false := by simp; omega
  have t3 : decide (leftN b p over < n) = true := decide_eq_true h
  obtain ⟨A, c, hb⟩ := readerA_open hs
  have c2 := (hb.cell 2).trans rfl
  have f2 := hb.frozen 2
  have HS := Aside0.mk hs; clear hs
  have HB := Aside0.mk hb; clear hb
  go_enter Try.func9, Try.ntmps9
  go_wp2_with fail
  refine (bitin_Left g b p over _ _ _ hp hl HS.out).mono ?_; rintro e w1 ⟨rfl, ⟨nd, rfl⟩⟩
  go_wp2_with fail
  go_ret2
  refine ⟨rfl, readerA_shut (v := .slice A b.length c) ?_⟩
  exact (HB.out.drewN nd).set 2 (.bool true)

theorem reads_at {w w0 : World} {A : Option Addr} {c : Nat} {b : List Int} {r : Asrt} {e : TypeId} {k : IntKind} (h : St w0 w (Asrt.row e 1 (.slice A b.length c) b.length (nums k b) * r)) (h0 : 0 < b.length) : ∃ ad, A = some ad ∧ ∀ j : Nat, j < b.length → w.cell? (ad.add j) = some (.int k (rd b j)) := by
  obtain ⟨ad, e, hc⟩ := (own_reads' h.row).2.2 h0
  exact ⟨ad, e, fun j hj => hc j hj⟩
set_option maxHeartbeats 4000000 in
set_option maxRecDepth 100000 in
theorem bitin_Bits_read (g : Nat) (b : List Int) (p n : Nat) (r : Asrt) (w0 w : World) (hp : p + n ≤ 8 * b.length) (hl : b.length ≤ 140737488351232) (hb8 : ∀ y ∈ b, 0 ≤ y ∧ y ≤ 255) (hs : St w0 w (readerA g b p false * r)) (h0 : 1 ≤ n) (h1 : n ≤ 32) :
    Calls Try.prog 9 #[.pointer (some ⟨g, 0, none⟩), .int .i64 n] w fun e w' => e = .returned (.tuple #[.int .u32 (numAt b p n), .int .i64 0]) ∧ St w0 w' (readerA g b (p + n) false * r) := by
  have t0 : decide ((n : Int) < 0) = false := decide_eq_false (by omega)
  have t1 : decide (32 < (n : Int)) = false := decide_eq_false (by omega)
  have t2 : ((n : Int) == 0) = false := by simp; omega
  have t3 : decide (leftN b p false < n) = false := decide_eq_false (by unfold leftN; simp; omega)
  have HS := Aside0.mk hs; clear hs
  have HB8 := Aside0.mk hb8; clear hb8
  go_enter Try.func9, Try.ntmps9
  go_wp2_with fail
  refine (bitin_Left g b p false _ _ _ (by omega) hl HS.out).mono ?_; rintro e w1 ⟨rfl, ⟨nd, rfl⟩⟩
  go_wp2_with fail
  have hs1 := HS.out.drewN nd
  obtain ⟨A, c, hb⟩ := readerA_open hs1
  clear HS hs1
  obtain ⟨ad, rfl, hat⟩ := reads_at hb.swap (by omega)
  clear hat
  have HB := Aside0.mk hb; clear hb
  go_loopw [6, 7] (fun v k wr => ∃ q e : Nat, q ≤ n ∧ q ≤ e ∧ e ≤ q + 7 ∧ (q < n → e = q) ∧ k = .int .i64 q ∧ v = .int .u64 (numAt b p e) ∧ St w0 wr (Asrt.blk g 44 #[.slice (some ad) b.length c, .int .i64 (p + q : Nat), .bool false] * (Asrt.row 5 1 (.slice (some ad) b.length c) b.length (nums .u8 b) * r))) (fun _ k _ => n - (intOf k).toNat)
  case atStart => exact ⟨0, 0, by omega, by omega, by omega, fun _ => rfl, rfl, rfl, HB.out⟩
  case round =>
    obtain ⟨q, e, hq, hqe, heq, hqn, rfl, rfl, hsr⟩ := hrel
    clear HB
    by_cases hlt : q < n
    · obtain rfl := hqn hlt
      clear hqn hqe heq
      have tl : decide ((e : Int) < n) = true := decide_eq_true (by omega)
      have c0 := (hsr.cell 0).trans rfl
      have c1 := (hsr.cell 1).trans rfl
      have f1 := hsr.frozen 1
      obtain ⟨_, he, hat⟩ := reads_at hsr.swap (by omega)
      injection he with he
      subst he
      have hcell := hat ((p + e) / 8) (by omega)
      clear hat
      obtain ⟨m, hm⟩ : ∃ m, p + e = m := ⟨_, rfl⟩
      rw [hm] at c1 hcell
      have hm8 : m < 8 * b.length := by omega
      obtain ⟨x, hx⟩ : ∃ x, rd b ((m / 8 : Nat) : Int) = x := ⟨_, rfl⟩
      have hv : Go.bits .or .u64 (numAt b p e) (IntKind.u64.wrap (IntKind.u64.wrap (x / 2 ^ ((m : Int) % 8).toNat) * 2 ^ e)) = numAt b p (e + (8 - m % 8)) := by
        have hx8 := HB8.out x (by rw [← hx]; exact rd_mem (by omega) (by omega))
        have := or_byte b p e HB8.out (by omega) (by omega)
        rw [hm, hx] at this
        have e3 : ((m : Int) % 8).toNat = m % 8 := by omega
        have hq := pow_pos (m % 8)
        have hd : x / 2 ^ (m % 8) ≤ x := Int.ediv_le_self _ hx8.1
        have hd0 : 0 ≤ x / 2 ^ (m % 8) := Int.ediv_nonneg hx8.1 (by omega)
        rw [e3, wu64 (n := x / 2 ^ (m % 8)) hd0 (by omega)]
        exact this
      rw [hx] at hcell
      have HX := Aside0.mk hx; clear hx
      have HV := Aside0.mk hv; clear hv
      rw [show m / 8 = ((m : Int) / 8).toNat by omega] at hcell
      have b0 : (0 : Int) ≤ (m : Int) / 8 := by omega
      have b1 : (m : Int) / 8 < b.length := by omega
      have e0 : Int.tdiv (m : Int) 8 = (m : Int) / 8 := Int.tdiv_eq_ediv_of_nonneg (by omega)
      have e1 : IntKind.i64.wrap ((m : Int) / 8) = (m : Int) / 8 := wi64 (by omega) (by omega)
      have HM := Aside0.mk hm; clear hm
      have HSR := Aside0.mk hsr; clear hsr
      go_wp2_with fail
      go_quiet (fail)
      rw [HV.out]
      go_wp2_with fail
      obtain ⟨t, ht, ht1, ht2⟩ : ∃ t : Nat, (if (n : Int) - e < 8 - (m : Int) % 8 then (n : Int) - e else 8 - (m : Int) % 8) = (t : Int) ∧ (t = n - e ∧ n - e ≤ 8 - m % 8 ∨ t = 8 - m % 8 ∧ t ≤ n - e) ∧ 1 ≤ t := by
        by_cases hc : (n : Int) - e < 8 - (m : Int) % 8
        · exact ⟨n - e, by rw [if_pos hc]; omega, .inl ⟨rfl, by omega⟩, by omega⟩
        · exact ⟨8 - m % 8, by rw [if_neg hc]; omega, .inr ⟨rfl, by omega⟩, by omega⟩
      rw [ht]
      have hst := (HSR.out.drewN nq).set 1 (.int .i64 (m + t))
      refine ⟨⟨e + t, e + (8 - m % 8), by omega, by omega, by omega, by omega, by go_num, rfl, ?_⟩, by simp [intOf]; omega⟩
      have e9 : ((p + (e + t) : Nat) : Int) = (m : Int) + t := by have := HM.out; omega
      rw [e9]
      exact hst
    · obtain rfl : q = n := by omega
      have tl : decide ((q : Int) < q) = false := decide_eq_false (by omega)
      have hv : Go.bits .and .u64 (numAt b p e) (2 ^ q - 1) = numAt b p q := by
        have hb := numAt_bd b p e
        have h2 := pow_le (a := e) (b := 39) (by omega)
        rw [and_u64 (by omega) hb.1 (by omega), numAt_mod b p q e hqe]
      have hu := numAt_bd b p q
      have h32 := pow_le (a := q) (b := 32) (by omega)
      have hu1 : numAt b p q < 4294967296 := by omega
      have hu0 := hu.1
      have hw1 : IntKind.u64.wrap (2 ^ q) = 2 ^ q := wu64 (by have := pow_pos q; omega) (by omega)
      have hw2 : IntKind.u64.wrap (2 ^ q - 1) = 2 ^ q - 1 := wu64 (by have := pow_pos q; omega) (by omega)
      clear hu h32
      have HSR := Aside0.mk hsr; clear hsr
      go_wp2_with fail
      go_ret2
      exact ⟨rfl, readerA_shut HSR.out⟩

/-- Are there so many bits? -/
def okB (b : List Int) (p : Nat) (over : Bool) (n : Nat) : Prop := n = 0 ∨ (n : Int) ≤ leftN b p over
instance (b : List Int) (p : Nat) (over : Bool) (n : Nat) : Decidable (okB b p over n) := by unfold okB; infer_instance
theorem bitin_Bits_ok (g : Nat) (b : List Int) (p : Nat) (over : Bool) (n : Int) (r : Asrt) (w0 w : World) (hp : p ≤ 8 * b.length) (hl : b.length ≤ 140737488351232) (hb8 : ∀ y ∈ b, 0 ≤ y ∧ y ≤ 255) (hs : St w0 w (readerA g b p over * r)) (h0 : 0 ≤ n) (h1 : n ≤ 32) (h : okB b p over n.toNat) :
    Calls Try.prog 9 #[.pointer (some ⟨g, 0, none⟩), .int .i64 n] w fun e w' => e = .returned (.tuple #[.int .u32 (numAt b p n.toNat), .int .i64 0]) ∧ St w0 w' (readerA g b (p + n.toNat) over * r) := by
  obtain ⟨k, rfl⟩ := Int.eq_ofNat_of_zero_le h0
  rw [Int.toNat_natCast] at *
  rcases Nat.eq_zero_or_pos k with rfl | hk
  · exact (bitin_Bits_zero g w).mono fun e w' ⟨he, hw⟩ => ⟨he, hw ▸ hs⟩
  · have h2 : (k : Int) ≤ leftN b p over := by rcases h with h | h; omega; exact h
    cases over
    · have h3 : (k : Int) ≤ 8 * b.length - p := h2
      exact bitin_Bits_read g b p k r w0 w (by omega) hl hb8 hs hk (by omega)
    · have h3 : (k : Int) ≤ 0 := h2
      omega
theorem bitin_Bits_no (g : Nat) (b : List Int) (p : Nat) (over : Bool) (n : Int) (r : Asrt) (w0 w : World) (hp : p ≤ 8 * b.length) (hl : b.length ≤ 140737488351232) (hs : St w0 w (readerA g b p over * r)) (h0 : 0 ≤ n) (h1 : n ≤ 32) (h : ¬ okB b p over n.toNat) :
    Calls Try.prog 9 #[.pointer (some ⟨g, 0, none⟩), .int .i64 n] w fun e w' => e = .returned (.tuple #[.int .u32 0, .int .i64 2]) ∧ St w0 w' (readerA g b p true * r) := by
  have h2 : ¬ (n.toNat = 0) := fun e => h (.inl e)
  have h3 : ¬ ((n.toNat : Int) ≤ leftN b p over) := fun e => h (.inr e)
  exact bitin_Bits_end g b p over n r w0 w hp hl hs (by omega) h1 (by omega)
/-- A call whose answer is let go. -/
theorem bitin_Bits_go (g : Nat) (b : List Int) (p : Nat) (over : Bool) (n : Int) (r : Asrt) (w0 w : World) (hp : p ≤ 8 * b.length) (hl : b.length ≤ 140737488351232) (hb8 : ∀ y ∈ b, 0 ≤ y ∧ y ≤ 255) (hs : St w0 w (readerA g b p over * r)) (h0 : 0 ≤ n) (h1 : n ≤ 32) (p' : Nat) (over' : Bool)
    (hy : okB b p over n.toNat → p' = p + n.toNat ∧ over' = over) (hn : ¬ okB b p over n.toNat → p' = p ∧ over' = true) :
    Calls Try.prog 9 #[.pointer (some ⟨g, 0, none⟩), .int .i64 n] w fun e w' => ∃ x z, e = .returned (.tuple #[.int .u32 x, .int .i64 z]) ∧ St w0 w' (readerA g b p' over' * r) := by
  by_cases h : okB b p over n.toNat
  · obtain ⟨rfl, rfl⟩ := hy h
    exact (bitin_Bits_ok g b p _ n r w0 w hp hl hb8 hs h0 h1 h).mono fun e w' ⟨he, hw⟩ => ⟨_, _, he, hw⟩
  · obtain ⟨rfl, rfl⟩ := hn h
    exact (bitin_Bits_no g b _ over n r w0 w hp hl hs h0 h1 h).mono fun e w' ⟨he, hw⟩ => ⟨_, _, he, hw⟩
end Go.Proofs.Ytflkinhbecjahaa.P
