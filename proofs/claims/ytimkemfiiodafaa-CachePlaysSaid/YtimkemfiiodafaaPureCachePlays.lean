/- Whatever colours come: what stands where, and which are found. -/
import Derived.Test.YtimkemfiiodafaaCacheLaw
namespace Go.Proofs.Ytimkemfiiodafaa.Pure
open Go Go.RowKit Go.Proofs.Ytimkemfiiodafaa.P Go.Proofs.YtimkemfiiodafaaW.PrintWords Go.Proofs.YtimkemfiiodafaaW.PrintLast Go.Proofs.YtimkemfiiodafaaW.PrintMore Go.Proofs.Ytimkemfiiodafaa.U
set_option linter.unusedVariables false
set_option linter.unusedSimpArgs false
theorem take_snoc {l : List Int} {k : Nat} (h : k < l.length) : l.take (k + 1) = l.take k ++ [rd l k] := by
  rw [List.take_succ_eq_append_getElem h]
  simp [rd, h]
theorem made_nums (z : Nat) : (madeCells #[Value.int .u32 0] z) = (nums .u32 (List.replicate z 0)).toArray := by
  have h1 : (madeCells #[Value.int .u32 0] z).toList = nums .u32 (List.replicate z 0) := by
    apply List.ext_getElem
    · simp [nums, madeCells]
    · intro i h1 h2
      simp [nums, madeCells, Nat.mod_one]
  rw [← h1]
set_option maxHeartbeats 4000000 in
set_option maxRecDepth 100000 in
theorem CachePlays (b : Int) (A1 : Option Addr) (c1 : Nat) (l : List Int) (A2 : Option Addr) (c2 : Nat) (q : List Int) (w : World) (wb : (Lit.int .i64 b).wf = true) (w0 : l.length ≤ maxLen) (w1 : l.length * 4 ≤ 140737488351232) (w2 : ∀ y ∈ l, (Lit.int .u32 y).wf = true)
    (w3 : q.length ≤ maxLen) (w4 : q.length * 8 ≤ 140737488351232) (w5 : ∀ y ∈ q, (Lit.int .i64 y).wf = true)
    (hr : Kd.C (Kd.int .u32) w A1 l.length l) (hc : l.length ≤ c1) (hr2 : Kd.C (Kd.int .i64) w A2 q.length q) (hc2 : q.length ≤ c2) :
    Calls Try.prog 4 #[.int .i64 b, .slice A1 l.length c1, .slice A2 q.length c2] w fun e w' => e = .returned (.bool true) ∧ Below w.heap.size w w' := by
  have hb := wf_i64 wb
  unfold maxLen at w0 w3
  by_cases h1 : 1 ≤ b ∧ b ≤ 11
  case neg =>
    by_cases hx : b < 1
    · have t0 : decide (b < 1) = true := decide_eq_true hx
      go_enter Try.func4, Try.ntmps4
      go_wp2_with fail
      refine (cache_New_out _ _ (.inl hx)).mono ?_; rintro e w1 ⟨rfl, rfl⟩
      go_wp2_with fail
      refine (answers_calls _).mono ?_; rintro e w1 ⟨rfl, hb⟩
      go_wp2
      go_ret
      exact ⟨rfl, hb⟩
    · have t0 : decide (b < 1) = false := decide_eq_false hx
      have t1 : decide (11 < b) = true := decide_eq_true (by omega)
      go_enter Try.func4, Try.ntmps4
      go_wp2_with fail
      refine (cache_New_out _ _ (.inr (by omega))).mono ?_; rintro e w1 ⟨rfl, rfl⟩
      go_wp2_with fail
      refine (answers_calls _).mono ?_; rintro e w1 ⟨rfl, hb⟩
      go_wp2
      go_ret
      exact ⟨rfl, hb⟩
  obtain ⟨m0, m1⟩ := h1
  have t0 : decide (b < 1) = false := decide_eq_false (by omega)
  have t1 : decide (11 < b) = false := decide_eq_false (by omega)
  by_cases h2 : 300 < l.length
  · have t2 : decide (300 < (l.length : Int)) = true := decide_eq_true (by omega)
    go_enter Try.func4, Try.ntmps4
    go_wp2_with fail
    refine (cache_New_in _ _ _ _ m0 m1 (St.refl w)).mono ?_; rintro e w1 ⟨g, rfl, hs⟩
    have HS := Aside0.mk hs.below; clear hs
    go_wp2_with fail
    refine (answers_calls _).mono ?_; rintro e w1 ⟨rfl, hb⟩
    go_wp2
    go_ret
    exact ⟨rfl, below_step HS.out hb⟩
  have t2 : decide (300 < (l.length : Int)) = false := decide_eq_false (by omega)
  obtain ⟨z, hz, hz2, hz3⟩ := pow11 m0 m1
  have hmk := print_make (P := Try.prog) 27 22 .u32 4 Try.underlying27 (by kernel_rfl) (by decide) z (by omega)
  have HZ := Aside0.mk hz2; clear hz2
  go_enter Try.func4, Try.ntmps4
  go_wp2_with fail
  refine (cache_New_in _ _ _ _ m0 m1 (St.refl w)).mono ?_; rintro e w1 ⟨g, rfl, hs⟩
  have HS := Aside0.mk hs; clear hs
  go_wp2_with fail
  refine (answers_calls _).mono ?_; rintro e v2 ⟨rfl, hb⟩
  have HS2 := Aside0.mk (HS.out.belowR hb); clear HS hb
  go_wp2_with fail
  have HZ1 := Aside0.mk hz; clear hz hmk
  obtain ⟨h, hh⟩ : ∃ h, v2.heap.size = h := ⟨_, rfl⟩
  rw [hh]
  have hs3 : St w (v2.alloc (.cells (madeCells #[.int .u32 0] z) 22)) (cacheA g b (playN b (List.replicate z 0) (l.take 0)) * (Asrt.blk h 22 (nums .u32 (playN b (List.replicate z 0) (l.take 0))).toArray * Asrt.emp)) := by
    have := (HS2.out.alloc (madeCells #[.int .u32 0] z) 22).swap
    rw [hh, made_nums, ← HZ.out] at this
    rw [made_nums]
    exact this
  have HS3 := Aside0.mk hs3; clear hs3 HS2 hh
  generalize v2.alloc (.cells (madeCells #[.int .u32 0] z) 22) = W3 at *
  go_loopw [6, 10] (fun r i wr => r = .bool false ∧ ∃ k : Nat, k ≤ l.length ∧ i = .int .i64 k ∧ St w wr (cacheA g b (playN b (List.replicate z 0) (l.take k)) * (Asrt.blk h 22 (nums .u32 (playN b (List.replicate z 0) (l.take k))).toArray * Asrt.emp))) (fun _ i _ => l.length - (intOf i).toNat)
  case atStart => exact ⟨rfl, 0, Nat.zero_le _, rfl, HS3.out⟩
  case round =>
    obtain ⟨rfl, k, hk, rfl, hsk⟩ := hrel
    clear HS3
    by_cases hlt : k < l.length
    · have tl : decide ((k : Int) < l.length) = true := decide_eq_true (by omega)
      obtain ⟨ad, rfl, hat⟩ := C_int_at hr (by omega)
      have hcell := pw_cell_below hsk.below (hat k hlt)
      have hat2 := hat
      obtain ⟨x, hx⟩ : ∃ x, rd l k = x := ⟨_, rfl⟩
      have hu : 0 ≤ x ∧ x ≤ 4294967295 := by rw [← hx]; exact wf_u32 (w2 _ (rd_mem (l := l) (by omega) (by omega)))
      rw [hx] at hcell
      have hnext := take_snoc hlt
      rw [hx] at hnext
      obtain ⟨c, hcc⟩ : ∃ c, playN b (List.replicate z 0) (l.take k) = c := ⟨_, rfl⟩
      have hcl : c.length = 2 ^ b.toNat := by rw [← hcc, playN_length, List.length_replicate, HZ.out]
      have hnx : playN b (List.replicate z 0) (l.take (k + 1)) = c.set (slotN x b).toNat x := by rw [hnext, playN_snoc, hcc]
      rw [hcc] at hsk
      have hsl := slotN_bd (argb := x) m0 m1
      have hsl2 : slotN x b < c.length := by rw [hcl]; exact_mod_cast hsl.2
      have hs0 := hsl.1
      have hs4 := slotN_small (argb := x) m0 m1
      have hsz : slotN x b < (z : Int) := by rw [HZ.out]; exact_mod_cast hsl.2
      have hw := (hsk.swap.cell (slotN x b).toNat).trans (nums_at _ c _ hs0 hsl2)
      clear hsl hnext
      have HAT := Aside0.mk hat; clear hat hat2
      have HX := Aside0.mk hx; clear hx
      have HC := Aside0.mk hcc; clear hcc
      have HCL := Aside0.mk hcl; clear hcl
      have HNX := Aside0.mk hnx; clear hnx
      have HS := Aside0.mk hsk; clear hsk
      by_cases hit : rd c (slotN x b) = x
      · rw [hit] at hw
        have HH := Aside0.mk hit; clear hit
        go_wp2_with fail
        refine (cache_Find_hit g b x c _ _ _ m0 m1 hu HCL.out HS.out HH.out).mono ?_; rintro e w3 ⟨rfl, ⟨nd, rfl⟩⟩
        go_wp2_with fail
        refine (ref_slot_in _ _ _ hu m0 m1).mono ?_; rintro e w3 ⟨rfl, ⟨nd2, rfl⟩⟩
        go_wp2_with fail
        go_quiet (fail)
        go_wp2_with fail
        refine (cache_Add_in g b x c _ _ _ m0 m1 hu HCL.out (HS.out.drewN _)).mono ?_; rintro e w5 ⟨rfl, hs5⟩
        have hw5 := (hs5.swap.cell (slotN x b).toNat).trans (nums_at _ c _ hs0 hsl2)
        have hf5 := hs5.swap.frozen (slotN x b).toNat
        have hc5 := pw_cell_below hs5.below (HAT.out k hlt)
        rw [HX.out] at hc5
        have HS5 := Aside0.mk hs5; clear hs5
        go_wp2_with fail
        go_roundw
        case rel =>
          refine ⟨rfl, k + 1, by omega, by go_num, ?_⟩
          rw [HNX.out, ← nums_set]
          exact (HS5.out.swap.set _ _).swap
        case measure => simp [intOf]; omega
      · have tx : (rd c (slotN x b) == x) = false := by simpa using hit
        have HH := Aside0.mk hit; clear hit
        go_wp2_with fail
        refine (cache_Find_miss g b x c _ _ _ m0 m1 hu HCL.out HS.out HH.out).mono ?_; rintro e w3 ⟨rfl, ⟨nd, rfl⟩⟩
        go_wp2_with fail
        refine (ref_slot_in _ _ _ hu m0 m1).mono ?_; rintro e w3 ⟨rfl, ⟨nd2, rfl⟩⟩
        go_wp2_with fail
        go_quiet (fail)
        go_wp2_with fail
        refine (cache_Add_in g b x c _ _ _ m0 m1 hu HCL.out (HS.out.drewN _)).mono ?_; rintro e w5 ⟨rfl, hs5⟩
        have hw5 := (hs5.swap.cell (slotN x b).toNat).trans (nums_at _ c _ hs0 hsl2)
        have hf5 := hs5.swap.frozen (slotN x b).toNat
        have hc5 := pw_cell_below hs5.below (HAT.out k hlt)
        rw [HX.out] at hc5
        have HS5 := Aside0.mk hs5; clear hs5
        go_wp2_with fail
        go_roundw
        case rel =>
          refine ⟨rfl, k + 1, by omega, by go_num, ?_⟩
          rw [HNX.out, ← nums_set]
          exact (HS5.out.swap.set _ _).swap
        case measure => simp [intOf]; omega
    · have tl : decide ((k : Int) < l.length) = false := decide_eq_false (by omega)
      obtain rfl : k = l.length := by omega
      rw [List.take_length] at hsk
      obtain ⟨c, hcc⟩ : ∃ c, playN b (List.replicate z 0) l = c := ⟨_, rfl⟩
      have hcl : c.length = z := by rw [← hcc, playN_length, List.length_replicate]
      rw [hcc] at hsk
      have HCL := Aside0.mk hcl; clear hcl
      have HS := Aside0.mk hsk; clear hsk hcc
      go_wp2_with fail
      go_loopw [6, 14] (fun r i wr2 => r = .bool false ∧ ∃ k : Nat, k ≤ q.length ∧ i = .int .i64 k ∧ wr = wr2) (fun _ i _ => q.length - (intOf i).toNat)
      case atStart => exact ⟨rfl, 0, Nat.zero_le _, rfl, rfl⟩
      case round =>
        obtain ⟨rfl, k, hk, rfl, rfl⟩ := hrel
        by_cases hlt : k < q.length ∧ k < 300
        · obtain ⟨hq1, hq2⟩ := hlt
          have tl : decide ((k : Int) < q.length) = true := decide_eq_true (by omega)
          have tl2 : decide ((k : Int) < 300) = true := decide_eq_true (by omega)
          obtain ⟨ad, rfl, hat⟩ := C_int_at hr2 (by omega)
          have hcell := pw_cell_below HS.out.below (hat k hq1)
          obtain ⟨x, hx⟩ : ∃ x, rd q k = x := ⟨_, rfl⟩
          have hu := wf_i64 (w5 _ (rd_mem (l := q) (i := k) (by omega) (by omega)))
          rw [hx] at hcell hu
          have HX := Aside0.mk hx; clear hx hat
          by_cases hin : 0 ≤ x ∧ x < (z : Int)
          · obtain ⟨hin0, hin1⟩ := hin
            have tx0 : decide (0 ≤ x) = true := decide_eq_true hin0
            have tx1 : decide (x < (z : Int)) = true := decide_eq_true hin1
            have hxc : x < c.length := by rw [HCL.out]; exact hin1
            have hw := (HS.out.swap.cell x.toNat).trans (nums_at _ c x hin0 hxc)
            go_wp2_with fail
            refine (cache_Get_in g b c x _ _ _ hin0 hxc HS.out).mono ?_; rintro e v5 ⟨rfl, rfl⟩
            go_wp2_with fail
            go_roundw
            case rel =>
              exact ⟨rfl, k + 1, by omega, by go_num, trivial⟩
            case measure => simp [intOf]; omega
          · by_cases hin0 : 0 ≤ x
            · have tx0 : decide (0 ≤ x) = true := decide_eq_true hin0
              have tx1 : decide (x < (z : Int)) = false := decide_eq_false (by omega)
              go_wp2_with fail
              refine (cache_Get_out g b c x _ _ _ (.inr (by rw [HCL.out]; omega)) HS.out).mono ?_; rintro e v5 ⟨rfl, rfl⟩
              go_wp2_with fail
              go_roundw
              case rel =>
                exact ⟨rfl, k + 1, by omega, by go_num, trivial⟩
              case measure => simp [intOf]; omega
            · have tx0 : decide (0 ≤ x) = false := decide_eq_false hin0
              go_wp2_with fail
              refine (cache_Get_out g b c x _ _ _ (.inl (by omega)) HS.out).mono ?_; rintro e v5 ⟨rfl, rfl⟩
              go_wp2_with fail
              go_roundw
              case rel =>
                exact ⟨rfl, k + 1, by omega, by go_num, trivial⟩
              case measure => simp [intOf]; omega
        · have hbel := Aside0.mk HS.out.below
          by_cases hq1 : k < q.length
          · have tl : decide ((k : Int) < q.length) = true := decide_eq_true (by omega)
            have tl2 : decide ((k : Int) < 300) = false := decide_eq_false (by omega)
            go_wp2_with fail
            go_ret
            exact ⟨rfl, hbel.out⟩
          · have tl : decide ((k : Int) < q.length) = false := decide_eq_false (by omega)
            go_wp2_with fail
            go_ret
            exact ⟨rfl, hbel.out⟩
end Go.Proofs.Ytimkemfiiodafaa.Pure
