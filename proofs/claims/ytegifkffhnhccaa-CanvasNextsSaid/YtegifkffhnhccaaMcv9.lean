/- The image of a canvas that is none; Render as one function. -/
import Derived.Test.YtegifkffhnhccaaMcv8
import Derived.Test.YtegifkffhnhccaaMark
namespace Go.Proofs.Ytegifkffhnhccaa.P
open Go Go.RowKit Go.Proofs.YtegifkffhnhccaaW.PrintWords Go.Proofs.YtegifkffhnhccaaW.PrintLast Go.Proofs.YtegifkffhnhccaaW.PrintMore
set_option linter.unusedVariables false
set_option linter.unusedSimpArgs false
set_option maxHeartbeats 1000000 in
set_option maxRecDepth 100000 in
theorem canvas_Image_none (w : World) :
    Calls Try.prog 19 #[.pointer none] w fun e w' => e = .returned (.agg #[.int .i64 0, .int .i64 0, .slice none 0 0]) ∧ Below w.heap.size w w' := by
  have HS := Aside0.mk ((St.refl w).alloc #[.int .i64 0, .int .i64 0, .slice none 0 0] 31)
  go_enter Try.func19, Try.ntmps19
  go_wp2_with fail
  refine bodyPost_ret (results_c1 rfl _ _ w.heap.size 31 #[.int .i64 0, .int .i64 0, .slice none 0 0] (0, 0) _ rfl HS.out.blk Try.underlying31 rfl (by kernel_rfl)) rfl ?_
  exact ⟨rfl, HS.out.below⟩
theorem C_one {α : Type} {d : Kd α} {w : World} {ad : Addr} {x : α} {cs : List Value} (hK : d.K w x cs) (hl : cs.length = d.sz) (hc : ∀ i u, cs[i]? = some u → w.cell? (ad.add i) = some u) : Kd.C d w (some ad) 1 [x] := by
  refine ⟨rfl, by decide, fun _ => ⟨ad, rfl, fun j p hj => ?_⟩⟩
  obtain rfl : j = 0 := by
    have := (List.getElem?_eq_some_iff.1 hj).1
    simpa using this
  obtain rfl : x = p := by simpa using hj
  exact ⟨cs, hl, hK, by simpa using hc⟩
instance (p : S47) : Decidable (partU p) := by unfold partU; infer_instance
def partsU (l : List S47) : Prop := ∀ p ∈ l, partU p
instance (l : List S47) : Decidable (partsU l) := by unfold partsU; infer_instance
theorem partsU_rd {l : List S47} (h : partsU l) (i : Nat) (hi : i < l.length) : partU (rd_T47 l i) := by
  have e : rd_T47 l i = l[i] := by simp [rd_T47, List.getD_eq_getElem?_getD, hi]
  rw [e]
  exact h _ (List.getElem_mem hi)
instance (W H : Int) (l : List S47) (n : Nat) : Decidable (allIn W H l n) := by unfold allIn; infer_instance
/-- May a part be asked for? -/
def askOk (W H : Int) (l : List S47) (k : Int) : Prop := (sideOk W ∧ sideOk H) ∧ (0 ≤ k ∧ k < l.length) ∧ allIn W H l (k.toNat + 1)
instance (W H : Int) (l : List S47) (k : Int) : Decidable (askOk W H l k) := by unfold askOk sideOk; infer_instance
def renderF (W H : Int) (l : List S47) (k : Int) : Option (Int × Int × List Int × Int) :=
  if partsU l then (if askOk W H l k then some (W, H, (comeF W H l (k.toNat + 1)).pix, 0) else some (0, 0, [], 1)) else none
theorem first_no {W H : Int} {l : List S47} : ∀ {n : Nat}, ¬ allIn W H l n → ∃ j, j < n ∧ allIn W H l j ∧ ¬ partIn W H (rd_T47 l j)
  | 0, h => absurd (fun i hi => absurd hi (Nat.not_lt_zero _)) h
  | n + 1, h => by
    by_cases c : allIn W H l n
    · by_cases d : partIn W H (rd_T47 l n)
      · refine absurd (fun i hi => ?_) h
        rcases Nat.lt_or_ge i n with e | e
        · exact c i e
        · obtain rfl : i = n := by omega
          exact d
      · exact ⟨n, Nat.lt_succ_self n, c, d⟩
    · obtain ⟨j, h1, h2⟩ := first_no c
      exact ⟨j, Nat.lt_succ_of_lt h1, h2⟩
theorem renderF_calls (W H : Int) (A : Option Addr) (c : Nat) (l : List S47) (k : Int) (r1 r2 : Int) (r3 : List Int) (r4 : Int) (w : World) (hr : Kd.C k47 w A l.length l) (hc : l.length ≤ c) (h : renderF W H l k = some (r1, r2, r3, r4)) :
    Calls Try.prog 14 #[.int .i64 W, .int .i64 H, .slice A l.length c, .int .i64 k] w fun e w' => ∃ v2_ : Value, e = .returned (.tuple #[.agg #[.int .i64 r1, .int .i64 r2, v2_], .int .i64 r4]) ∧ Kd.R (Kd.int .u32) 22 w' w.heap.size (fun _ => True) v2_ r3 ∧ Below w.heap.size w w' := by
  unfold renderF at h
  by_cases hu : partsU l
  case neg => rw [if_neg hu] at h; cases h
  rw [if_pos hu] at h
  by_cases ha : askOk W H l k
  · rw [if_pos ha] at h
    obtain ⟨⟨hW, hH⟩, ⟨h0, h1⟩, h2⟩ := ha
    obtain ⟨k, rfl⟩ := Int.eq_ofNat_of_zero_le h0
    simp only [Option.some.injEq, Prod.mk.injEq, Int.toNat_natCast] at h h2
    obtain ⟨rfl, rfl, rfl, rfl⟩ := h
    refine (canvas_Render_ok W H A c l k w hW hH hr hc (by omega) (partsU_rd hu) h2).mono ?_
    rintro e w' ⟨B, cB, rfl, hs⟩
    exact ⟨_, rfl, hs.toR, hs.below⟩
  · rw [if_neg ha] at h
    simp only [Option.some.injEq, Prod.mk.injEq] at h
    obtain ⟨rfl, rfl, rfl, rfl⟩ := h
    have fin : Calls Try.prog 14 #[.int .i64 W, .int .i64 H, .slice A l.length c, .int .i64 k] w fun e w' => e = .returned (.tuple #[.agg #[.int .i64 0, .int .i64 0, .slice none 0 0], .int .i64 1]) ∧ Below w.heap.size w w' := by
      by_cases c1 : sideOk W ∧ sideOk H
      case neg => exact canvas_Render_side W H A c l.length k w c1
      by_cases c2 : 0 ≤ k ∧ k < l.length
      case neg => exact canvas_Render_at W H A c l.length k w c1.1 c1.2 c2
      obtain ⟨j, h1, h2, h3⟩ := first_no (fun hh => ha ⟨c1, c2, hh⟩)
      obtain ⟨k, rfl⟩ := Int.eq_ofNat_of_zero_le c2.1
      simp only [Int.toNat_natCast] at h1
      exact canvas_Render_part W H A c l k w c1.1 c1.2 hr hc (by omega) (partsU_rd hu) j (by omega) h2 h3
    refine fin.mono ?_
    rintro e w' ⟨rfl, hb⟩
    exact ⟨_, rfl, Kd.R_nil _ _ _ _ _, hb⟩
def oneP : S47 := ⟨0, 0, false, false, ⟨1, 1, [2164195328]⟩⟩
theorem one_reads {w0 w : World} {b1 b3 : Nat} {a r : Asrt} (hs : St w0 w (Asrt.blk b3 47 #[.int .i64 0, .int .i64 0, .bool false, .bool false, .int .i64 1, .int .i64 1, .slice (some ⟨b1, 0, none⟩) 1 1] * (a * (Asrt.blk b1 22 #[.int .u32 2164195328] * r)))) :
    Kd.C k47 w (some ⟨b3, 0, none⟩) 1 [oneP] := by
  have hg : Kd.C (Kd.int .u32) w (some ⟨b1, 0, none⟩) 1 [(2164195328 : Int)] := by
    refine C_one (cs := [.int .u32 2164195328]) rfl rfl fun i u hi => ?_
    have hc := hs.rot3.cell i
    rw [show (⟨b1, 0, none⟩ : Addr).add i = ⟨b1, i, none⟩ by unfold Addr.add; split <;> simp_all]
    rw [hc]
    simpa using hi
  exact C_one (cs := [.int .i64 0, .int .i64 0, .bool false, .bool false, .int .i64 1, .int .i64 1, .slice (some ⟨b1, 0, none⟩) 1 1]) (k47_mk _ oneP (Nat.le_refl 1) hg) rfl fun i u hi => by
    rw [show (⟨b3, 0, none⟩ : Addr).add i = ⟨b3, i, none⟩ by unfold Addr.add; split <;> simp_all]
    rw [hs.cell i]
    simpa using hi
theorem one_U : partsU [oneP] := by
  intro p hp x hx
  obtain rfl := List.mem_singleton.1 hp
  obtain rfl : x = 2164195328 := by simpa [oneP] using hx
  unfold U32; omega
theorem one_in : askOk 1 1 [oneP] 0 := by
  refine ⟨⟨by unfold sideOk; omega, by unfold sideOk; omega⟩, by simp, ?_⟩
  intro i hi
  obtain rfl : i = 0 := by simpa using hi
  show partIn 1 1 oneP
  unfold partIn withinC goodI oneP
  simp [sideOk]
theorem one_pix : (comeF 1 1 [oneP] (0 + 1)).pix = [2164195328] := by
  show drawRows 1 (clearRows 1 (List.replicate 1 0) 0 0 0 0) 0 0 1 false [2164195328] 1 = _
  decide
theorem one_render : renderF 1 1 [oneP] 0 = some (1, 1, [2164195328], 0) := by
  unfold renderF
  rw [if_pos one_U, if_pos one_in]
  exact congrArg (fun z => some (1, 1, z, 0)) one_pix
end Go.Proofs.Ytegifkffhnhccaa.P
