/- A writer joined to another one: the bits of both, one behind the other; also to itself. -/
import Derived.Test.YtbgjpncnhhlljaaBitoutLaw
namespace Go.Proofs.Ytbgjpncnhhlljaa.Pure
open Go Go.RowKit Go.Proofs.Ytbgjpncnhhlljaa.P Go.Proofs.YtbgjpncnhhlljaaW.PrintWords Go.Proofs.YtbgjpncnhhlljaaW.PrintLast Go.Proofs.YtbgjpncnhhlljaaW.PrintMore Go.Proofs.Ytbgjpncnhhlljaa.U
set_option linter.unusedVariables false
set_option linter.unusedSimpArgs false
theorem C_bool_at {w : World} {A : Option Addr} {l : List Bool} (h : Kd.C Kd.bool w A l.length l) (h0 : 0 < l.length) : ∃ ad, A = some ad ∧ ∀ (i : Nat) (hi : i < l.length), w.cell? (ad.add i) = some (.bool l[i]) := by
  obtain ⟨ad, e, hc⟩ := h.2.2 h0
  refine ⟨ad, e, fun i hi => ?_⟩
  obtain ⟨c, hl, hk, hcell⟩ := hc i _ (List.getElem?_eq_getElem hi)
  have hk' : c = [Value.bool l[i]] := hk
  have := hcell 0 (Value.bool l[i]) (by rw [hk']; rfl)
  have e2 : (Kd.bool).sz = 1 := rfl
  rw [e2, Nat.mul_one, Nat.add_zero] at this
  exact this
def one (b : Bool) : Int := if b then 1 else 0
def ones (l : List Bool) : List Int := l.map one
theorem ones_bin (l : List Bool) : Bin (ones l) := by
  intro y hy
  obtain ⟨b, _, rfl⟩ := List.mem_map.1 hy
  cases b
  · exact .inl rfl
  · exact .inr rfl
theorem ones_take {l : List Bool} {k : Nat} (h : k < l.length) : ones (l.take (k + 1)) = ones (l.take k) ++ [one l[k]] := by
  rw [ones, List.take_succ_eq_append_getElem h, List.map_append]
  rfl
theorem ones_len {l : List Bool} {k : Nat} (h : k ≤ l.length) : (ones (l.take k)).length = k := by simp [ones]; omega
theorem bits01 : bitsV 0 1 = [0] ∧ bitsV 1 1 = [1] := by decide +kernel
set_option maxHeartbeats 8000000 in
set_option maxRecDepth 100000 in
theorem BitoutJoins (A0 : Option Addr) (c0 : Nat) (a : List Bool) (A1 : Option Addr) (c1 : Nat) (b : List Bool) (own : Bool) (w : World) (w0 : a.length ≤ maxLen) (w1 : a.length * 1 ≤ 140737488351232) (w2 : ∀ y ∈ a, True)
    (w3 : b.length ≤ maxLen) (w4 : b.length * 1 ≤ 140737488351232) (w5 : ∀ y ∈ b, True)
    (hr : Kd.C Kd.bool w A0 a.length a) (hc : a.length ≤ c0) (hr2 : Kd.C Kd.bool w A1 b.length b) (hc2 : b.length ≤ c1) :
    Calls Try.prog 5 #[.slice A0 a.length c0, .slice A1 b.length c1, .bool own] w fun e w' => e = .returned (.bool true) ∧ Below w.heap.size w w' := by
  unfold maxLen at w0 w3
  by_cases h1 : 200 < a.length
  · have t0 : decide (200 < (a.length : Int)) = true := decide_eq_true (by omega)
    go_enter Try.func5, Try.ntmps5
    go_wp2_with fail
    refine (answers_calls _).mono ?_; rintro e w1 ⟨rfl, hb⟩
    go_wp2
    go_ret
    exact ⟨rfl, hb⟩
  have t0 : decide (200 < (a.length : Int)) = false := decide_eq_false (by omega)
  by_cases h2 : 200 < b.length
  · have t1 : decide (200 < (b.length : Int)) = true := decide_eq_true (by omega)
    go_enter Try.func5, Try.ntmps5
    go_wp2_with fail
    refine (answers_calls _).mono ?_; rintro e w1 ⟨rfl, hb⟩
    go_wp2
    go_ret
    exact ⟨rfl, hb⟩
  have t1 : decide (200 < (b.length : Int)) = false := decide_eq_false (by omega)
  have HR := Aside0.mk hr; clear hr
  have HR2 := Aside0.mk hr2; clear hr2
  go_enter Try.func5, Try.ntmps5
  go_wp2_with fail
  refine (bitout_New _ _ _ (St.refl w)).mono ?_; rintro e v1 ⟨g, rfl, hs1⟩
  have HS := Aside0.mk hs1; clear hs1
  go_wp2_with fail
  refine (bitout_New _ _ _ HS.out).mono ?_; rintro e v2 ⟨g2, rfl, hs2⟩
  have HS2 := Aside0.mk (hs2.swap.rowNil 5 1); clear hs2 HS
  go_wp2_with fail
  go_loopw [9, 11] (fun v i wr => ∃ (k : Nat) (B : Option Addr) (c' : Nat), k ≤ a.length ∧ i = .int .i64 k ∧ v = .slice B k c' ∧ St w wr (Asrt.row 5 1 (.slice B k c') k (nums .u8 (ones (a.take k))) * (writerA g (ones (a.take k)) * (writerA g2 [] * Asrt.emp)))) (fun _ i _ => a.length - (intOf i).toNat)
  case atStart => exact ⟨0, none, 0, by omega, rfl, rfl, HS2.out⟩
  case round =>
    obtain ⟨k, B, c', hk, rfl, rfl, hsk⟩ := hrel
    clear HS2
    by_cases hlt : k < a.length
    · have tl : decide ((k : Int) < a.length) = true := decide_eq_true (by omega)
      obtain ⟨ad, hA, hat⟩ := C_bool_at HR.out (by omega)
      subst hA
      have hcell := pw_cell_below hsk.below (hat k hlt)
      have htk := ones_take hlt
      generalize hbk : a[k] = bk at *
      clear hat hbk
      have HTK := Aside0.mk htk; clear htk
      have hbin := ones_bin (a.take k)
      have hlen := ones_len (l := a) (k := k) (by omega)
      have HBI := Aside0.mk hbin; clear hbin
      have HLE := Aside0.mk hlen; clear hlen
      have HSK := Aside0.mk hsk.swap; clear hsk
      have hbd : (k + 1) * 1 ≤ 140737488355328 := by omega
      cases bk
      · go_wp2_with fail
        refine (bitout_Bits_ok g _ 0 1 _ _ _ (by decide) (by decide) (by decide) (by decide) HBI.out (by rw [HLE.out]; omega) HSK.out).mono ?_; rintro e v3 ⟨rfl, hs3⟩
        rw [show bitsV 0 (1 : Int).toNat = [one false] from bits01.1, ← HTK.out] at hs3
        have HS3 := Aside0.mk hs3.swap; clear hs3 HSK
        go_wp2_with (at_builtin; refine St.append_num rfl (.tmp 39) (.tmp 42) 27 5 .u8 1 rfl Try.underlying27 (by kernel_rfl) (by decide) _ k (ones (a.take k)) (one false) rfl rfl HS3.out hbd ?_; intro A1 k1 w1 hs1; have HS1 := Aside0.mk hs1; clear hs1)
        have hs4 := HS1.out
        rw [← HTK.out] at hs4
        have HS4 := Aside0.mk hs4; clear hs4
        go_roundw
        case rel => exact ⟨k + 1, A1, k1, by omega, by go_num, rfl, HS4.out⟩
        case measure => simp [intOf]; omega
      · go_wp2_with fail
        refine (bitout_Bits_ok g _ 1 1 _ _ _ (by decide) (by decide) (by decide) (by decide) HBI.out (by rw [HLE.out]; omega) HSK.out).mono ?_; rintro e v3 ⟨rfl, hs3⟩
        rw [show bitsV 1 (1 : Int).toNat = [one true] from bits01.2, ← HTK.out] at hs3
        have HS3 := Aside0.mk hs3.swap; clear hs3 HSK
        go_wp2_with (at_builtin; refine St.append_num rfl (.tmp 39) (.tmp 42) 27 5 .u8 1 rfl Try.underlying27 (by kernel_rfl) (by decide) _ k (ones (a.take k)) (one true) rfl rfl HS3.out hbd ?_; intro A1 k1 w1 hs1; have HS1 := Aside0.mk hs1; clear hs1)
        have hs4 := HS1.out
        rw [← HTK.out] at hs4
        have HS4 := Aside0.mk hs4; clear hs4
        go_roundw
        case rel => exact ⟨k + 1, A1, k1, by omega, by go_num, rfl, HS4.out⟩
        case measure => simp [intOf]; omega
    · have tl : decide ((k : Int) < a.length) = false := decide_eq_false (by omega)
      obtain rfl : k = a.length := by omega
      rw [List.take_length] at hsk
      have hs2 := (hsk.rot3).rowNil 5 1
      have HS2 := Aside0.mk hs2; clear hs2 hsk
      generalize hLa : ones a = La at *
      have hLab : Bin La := by rw [← hLa]; exact ones_bin a
      have hLal : La.length = a.length := by rw [← hLa]; simp [ones]
      have HLA := Aside0.mk hLa
      have HLAB := Aside0.mk hLab
      have HLAL := Aside0.mk hLal
      clear hLa hLab hLal
      go_wp2_with fail
      go_loopw [10, 13] (fun v i wr => ∃ (k : Nat) (B2 : Option Addr) (c'' : Nat), k ≤ b.length ∧ i = .int .i64 k ∧ v = .slice B2 k c'' ∧ St w wr (Asrt.row 5 1 (.slice B2 k c'') k (nums .u8 (ones (b.take k))) * (writerA g2 (ones (b.take k)) * (Asrt.row 5 1 (.slice B a.length c') a.length (nums .u8 La) * (writerA g La * Asrt.emp))))) (fun _ i _ => b.length - (intOf i).toNat)
      case atStart => exact ⟨0, none, 0, by omega, rfl, rfl, HS2.out⟩
      case round =>
        obtain ⟨k, B2, c'', hk, rfl, rfl, hsk⟩ := hrel
        clear HS2
        by_cases hlt : k < b.length
        · have tl : decide ((k : Int) < b.length) = true := decide_eq_true (by omega)
          obtain ⟨ad, hA, hat⟩ := C_bool_at HR2.out (by omega)
          subst hA
          have hcell := pw_cell_below hsk.below (hat k hlt)
          have htk := ones_take hlt
          generalize hbk : b[k] = bk at *
          clear hat hbk
          have HTK := Aside0.mk htk; clear htk
          have hbin := ones_bin (b.take k)
          have hlen := ones_len (l := b) (k := k) (by omega)
          have HBI := Aside0.mk hbin; clear hbin
          have HLE := Aside0.mk hlen; clear hlen
          have HSK := Aside0.mk hsk.swap; clear hsk
          have hbd : (k + 1) * 1 ≤ 140737488355328 := by omega
          cases bk
          · go_wp2_with fail
            refine (bitout_Bits_ok g2 _ 0 1 _ _ _ (by decide) (by decide) (by decide) (by decide) HBI.out (by rw [HLE.out]; omega) HSK.out).mono ?_; rintro e v3 ⟨rfl, hs3⟩
            rw [show bitsV 0 (1 : Int).toNat = [one false] from bits01.1, ← HTK.out] at hs3
            have HS3 := Aside0.mk hs3.swap; clear hs3 HSK
            go_wp2_with (at_builtin; refine St.append_num rfl (.tmp 57) (.tmp 60) 27 5 .u8 1 rfl Try.underlying27 (by kernel_rfl) (by decide) _ k (ones (b.take k)) (one false) rfl rfl HS3.out hbd ?_; intro A1 k1 w1 hs1; have HS1 := Aside0.mk hs1; clear hs1)
            have hs4 := HS1.out
            rw [← HTK.out] at hs4
            have HS4 := Aside0.mk hs4; clear hs4
            go_roundw
            case rel => exact ⟨k + 1, A1, k1, by omega, by go_num, rfl, HS4.out⟩
            case measure => simp [intOf]; omega
          · go_wp2_with fail
            refine (bitout_Bits_ok g2 _ 1 1 _ _ _ (by decide) (by decide) (by decide) (by decide) HBI.out (by rw [HLE.out]; omega) HSK.out).mono ?_; rintro e v3 ⟨rfl, hs3⟩
            rw [show bitsV 1 (1 : Int).toNat = [one true] from bits01.2, ← HTK.out] at hs3
            have HS3 := Aside0.mk hs3.swap; clear hs3 HSK
            go_wp2_with (at_builtin; refine St.append_num rfl (.tmp 57) (.tmp 60) 27 5 .u8 1 rfl Try.underlying27 (by kernel_rfl) (by decide) _ k (ones (b.take k)) (one true) rfl rfl HS3.out hbd ?_; intro A1 k1 w1 hs1; have HS1 := Aside0.mk hs1; clear hs1)
            have hs4 := HS1.out
            rw [← HTK.out] at hs4
            have HS4 := Aside0.mk hs4; clear hs4
            go_roundw
            case rel => exact ⟨k + 1, A1, k1, by omega, by go_num, rfl, HS4.out⟩
            case measure => simp [intOf]; omega
        · have tl : decide ((k : Int) < b.length) = false := decide_eq_false (by omega)
          obtain rfl : k = b.length := by omega
          rw [List.take_length] at hsk
          generalize hLb : ones b = Lb at *
          have hLbb : Bin Lb := by rw [← hLb]; exact ones_bin b
          have hLbl : Lb.length = b.length := by rw [← hLb]; simp [ones]
          have HLB := Aside0.mk hLb
          have HLBB := Aside0.mk hLbb
          have HLBL := Aside0.mk hLbl
          clear hLb hLbb hLbl
          have HS3 := Aside0.mk hsk; clear hsk
          cases own
          · skip
            have HS4 := Aside0.mk HS3.out.rot4.swap2; clear HS3
            go_wp2_with fail
            refine (bitout_Join g g2 La Lb _ _ _ HLAB.out HLBB.out (by rw [HLAL.out, HLBL.out]; omega) HS4.out).mono ?_; rintro e v5 ⟨rfl, hs5⟩
            have HS5 := Aside0.mk hs5.rot4; clear hs5 HS4
            have hbd : (a.length + b.length) * 1 ≤ 140737488355328 := by omega
            go_wp2_with (at_builtin; refine St.append_row rfl (.tmp 74) (.tmp 75) 27 5 .u8 1 rfl Try.underlying27 (by kernel_rfl) (by decide) _ (a.length) La Lb B2 b.length c'' rfl rfl HS5.out (rowReads HS5.out.rot4) hbd ?_; intro A6 k6 w6 hs6; have HS6 := Aside0.mk hs6; clear hs6 HS5)
            have hM : (La ++ Lb).length = a.length + b.length := by rw [List.length_append, HLAL.out, HLBL.out]
            have hMb : Bin (La ++ Lb) := (HLAB.out).app HLBB.out
            generalize La ++ Lb = M at *
            have HM := Aside0.mk hM
            have HMB := Aside0.mk hMb
            clear hM hMb
            refine (answers_calls _).mono ?_; rintro e v7 ⟨rfl, hb⟩
            have HS7 := Aside0.mk (HS6.out.belowR hb).swap; clear hb HS6
            go_wp2_with fail
            refine (bitout_Len g M _ _ _ HS7.out).mono ?_; rintro e v8 ⟨rfl, rfl⟩
            rw [HM.out]
            go_wp2_with fail
            refine (bitout_Bytes g M _ _ _ (by rw [HM.out]; omega) HS7.out).mono ?_; rintro e v8 ⟨B8, k8, rfl, hs8⟩
            have HS8 := Aside0.mk hs8; clear hs8 HS7
            go_wp2_with fail
            have hrd := rowReads HS8.out.rot3
            rw [← HM.out] at hrd
            have HRD := Aside0.mk hrd; clear hrd
            rw [← HM.out]
            refine (ref_Bytes A6 k6 M _ _ _ HRD.out (by rw [HM.out]; omega) HMB.out HS8.out).mono ?_; rintro e v9 ⟨B9, k9, rfl, hs9⟩
            have HS9 := Aside0.mk hs9; clear hs9
            go_wp2_with fail
            refine (ref_Same_yes B8 B9 _ _ _ (pack M) _ (rowReads HS9.out.swap) (rowReads HS9.out)).mono ?_; rintro e v10 ⟨rfl, ⟨nd, rfl⟩⟩
            have HS10 := Aside0.mk ((HS9.out.drop.drop).rot3.drewN nd); clear HS9 HS8
            go_wp2_with fail
            refine (bitout_Bytes g2 Lb _ _ _ (by rw [HLBL.out]; omega) HS10.out).mono ?_; rintro e v11 ⟨B11, k11, rfl, hs11⟩
            have HS11 := Aside0.mk hs11; clear hs11 HS10
            go_wp2_with fail
            have hrd2 := rowReads HS11.out.drop.rot4
            rw [← HLBL.out] at hrd2
            rw [← HLBL.out]
            have HRD2 := Aside0.mk hrd2; clear hrd2
            refine (ref_Bytes B2 c'' Lb _ _ _ HRD2.out (by rw [HLBL.out]; omega) HLBB.out HS11.out).mono ?_; rintro e v12 ⟨B12, k12, rfl, hs12⟩
            have HS12 := Aside0.mk hs12; clear hs12
            go_wp2_with fail
            refine (ref_Same_yes B11 B12 _ _ _ (pack Lb) _ (rowReads HS12.out.swap) (rowReads HS12.out)).mono ?_; rintro e v13 ⟨rfl, ⟨nd2, rfl⟩⟩
            go_wp2_with fail
            go_ret
            exact ⟨rfl, pw_below_drewN HS12.out.below _⟩
          · skip
            go_wp2_with fail
            refine (bitout_Join_own g La _ _ _ HLAB.out (by rw [HLAL.out]; omega) HS3.out.rot4).mono ?_; rintro e v4 ⟨rfl, hs4⟩
            have HSA := Aside0.mk hs4; clear hs4 HS3
            have HSB := Aside0.mk (HSA.out.allocRow 5 .u8 [] (by decide))
            have hrz : ReadsInt v4 .u8 B a.length La := rowReads HSA.out.rot4
            have HRZ := Aside0.mk hrz; clear hrz
            have hbda : (0 + a.length) * 1 ≤ 140737488355328 := by omega
            have hbdb : (a.length + a.length) * 1 ≤ 140737488355328 := by omega
            go_wp2_with (first | (at_builtin; refine St.append_row rfl (.tmp 67) (.tmp 68) 27 5 .u8 1 rfl Try.underlying27 (by kernel_rfl) (by decide) (.slice (some ⟨v4.heap.size, 0, none⟩) 0 0) 0 [] La B a.length c' rfl rfl HSB.out (HRZ.out.allocS _) hbda ?_; intro A5 k5 w5 hs5; rw [Nat.zero_add] at hs5 ⊢; have HSC := Aside0.mk hs5; clear hs5) | (at_builtin; refine St.append_row rfl (.tmp 66) (.tmp 69) 27 5 .u8 1 rfl Try.underlying27 (by kernel_rfl) (by decide) _ a.length La La A5 a.length k5 rfl rfl (HSC.out.drop.rot4) (rowReads HSC.out) hbdb ?_; intro A6 k6 w6 hs6; have HSD := Aside0.mk hs6; clear hs6))
            have HS4 := Aside0.mk HSD.out.rot4.rot3.swap3; clear HSA HSB HSC HSD
            go_wp2_with fail
            refine (bitout_Join g g2 (La ++ La) Lb _ _ _ (HLAB.out.app HLAB.out) HLBB.out (by rw [List.length_append, HLAL.out, HLBL.out]; omega) HS4.out).mono ?_; rintro e v5 ⟨rfl, hs5⟩
            have HS5 := Aside0.mk hs5.rot4; clear hs5 HS4
            have hbd : (a.length + a.length + b.length) * 1 ≤ 140737488355328 := by omega
            go_wp2_with (at_builtin; refine St.append_row rfl (.tmp 74) (.tmp 75) 27 5 .u8 1 rfl Try.underlying27 (by kernel_rfl) (by decide) _ (a.length + a.length) (La ++ La) Lb B2 b.length c'' rfl rfl HS5.out (rowReads HS5.out.rot4) hbd ?_; intro A6 k6 w6 hs6; have HS6 := Aside0.mk hs6; clear hs6 HS5)
            have hM : (La ++ La ++ Lb).length = a.length + a.length + b.length := by rw [List.length_append, List.length_append, HLAL.out, HLBL.out]
            have hMb : Bin (La ++ La ++ Lb) := (HLAB.out.app HLAB.out).app HLBB.out
            generalize La ++ La ++ Lb = M at *
            have HM := Aside0.mk hM
            have HMB := Aside0.mk hMb
            clear hM hMb
            refine (answers_calls _).mono ?_; rintro e v7 ⟨rfl, hb⟩
            have HS7 := Aside0.mk (HS6.out.belowR hb).swap; clear hb HS6
            go_wp2_with fail
            refine (bitout_Len g M _ _ _ HS7.out).mono ?_; rintro e v8 ⟨rfl, rfl⟩
            rw [HM.out]
            go_wp2_with fail
            refine (bitout_Bytes g M _ _ _ (by rw [HM.out]; omega) HS7.out).mono ?_; rintro e v8 ⟨B8, k8, rfl, hs8⟩
            have HS8 := Aside0.mk hs8; clear hs8 HS7
            go_wp2_with fail
            have hrd := rowReads HS8.out.rot3
            rw [← HM.out] at hrd
            have HRD := Aside0.mk hrd; clear hrd
            rw [← HM.out]
            refine (ref_Bytes A6 k6 M _ _ _ HRD.out (by rw [HM.out]; omega) HMB.out HS8.out).mono ?_; rintro e v9 ⟨B9, k9, rfl, hs9⟩
            have HS9 := Aside0.mk hs9; clear hs9
            go_wp2_with fail
            refine (ref_Same_yes B8 B9 _ _ _ (pack M) _ (rowReads HS9.out.swap) (rowReads HS9.out)).mono ?_; rintro e v10 ⟨rfl, ⟨nd, rfl⟩⟩
            have HS10 := Aside0.mk ((HS9.out.drop.drop).rot3.drewN nd); clear HS9 HS8
            go_wp2_with fail
            refine (bitout_Bytes g2 Lb _ _ _ (by rw [HLBL.out]; omega) HS10.out).mono ?_; rintro e v11 ⟨B11, k11, rfl, hs11⟩
            have HS11 := Aside0.mk hs11; clear hs11 HS10
            go_wp2_with fail
            have hrd2 := rowReads HS11.out.drop.rot4
            rw [← HLBL.out] at hrd2
            rw [← HLBL.out]
            have HRD2 := Aside0.mk hrd2; clear hrd2
            refine (ref_Bytes B2 c'' Lb _ _ _ HRD2.out (by rw [HLBL.out]; omega) HLBB.out HS11.out).mono ?_; rintro e v12 ⟨B12, k12, rfl, hs12⟩
            have HS12 := Aside0.mk hs12; clear hs12
            go_wp2_with fail
            refine (ref_Same_yes B11 B12 _ _ _ (pack Lb) _ (rowReads HS12.out.swap) (rowReads HS12.out)).mono ?_; rintro e v13 ⟨rfl, ⟨nd2, rfl⟩⟩
            go_wp2_with fail
            go_ret
            exact ⟨rfl, pw_below_drewN HS12.out.below _⟩
end Go.Proofs.Ytbgjpncnhhlljaa.Pure
