/- Steps that tell pixels. -/
import Derived.Test.YtnpmnfhmlnhepaaMcov0
namespace Go.Proofs.Ytnpmnfhmlnhepaa.P
open Go Go.RowKit Go.Proofs.YtnpmnfhmlnhepaaW.PrintWords Go.Proofs.YtnpmnfhmlnhepaaW.PrintLast Go.Proofs.YtnpmnfhmlnhepaaW.PrintMore Go.Proofs.Ytnpmnfhmlnhepaa.U
set_option linter.unusedVariables false
set_option linter.unusedSimpArgs false
attribute [local go_sem] max2_int min2_int max_two min_two max_three min_three max_four min_four
theorem bthen {w X w4 : World} (h1 : Below w.heap.size w X) (h2 : Below X.heap.size X w4) : Below w.heap.size w w4 := h1.trans (h2.mono h1.size)
set_option maxHeartbeats 4000000 in
set_option maxRecDepth 100000 in
theorem cover_no (A : Option Addr) (c : Nat) (pix : List Int) (bits : Int) (A2 : Option Addr) (c2 : Nat) (sp : List Sp) (w : World) (hr : Kd.C (Kd.int .u32) w A pix.length pix) (hc : pix.length ≤ c) (hr2 : Kd.C k45 w A2 sp.length sp) (hc2 : sp.length ≤ c2)
    (h : ¬ (bitsOk bits ∧ fitsAll pix 0 sp)) :
    Calls Try.prog 13 #[.slice A pix.length c, .int .i64 bits, .slice A2 sp.length c2] w fun e w' => e = .returned (.tuple #[.slice none 0 0, .int .i64 1]) ∧ Below w.heap.size w w' := by
  have hB := Below.refl w.heap.size w
  have HM := Aside0.mk (fun W => may_calls bits W)
  by_cases c1 : bitsOk bits
  · rw [decide_eq_true c1] at HM
    have HF := Aside0.mk (fun nd => Fits_calls A c pix A2 c2 sp (w.drewN nd) (Kd.C_drewN hr nd) hc (Kd.C_drewN hr2 nd) hc2)
    rw [decide_eq_false (fun hh => h ⟨c1, hh⟩)] at HF
    clear h c1 hr hr2
    go_enter Try.func13, Try.ntmps13
    go_wp2_with fail
    refine (HM.out _).mono ?_; rintro e w1 ⟨rfl, ⟨nd, rfl⟩⟩
    go_wp2_with fail
    refine (HF.out _).mono ?_; rintro e w2 ⟨rfl, hb⟩
    have HB := Aside0.mk (bthen (pw_below_drewN hB nd) hb); clear hb hB
    go_wp2_with fail
    go_ret2
    exact ⟨rfl, HB.out⟩
  · rw [decide_eq_false c1] at HM
    clear h c1 hr hr2
    go_enter Try.func13, Try.ntmps13
    go_wp2_with fail
    refine (HM.out _).mono ?_; rintro e w1 ⟨rfl, ⟨nd, rfl⟩⟩
    have hB2 := pw_below_drewN hB nd
    go_wp2_with fail
    go_ret2
    exact ⟨rfl, hB2⟩
theorem cutL_snoc {pix : List Int} {a j : Nat} (h : a + j < pix.length) : cutL pix a (j + 1) = cutL pix a j ++ [rd pix ((a + j : Nat) : Int)] := by
  unfold cutL
  have h2 : j < (pix.drop a).length := by rw [List.length_drop]; omega
  rw [List.take_succ_eq_append_getElem h2, List.getElem_drop, rd_nat' h]
theorem cover_end {bits : Int} {pix cl : List Int} {sp : List Sp} {d a : Nat} (h : pix.length ≤ a) : coverL bits pix d a cl sp = [] := by
  cases d with
  | zero => rfl
  | succ d => rw [coverL, if_neg (by omega)]
theorem cover_next {bits : Int} {pix cl : List Int} {sp rest : List Sp} {d a m : Nat} {t : Tk} (h : a < pix.length) (hn : nextT bits pix a cl sp = (t, m, rest)) : coverL bits pix (d + 1) a cl sp = t :: coverL bits pix d (a + m) (addsC bits cl (cutL pix a m)) rest := by
  rw [coverL, if_pos h, hn]
set_option maxHeartbeats 8000000 in
set_option maxRecDepth 100000 in
theorem cover_yes (A : Option Addr) (c : Nat) (pix : List Int) (bits : Int) (A2 : Option Addr) (c2 : Nat) (sp : List Sp) (w : World) (hr : Kd.C (Kd.int .u32) w A pix.length pix) (hc : pix.length ≤ c) (hr2 : Kd.C k45 w A2 sp.length sp) (hc2 : sp.length ≤ c2)
    (hb : bitsOk bits) (hf : fitsAll pix 0 sp) (hu : pixU pix) (hlen : pix.length ≤ 268435456) :
    Calls Try.prog 13 #[.slice A pix.length c, .int .i64 bits, .slice A2 sp.length c2] w fun e w' => ∃ v, e = .returned (.tuple #[v, .int .i64 0]) ∧ Kd.R k37 37 w' w.heap.size (fun _ => True) v (coverL bits pix pix.length 0 (startC bits) sp) ∧ Below w.heap.size w w' := by
  have hB := Below.refl w.heap.size w
  have HM := Aside0.mk (fun W => may_calls bits W)
  rw [decide_eq_true hb] at HM
  have HF := Aside0.mk (fun nd => Fits_calls A c pix A2 c2 sp (w.drewN nd) (Kd.C_drewN hr nd) hc (Kd.C_drewN hr2 nd) hc2)
  rw [decide_eq_true hf] at HF
  obtain ⟨TOT, hTOT⟩ : ∃ TOT, TOT = coverL bits pix pix.length 0 (startC bits) sp := ⟨_, rfl⟩
  rw [← hTOT]
  have HEACH := Aside0.mk (fitsAll_each hf)
  have HR := Aside0.mk hr
  have HR2 := Aside0.mk hr2
  have HB := Aside0.mk hb
  have HU := Aside0.mk hu
  have HTOT := Aside0.mk hTOT
  have HS0 := Aside0.mk (St.refl w)
  clear hr hr2 hb hf hu hTOT hB
  go_enter Try.func13, Try.ntmps13
  go_wp2_with fail
  refine (HM.out _).mono ?_; rintro e w1 ⟨rfl, ⟨nd, rfl⟩⟩
  go_wp2_with fail
  refine (HF.out _).mono ?_; rintro e w2 ⟨rfl, hb⟩
  have HS1 := Aside0.mk ((HS0.out.drewN nd).belowR hb); clear hb HF HM
  go_wp2_with fail
  refine (cacheO_New bits _ w w2 HB.out HS1.out).mono ?_; rintro e w3 ⟨P, ex, rfl, hs⟩
  have HS2 := Aside0.mk ((hs.rowNil 37 5)); clear hs HS1 HS0
  go_wp2_with fail
  go_loopw [2, 10, 11] (fun spv ov i wr => ∃ (a d : Nat) (cl : List Int) (sq : List Sp) (out : List Tk) (A' : Option Addr) (c' : Nat) (B : Option Addr) (cB : Nat),
    a ≤ pix.length ∧ out.length ≤ a ∧ spv = .slice A' sq.length c' ∧ ov = .slice B out.length cB ∧ i = .int .i64 a ∧ clOk bits cl ∧ (∀ s ∈ sq, s ∈ sp) ∧ Kd.C k45 w A' sq.length sq ∧ sq.length ≤ c' ∧
    pix.length ≤ a + d ∧ out ++ coverL bits pix d a cl sq = TOT ∧ St w wr (Asrt.row 37 5 (.slice B out.length cB) out.length (outC out) * (cacheO P bits cl * Asrt.emp))) (fun _ _ i _ => pix.length - (intOf i).toNat)
  case atStart => exact ⟨0, pix.length, startC bits, sp, [], A2, c2, none, 0, by omega, by simp, rfl, rfl, rfl, clOk_start HB.out, fun s h => h, HR2.out, hc2, by omega, by rw [HTOT.out]; rfl, HS2.out⟩
  case round =>
    obtain ⟨a, d, cl, sq, out, A', c', B, cB, ha, hoa, rfl, rfl, rfl, hcl, hsub, hCs, hcs, had, htot, hs⟩ := hrel
    clear HS2
    by_cases hlt : a < pix.length
    case neg =>
      have y1 : decide ((a : Int) < pix.length) = false := decide_eq_false (by omega)
      have y2 : decide (a < pix.length) = false := decide_eq_false hlt
      rw [cover_end (by omega), List.append_nil] at htot
      have HO := Aside0.mk (outC_R hs rfl)
      have HBB := Aside0.mk hs.below
      have HT := Aside0.mk htot
      clear hs hlt had htot hcl hsub hCs
      go_wp2_with fail
      go_ret2
      exact ⟨_, rfl, HT.out ▸ HO.out, HBB.out⟩
    obtain ⟨ad, hA⟩ : ∃ ad, A = some ad := by
      obtain ⟨ad, h, _⟩ := HR.out.2.2 (by omega)
      exact ⟨ad, h⟩
    subst hA
    have y1 : decide ((a : Int) < pix.length) = true := decide_eq_true (by omega)
    have y2 : decide (a < pix.length) = true := decide_eq_true hlt
    have y3 : (a < pix.length) = True := eq_true hlt
    have y4 : ((a : Int) < pix.length) = True := eq_true (by omega)
    obtain ⟨D, rfl⟩ : ∃ D, d = D + 1 := ⟨d - 1, by omega⟩
    have hcell : ∀ j : Nat, j < pix.length → w.cell? (ad.add j) = some (.int .u32 (rd pix j)) := by
      obtain ⟨ad', he, hc⟩ := C_int_at HR.out (by omega)
      injection he with he
      subst he
      exact hc
    have hca := (hs.below.cell (World.block_lt_of_cell? _ _ (hcell a hlt))).trans (hcell a hlt)
    have hua : U32 (rd pix (a : Int)) := HU.out _ (rd_mem (by omega) (by omega))
    have hbytes : (out.length + 1) * 40 ≤ 140737488355328 := by omega
    have HFIND := Aside0.mk (cacheO_Find P bits (rd pix (a : Int)) cl _ w wr hcl hua hs.swap)
    have HCELL := Aside0.mk hcell
    have HCL := Aside0.mk hcl
    have HOA := Aside0.mk hoa
    have HAD := Aside0.mk had
    have HLT := Aside0.mk hlt
    have HSN := Aside0.mk hs
    have one : 1 ≤ 1 ∧ a + 1 ≤ pix.length ∧ 1 ≤ 4096 := ⟨Nat.le_refl 1, hlt, by decide⟩
    have mm : ∀ m : Nat, 1 ≤ m ∧ a + m ≤ pix.length ∧ m ≤ 4096 → wrap64 ((a : Int) + m) = (a : Int) + m ∧ ((a : Int) ≤ (a : Int) + m ∧ (a : Int) + m ≤ c ∧ ((a : Int) + m).toNat = a + m ∧ ¬ c = a) ∧ (a : Int) + m ≤ pix.length := by
      intro m hm
      obtain ⟨h1, _, _, h4, _, h6, _⟩ := fits_sums (a := a) (m := m) (b := a) (c := c) (L := pix.length) (dist := 0) (by omega) hm.1 hm.2.2 hm.2.1 (Nat.le_refl _) hc (by omega)
      exact ⟨h1, h4, h6⟩
    have MM := Aside0.mk mm
    clear hcell hcl hoa had hs hua mm
    have split : (sq = []) ∨ (∃ s rest, sq = s :: rest ∧ s.f0 = a) ∨ (∃ s rest, sq = s :: rest ∧ ¬ s.f0 = a) := by
      cases sq with
      | nil => exact .inl rfl
      | cons s rest =>
        by_cases hs0 : s.f0 = a
        · exact .inr (.inl ⟨s, rest, rfl, hs0⟩)
        · exact .inr (.inr ⟨s, rest, rfl, hs0⟩)
    rcases split with rfl | ⟨s, rest, rfl, hns⟩ | ⟨s, rest, rfl, hns⟩
    · cases hfd : findC bits (rd pix (a : Int)) cl with
      | none =>
        rw [hfd] at HFIND
        obtain ⟨b1, ⟨b2, b3, b4, b5⟩, b6⟩ := MM.out 1 one
        have b7 := i64_w ((a : Int) + (1 : Nat)); rw [b1] at b7
        simp only [Int.natCast_one] at b1 b2 b3 b4 b6 b7
        have HMF := Aside0.mk one
        have hnx : nextT bits pix a cl ([]) = (litT (rd pix (a : Int)), 1, []) := by unfold nextT; simp only []; rw [hfd]
        rw [cover_next hlt hnx] at htot
        have HTT := Aside0.mk htot
        have HSUB := Aside0.mk hsub
        have HCS := Aside0.mk hCs
        have HCC := Aside0.mk hcs
        clear htot hsub hnx hlt one hCs
        go_wp2_with fail
        refine HFIND.out.mono ?_; rintro e w4 ⟨rfl, ⟨nf, rfl⟩⟩
        have HSL := Aside0.mk (((HSN.out.drewN nf).allocCells 37 5 1 (tkC (litT (rd pix (a : Int)))) rfl (by decide)).swap)
        go_wp2_with (at_builtin; refine St.append_cells (w0 := w) rfl (.tmp 44) (.tmp 50) 22 37 (.agg #[.int .i64 0, .int .i64 0, .int .i64 0, .int .i64 0, .int .u32 0]) 5 40 rfl Try.underlying22 (by kernel_rfl) rfl (by decide) (by decide) _ out.length (outC out) (tkC (litT (rd pix (a : Int)))) (some ⟨_, 0, none⟩) 1 1 rfl rfl HSL.out (rowReadsC HSL.out.swap (by simp [tkC, Value.oneCell'])) hbytes ?_; intro B1 cB1 w5 hs; rw [← outC_snoc] at hs; have HSP := Aside0.mk hs.swap.drop; clear hs)
        have HS3 := Aside0.mk HSP.out.swap
        clear HSL HSP HSN HFIND
        go_loopw [93] (fun jv wr => ∃ j : Nat, j ≤ 1 ∧ jv = .int .i64 j ∧ St w wr (cacheO P bits (addsC bits cl (cutL pix a j)) * (Asrt.row 37 5 (.slice B1 (out.length + 1) cB1) (out.length + 1) (outC (out ++ [litT (rd pix (a : Int))])) * Asrt.emp))) (fun jv _ => 1 - (intOf jv).toNat)
        case atStart => exact ⟨0, Nat.zero_le _, rfl, HS3.out⟩
        case round =>
          obtain ⟨j, hj, rfl, hs⟩ := hrel
          clear HS3
          by_cases hjm : j < 1
          · have x1 : decide ((j : Int) < 1) = true := decide_eq_true (by omega)
            have x2 : decide (j < 1) = true := decide_eq_true hjm
            have x3 : (j < 1) = True := eq_true hjm
            have x4 : ((j : Int) < 1) = True := eq_true (by omega)
            have hjl : a + j < pix.length := by have := HMF.out.2.1; omega
            have hcc := (hs.below.cell (World.block_lt_of_cell? _ _ (HCELL.out (a + j) hjl))).trans (HCELL.out (a + j) hjl)
            rw [← Addr.add_add] at hcc
            have hstep : addsC bits cl (cutL pix a (j + 1)) = addC bits (addsC bits cl (cutL pix a j)) (rd pix ((a + j : Nat) : Int)) := by rw [cutL_snoc hjl, adds_snoc]
            have hUx : U32 (rd pix ((a + j : Nat) : Int)) := HU.out _ (rd_mem (by omega) (by omega))
            have hok : clOk bits (addsC bits cl (cutL pix a j)) := clOk_adds HCL.out fun x hx => HU.out x (List.mem_of_mem_drop (List.mem_of_mem_take hx))
            have HST := Aside0.mk hstep
            have HUX := Aside0.mk hUx
            have HOK := Aside0.mk hok
            have HJ := Aside0.mk hjm
            have HSJ := Aside0.mk hs
            have jb : j ≤ 268435456 := by have := HMF.out.2.1; omega
            clear hstep hUx hok hjm hs hjl hj
            go_wp2_with fail
            refine (cacheO_Add P bits (rd pix ((a + j : Nat) : Int)) _ _ w _ HOK.out HUX.out HSJ.out).mono ?_; rintro e w6 ⟨rfl, hs⟩
            have HS6 := Aside0.mk hs; clear hs
            go_wp2_with fail
            go_roundw
            case rel => exact ⟨j + 1, HJ.out, by go_num, by rw [HST.out]; exact HS6.out⟩
            case measure => have := HJ.out; simp [intOf]; omega
          · have x1 : decide ((j : Int) < 1) = false := decide_eq_false (by omega)
            have x2 : decide (j < 1) = false := decide_eq_false hjm
            have hje : 1 = j := by omega
            subst hje
            have HSJ := Aside0.mk hs.swap
            have HOK : Aside0 (clOk bits (addsC bits cl (cutL pix a 1))) := ⟨clOk_adds HCL.out fun x hx => HU.out x (List.mem_of_mem_drop (List.mem_of_mem_take hx))⟩
            clear hs hjm hj
            go_wp2_with fail
            all_goals
              go_roundw
              case rel =>
                have hl1 : (out ++ [litT (rd pix (a : Int))]).length = out.length + 1 := by simp
                refine ⟨a + 1, D, addsC bits cl (cutL pix a 1), [], out ++ [litT (rd pix (a : Int))], A', c', B1, cB1, HMF.out.2.1, ?_, ?_, ?_, ?_, HOK.out, HSUB.out, HCS.out, HCC.out, ?_, ?_, ?_⟩
                · rw [hl1]; have := HMF.out.1; have := HOA.out; omega
                · first | rfl | simp
                · rw [hl1]
                · first | rfl | go_num
                · have := HAD.out; have := HMF.out.1; omega
                · rw [List.append_assoc]; exact HTT.out
                · rw [hl1]; exact HSJ.out
              case measure => have := HMF.out.1; have := HMF.out.2.1; have := HLT.out; simp [intOf]; omega
      | some i0 =>
        rw [hfd] at HFIND
        obtain ⟨b1, ⟨b2, b3, b4, b5⟩, b6⟩ := MM.out 1 one
        have b7 := i64_w ((a : Int) + (1 : Nat)); rw [b1] at b7
        simp only [Int.natCast_one] at b1 b2 b3 b4 b6 b7
        have HMF := Aside0.mk one
        have hnx : nextT bits pix a cl ([]) = (knownT i0, 1, []) := by unfold nextT; simp only []; rw [hfd]
        rw [cover_next hlt hnx] at htot
        have HTT := Aside0.mk htot
        have HSUB := Aside0.mk hsub
        have HCS := Aside0.mk hCs
        have HCC := Aside0.mk hcs
        clear htot hsub hnx hlt one hCs
        go_wp2_with fail
        refine HFIND.out.mono ?_; rintro e w4 ⟨rfl, ⟨nf, rfl⟩⟩
        have HSL := Aside0.mk (((HSN.out.drewN nf).allocCells 37 5 1 (tkC (knownT i0)) rfl (by decide)).swap)
        go_wp2_with (at_builtin; refine St.append_cells (w0 := w) rfl (.tmp 81) (.tmp 84) 22 37 (.agg #[.int .i64 0, .int .i64 0, .int .i64 0, .int .i64 0, .int .u32 0]) 5 40 rfl Try.underlying22 (by kernel_rfl) rfl (by decide) (by decide) _ out.length (outC out) (tkC (knownT i0)) (some ⟨_, 0, none⟩) 1 1 rfl rfl HSL.out (rowReadsC HSL.out.swap (by simp [tkC, Value.oneCell'])) hbytes ?_; intro B1 cB1 w5 hs; rw [← outC_snoc] at hs; have HSP := Aside0.mk hs.swap.drop; clear hs)
        have HS3 := Aside0.mk HSP.out.swap
        clear HSL HSP HSN HFIND
        go_loopw [93] (fun jv wr => ∃ j : Nat, j ≤ 1 ∧ jv = .int .i64 j ∧ St w wr (cacheO P bits (addsC bits cl (cutL pix a j)) * (Asrt.row 37 5 (.slice B1 (out.length + 1) cB1) (out.length + 1) (outC (out ++ [knownT i0])) * Asrt.emp))) (fun jv _ => 1 - (intOf jv).toNat)
        case atStart => exact ⟨0, Nat.zero_le _, rfl, HS3.out⟩
        case round =>
          obtain ⟨j, hj, rfl, hs⟩ := hrel
          clear HS3
          by_cases hjm : j < 1
          · have x1 : decide ((j : Int) < 1) = true := decide_eq_true (by omega)
            have x2 : decide (j < 1) = true := decide_eq_true hjm
            have x3 : (j < 1) = True := eq_true hjm
            have x4 : ((j : Int) < 1) = True := eq_true (by omega)
            have hjl : a + j < pix.length := by have := HMF.out.2.1; omega
            have hcc := (hs.below.cell (World.block_lt_of_cell? _ _ (HCELL.out (a + j) hjl))).trans (HCELL.out (a + j) hjl)
            rw [← Addr.add_add] at hcc
            have hstep : addsC bits cl (cutL pix a (j + 1)) = addC bits (addsC bits cl (cutL pix a j)) (rd pix ((a + j : Nat) : Int)) := by rw [cutL_snoc hjl, adds_snoc]
            have hUx : U32 (rd pix ((a + j : Nat) : Int)) := HU.out _ (rd_mem (by omega) (by omega))
            have hok : clOk bits (addsC bits cl (cutL pix a j)) := clOk_adds HCL.out fun x hx => HU.out x (List.mem_of_mem_drop (List.mem_of_mem_take hx))
            have HST := Aside0.mk hstep
            have HUX := Aside0.mk hUx
            have HOK := Aside0.mk hok
            have HJ := Aside0.mk hjm
            have HSJ := Aside0.mk hs
            have jb : j ≤ 268435456 := by have := HMF.out.2.1; omega
            clear hstep hUx hok hjm hs hjl hj
            go_wp2_with fail
            refine (cacheO_Add P bits (rd pix ((a + j : Nat) : Int)) _ _ w _ HOK.out HUX.out HSJ.out).mono ?_; rintro e w6 ⟨rfl, hs⟩
            have HS6 := Aside0.mk hs; clear hs
            go_wp2_with fail
            go_roundw
            case rel => exact ⟨j + 1, HJ.out, by go_num, by rw [HST.out]; exact HS6.out⟩
            case measure => have := HJ.out; simp [intOf]; omega
          · have x1 : decide ((j : Int) < 1) = false := decide_eq_false (by omega)
            have x2 : decide (j < 1) = false := decide_eq_false hjm
            have hje : 1 = j := by omega
            subst hje
            have HSJ := Aside0.mk hs.swap
            have HOK : Aside0 (clOk bits (addsC bits cl (cutL pix a 1))) := ⟨clOk_adds HCL.out fun x hx => HU.out x (List.mem_of_mem_drop (List.mem_of_mem_take hx))⟩
            clear hs hjm hj
            go_wp2_with fail
            all_goals
              go_roundw
              case rel =>
                have hl1 : (out ++ [knownT i0]).length = out.length + 1 := by simp
                refine ⟨a + 1, D, addsC bits cl (cutL pix a 1), [], out ++ [knownT i0], A', c', B1, cB1, HMF.out.2.1, ?_, ?_, ?_, ?_, HOK.out, HSUB.out, HCS.out, HCC.out, ?_, ?_, ?_⟩
                · rw [hl1]; have := HMF.out.1; have := HOA.out; omega
                · first | rfl | simp
                · rw [hl1]
                · first | rfl | go_num
                · have := HAD.out; have := HMF.out.1; omega
                · rw [List.append_assoc]; exact HTT.out
                · rw [hl1]; exact HSJ.out
              case measure => have := HMF.out.1; have := HMF.out.2.1; have := HLT.out; simp [intOf]; omega
    · generalize hfd : findC bits (rd pix (a : Int)) cl = fd at HFIND
      clear hfd
      obtain ⟨ad2, hA2⟩ : ∃ ad2, A' = some ad2 := by
        obtain ⟨ad2, h, _⟩ := hCs.2.2 (by simp)
        exact ⟨ad2, h⟩
      subst hA2
      obtain ⟨ad3, he3, s0, s1, s2⟩ := at_T45 hCs 0 (by omega) (by simp)
      injection he3 with he3
      subst he3
      have hrd0 : rd_T45 (s :: rest) 0 = s := rfl
      have had0 : ad2.add ((0 : Int).toNat * 3) = ad2 := by unfold Addr.add; simp
      rw [hrd0, had0] at s0 s1 s2
      have s0' := ((HSN.out.below.cell (World.block_lt_of_cell? _ _ s0)).trans s0)
      have s1' := ((HSN.out.below.cell (World.block_lt_of_cell? _ _ s1)).trans s1)
      have s2' := ((HSN.out.below.cell (World.block_lt_of_cell? _ _ s2)).trans s2)
      clear s0 s1 s2 hrd0 had0
      have l1 : decide ((0 : Int) < ((s :: rest).length : Nat)) = true := decide_eq_true (by simp)
      have l2 : (s :: rest).length = rest.length + 1 := rfl
      have l3 : decide ((0 : Int) < (rest.length : Int) + 1) = true := decide_eq_true (by omega)
      have l4 : ((0 : Int) < (rest.length : Int) + 1) = True := eq_true (by omega)
      rw [l2] at hcs
      have hfit := HEACH.out s (hsub s List.mem_cons_self)
      obtain ⟨M, hM⟩ := Int.eq_ofNat_of_zero_le (show 0 ≤ s.f1 by have := hfit.1.1; omega)
      have hmf : 1 ≤ M ∧ a + M ≤ pix.length ∧ M ≤ 4096 := by have := hfit.1; omega
      have z0 : (s.f0 == (a : Int)) = true := by simp [hns]
      have hnx : nextT bits pix a cl (s :: rest) = (copyT M s.f2, M, rest) := by
        unfold nextT
        simp only [if_pos hns]
        rw [hM]
        rfl
      rw [hM] at s1'
      obtain ⟨b1, ⟨b2, b3, b4, b5⟩, b6⟩ := MM.out M hmf
      have b7 := i64_w ((a : Int) + M); rw [b1] at b7
      have HMF := Aside0.mk hmf
      rw [cover_next hlt hnx] at htot
      have HTT := Aside0.mk htot
      have HSUB := Aside0.mk (fun t (ht : t ∈ rest) => hsub t (List.mem_cons_of_mem _ ht))
      have hcut := Kd.C_drop (c := c') (m := 1) hCs (by simp) hcs
      have hca1 : 1 ≤ c' := by omega
      have hcr : rest.length ≤ c' - 1 := by omega
      have HCC := Aside0.mk hcr
      have mb : M ≤ 4096 := hmf.2.2
      have hdr : (s :: rest).drop 1 = rest := rfl
      rw [hdr] at hcut
      clear htot hsub hnx hlt one hCs hns hfit hM hmf hcr hcs hdr
      by_cases hc1 : c' = 1
      · rw [if_pos hc1] at hcut
        subst hc1
        have HCS := Aside0.mk hcut
        clear hcut
        go_wp2_with fail
        refine HFIND.out.mono ?_; rintro e w4 ⟨rfl, ⟨nf, rfl⟩⟩
        have HSL := Aside0.mk (((HSN.out.drewN nf).allocCells 37 5 1 (tkC (copyT M s.f2)) rfl (by decide)).swap)
        go_wp2_with (at_builtin; refine St.append_cells (w0 := w) rfl (.tmp 68) (.tmp 75) 22 37 (.agg #[.int .i64 0, .int .i64 0, .int .i64 0, .int .i64 0, .int .u32 0]) 5 40 rfl Try.underlying22 (by kernel_rfl) rfl (by decide) (by decide) _ out.length (outC out) (tkC (copyT M s.f2)) (some ⟨_, 0, none⟩) 1 1 rfl rfl HSL.out (rowReadsC HSL.out.swap (by simp [tkC, Value.oneCell'])) hbytes ?_; intro B1 cB1 w5 hs; rw [← outC_snoc] at hs; have HSP := Aside0.mk hs.swap.drop; clear hs)
        have HS3 := Aside0.mk HSP.out.swap
        clear HSL HSP HSN HFIND
        go_loopw [93] (fun jv wr => ∃ j : Nat, j ≤ M ∧ jv = .int .i64 j ∧ St w wr (cacheO P bits (addsC bits cl (cutL pix a j)) * (Asrt.row 37 5 (.slice B1 (out.length + 1) cB1) (out.length + 1) (outC (out ++ [copyT M s.f2])) * Asrt.emp))) (fun jv _ => M - (intOf jv).toNat)
        case atStart => exact ⟨0, Nat.zero_le _, rfl, HS3.out⟩
        case round =>
          obtain ⟨j, hj, rfl, hs⟩ := hrel
          clear HS3
          by_cases hjm : j < M
          · have x1 : decide ((j : Int) < (M : Nat)) = true := decide_eq_true (by omega)
            have x2 : decide (j < M) = true := decide_eq_true hjm
            have x3 : (j < M) = True := eq_true hjm
            have x4 : ((j : Int) < (M : Nat)) = True := eq_true (by omega)
            have hjl : a + j < pix.length := by have := HMF.out.2.1; omega
            have hcc := (hs.below.cell (World.block_lt_of_cell? _ _ (HCELL.out (a + j) hjl))).trans (HCELL.out (a + j) hjl)
            rw [← Addr.add_add] at hcc
            have hstep : addsC bits cl (cutL pix a (j + 1)) = addC bits (addsC bits cl (cutL pix a j)) (rd pix ((a + j : Nat) : Int)) := by rw [cutL_snoc hjl, adds_snoc]
            have hUx : U32 (rd pix ((a + j : Nat) : Int)) := HU.out _ (rd_mem (by omega) (by omega))
            have hok : clOk bits (addsC bits cl (cutL pix a j)) := clOk_adds HCL.out fun x hx => HU.out x (List.mem_of_mem_drop (List.mem_of_mem_take hx))
            have HST := Aside0.mk hstep
            have HUX := Aside0.mk hUx
            have HOK := Aside0.mk hok
            have HJ := Aside0.mk hjm
            have HSJ := Aside0.mk hs
            have jb : j ≤ 268435456 := by have := HMF.out.2.1; omega
            clear hstep hUx hok hjm hs hjl hj
            go_wp2_with fail
            refine (cacheO_Add P bits (rd pix ((a + j : Nat) : Int)) _ _ w _ HOK.out HUX.out HSJ.out).mono ?_; rintro e w6 ⟨rfl, hs⟩
            have HS6 := Aside0.mk hs; clear hs
            go_wp2_with fail
            go_roundw
            case rel => exact ⟨j + 1, HJ.out, by go_num, by rw [HST.out]; exact HS6.out⟩
            case measure => have := HJ.out; simp [intOf]; omega
          · have x1 : decide ((j : Int) < (M : Nat)) = false := decide_eq_false (by omega)
            have x2 : decide (j < M) = false := decide_eq_false hjm
            have hje : M = j := by omega
            subst hje
            have HSJ := Aside0.mk hs.swap
            have HOK : Aside0 (clOk bits (addsC bits cl (cutL pix a M))) := ⟨clOk_adds HCL.out fun x hx => HU.out x (List.mem_of_mem_drop (List.mem_of_mem_take hx))⟩
            clear hs hjm hj
            go_wp2_with fail
            all_goals
              go_roundw
              case rel =>
                have hl1 : (out ++ [copyT M s.f2]).length = out.length + 1 := by simp
                refine ⟨a + M, D, addsC bits cl (cutL pix a M), rest, out ++ [copyT M s.f2], some ad2, 0, B1, cB1, HMF.out.2.1, ?_, ?_, ?_, ?_, HOK.out, HSUB.out, HCS.out, HCC.out, ?_, ?_, ?_⟩
                · rw [hl1]; have := HMF.out.1; have := HOA.out; omega
                · first | rfl | simp
                · rw [hl1]
                · first | rfl | go_num
                · have := HAD.out; have := HMF.out.1; omega
                · rw [List.append_assoc]; exact HTT.out
                · rw [hl1]; exact HSJ.out
              case measure => have := HMF.out.1; have := HMF.out.2.1; have := HLT.out; simp [intOf]; omega
      · rw [if_neg hc1] at hcut
        have HCS := Aside0.mk hcut
        clear hcut
        go_wp2_with fail
        refine HFIND.out.mono ?_; rintro e w4 ⟨rfl, ⟨nf, rfl⟩⟩
        have HSL := Aside0.mk (((HSN.out.drewN nf).allocCells 37 5 1 (tkC (copyT M s.f2)) rfl (by decide)).swap)
        go_wp2_with (at_builtin; refine St.append_cells (w0 := w) rfl (.tmp 68) (.tmp 75) 22 37 (.agg #[.int .i64 0, .int .i64 0, .int .i64 0, .int .i64 0, .int .u32 0]) 5 40 rfl Try.underlying22 (by kernel_rfl) rfl (by decide) (by decide) _ out.length (outC out) (tkC (copyT M s.f2)) (some ⟨_, 0, none⟩) 1 1 rfl rfl HSL.out (rowReadsC HSL.out.swap (by simp [tkC, Value.oneCell'])) hbytes ?_; intro B1 cB1 w5 hs; rw [← outC_snoc] at hs; have HSP := Aside0.mk hs.swap.drop; clear hs)
        have HS3 := Aside0.mk HSP.out.swap
        clear HSL HSP HSN HFIND
        go_loopw [93] (fun jv wr => ∃ j : Nat, j ≤ M ∧ jv = .int .i64 j ∧ St w wr (cacheO P bits (addsC bits cl (cutL pix a j)) * (Asrt.row 37 5 (.slice B1 (out.length + 1) cB1) (out.length + 1) (outC (out ++ [copyT M s.f2])) * Asrt.emp))) (fun jv _ => M - (intOf jv).toNat)
        case atStart => exact ⟨0, Nat.zero_le _, rfl, HS3.out⟩
        case round =>
          obtain ⟨j, hj, rfl, hs⟩ := hrel
          clear HS3
          by_cases hjm : j < M
          · have x1 : decide ((j : Int) < (M : Nat)) = true := decide_eq_true (by omega)
            have x2 : decide (j < M) = true := decide_eq_true hjm
            have x3 : (j < M) = True := eq_true hjm
            have x4 : ((j : Int) < (M : Nat)) = True := eq_true (by omega)
            have hjl : a + j < pix.length := by have := HMF.out.2.1; omega
            have hcc := (hs.below.cell (World.block_lt_of_cell? _ _ (HCELL.out (a + j) hjl))).trans (HCELL.out (a + j) hjl)
            rw [← Addr.add_add] at hcc
            have hstep : addsC bits cl (cutL pix a (j + 1)) = addC bits (addsC bits cl (cutL pix a j)) (rd pix ((a + j : Nat) : Int)) := by rw [cutL_snoc hjl, adds_snoc]
            have hUx : U32 (rd pix ((a + j : Nat) : Int)) := HU.out _ (rd_mem (by omega) (by omega))
            have hok : clOk bits (addsC bits cl (cutL pix a j)) := clOk_adds HCL.out fun x hx => HU.out x (List.mem_of_mem_drop (List.mem_of_mem_take hx))
            have HST := Aside0.mk hstep
            have HUX := Aside0.mk hUx
            have HOK := Aside0.mk hok
            have HJ := Aside0.mk hjm
            have HSJ := Aside0.mk hs
            have jb : j ≤ 268435456 := by have := HMF.out.2.1; omega
            clear hstep hUx hok hjm hs hjl hj
            go_wp2_with fail
            refine (cacheO_Add P bits (rd pix ((a + j : Nat) : Int)) _ _ w _ HOK.out HUX.out HSJ.out).mono ?_; rintro e w6 ⟨rfl, hs⟩
            have HS6 := Aside0.mk hs; clear hs
            go_wp2_with fail
            go_roundw
            case rel => exact ⟨j + 1, HJ.out, by go_num, by rw [HST.out]; exact HS6.out⟩
            case measure => have := HJ.out; simp [intOf]; omega
          · have x1 : decide ((j : Int) < (M : Nat)) = false := decide_eq_false (by omega)
            have x2 : decide (j < M) = false := decide_eq_false hjm
            have hje : M = j := by omega
            subst hje
            have HSJ := Aside0.mk hs.swap
            have HOK : Aside0 (clOk bits (addsC bits cl (cutL pix a M))) := ⟨clOk_adds HCL.out fun x hx => HU.out x (List.mem_of_mem_drop (List.mem_of_mem_take hx))⟩
            clear hs hjm hj
            go_wp2_with fail
            all_goals
              go_roundw
              case rel =>
                have hl1 : (out ++ [copyT M s.f2]).length = out.length + 1 := by simp
                refine ⟨a + M, D, addsC bits cl (cutL pix a M), rest, out ++ [copyT M s.f2], some (ad2.add 3), (c' - 1), B1, cB1, HMF.out.2.1, ?_, ?_, ?_, ?_, HOK.out, HSUB.out, HCS.out, HCC.out, ?_, ?_, ?_⟩
                · rw [hl1]; have := HMF.out.1; have := HOA.out; omega
                · first | rfl | simp
                · rw [hl1]
                · first | rfl | go_num
                · have := HAD.out; have := HMF.out.1; omega
                · rw [List.append_assoc]; exact HTT.out
                · rw [hl1]; exact HSJ.out
              case measure => have := HMF.out.1; have := HMF.out.2.1; have := HLT.out; simp [intOf]; omega
    · cases hfd : findC bits (rd pix (a : Int)) cl with
      | none =>
        rw [hfd] at HFIND
        obtain ⟨b1, ⟨b2, b3, b4, b5⟩, b6⟩ := MM.out 1 one
        have b7 := i64_w ((a : Int) + (1 : Nat)); rw [b1] at b7
        simp only [Int.natCast_one] at b1 b2 b3 b4 b6 b7
        have HMF := Aside0.mk one
        obtain ⟨ad2, hA2⟩ : ∃ ad2, A' = some ad2 := by
          obtain ⟨ad2, h, _⟩ := hCs.2.2 (by simp)
          exact ⟨ad2, h⟩
        subst hA2
        obtain ⟨ad3, he3, s0, s1, s2⟩ := at_T45 hCs 0 (by omega) (by simp)
        injection he3 with he3
        subst he3
        have hrd0 : rd_T45 (s :: rest) 0 = s := rfl
        have had0 : ad2.add ((0 : Int).toNat * 3) = ad2 := by unfold Addr.add; simp
        rw [hrd0, had0] at s0 s1 s2
        have s0' := ((HSN.out.below.cell (World.block_lt_of_cell? _ _ s0)).trans s0)
        have s1' := ((HSN.out.below.cell (World.block_lt_of_cell? _ _ s1)).trans s1)
        have s2' := ((HSN.out.below.cell (World.block_lt_of_cell? _ _ s2)).trans s2)
        clear s0 s1 s2 hrd0 had0
        have l1 : decide ((0 : Int) < ((s :: rest).length : Nat)) = true := decide_eq_true (by simp)
        have l2 : (s :: rest).length = rest.length + 1 := rfl
        have l3 : decide ((0 : Int) < (rest.length : Int) + 1) = true := decide_eq_true (by omega)
        have l4 : ((0 : Int) < (rest.length : Int) + 1) = True := eq_true (by omega)
        rw [l2] at hcs
        have z0 : (s.f0 == (a : Int)) = false := by simp [hns]
        have hnx : nextT bits pix a cl (s :: rest) = (litT (rd pix (a : Int)), 1, s :: rest) := by unfold nextT; simp only [if_neg hns]; rw [hfd]
        rw [cover_next hlt hnx] at htot
        have HTT := Aside0.mk htot
        have HSUB := Aside0.mk hsub
        have HCS := Aside0.mk hCs
        have HCC := Aside0.mk hcs
        clear htot hsub hnx hlt one hCs hns
        go_wp2_with fail
        refine HFIND.out.mono ?_; rintro e w4 ⟨rfl, ⟨nf, rfl⟩⟩
        have HSL := Aside0.mk (((HSN.out.drewN nf).allocCells 37 5 1 (tkC (litT (rd pix (a : Int)))) rfl (by decide)).swap)
        go_wp2_with (at_builtin; refine St.append_cells (w0 := w) rfl (.tmp 44) (.tmp 50) 22 37 (.agg #[.int .i64 0, .int .i64 0, .int .i64 0, .int .i64 0, .int .u32 0]) 5 40 rfl Try.underlying22 (by kernel_rfl) rfl (by decide) (by decide) _ out.length (outC out) (tkC (litT (rd pix (a : Int)))) (some ⟨_, 0, none⟩) 1 1 rfl rfl HSL.out (rowReadsC HSL.out.swap (by simp [tkC, Value.oneCell'])) hbytes ?_; intro B1 cB1 w5 hs; rw [← outC_snoc] at hs; have HSP := Aside0.mk hs.swap.drop; clear hs)
        have HS3 := Aside0.mk HSP.out.swap
        clear HSL HSP HSN HFIND
        go_loopw [93] (fun jv wr => ∃ j : Nat, j ≤ 1 ∧ jv = .int .i64 j ∧ St w wr (cacheO P bits (addsC bits cl (cutL pix a j)) * (Asrt.row 37 5 (.slice B1 (out.length + 1) cB1) (out.length + 1) (outC (out ++ [litT (rd pix (a : Int))])) * Asrt.emp))) (fun jv _ => 1 - (intOf jv).toNat)
        case atStart => exact ⟨0, Nat.zero_le _, rfl, HS3.out⟩
        case round =>
          obtain ⟨j, hj, rfl, hs⟩ := hrel
          clear HS3
          by_cases hjm : j < 1
          · have x1 : decide ((j : Int) < 1) = true := decide_eq_true (by omega)
            have x2 : decide (j < 1) = true := decide_eq_true hjm
            have x3 : (j < 1) = True := eq_true hjm
            have x4 : ((j : Int) < 1) = True := eq_true (by omega)
            have hjl : a + j < pix.length := by have := HMF.out.2.1; omega
            have hcc := (hs.below.cell (World.block_lt_of_cell? _ _ (HCELL.out (a + j) hjl))).trans (HCELL.out (a + j) hjl)
            rw [← Addr.add_add] at hcc
            have hstep : addsC bits cl (cutL pix a (j + 1)) = addC bits (addsC bits cl (cutL pix a j)) (rd pix ((a + j : Nat) : Int)) := by rw [cutL_snoc hjl, adds_snoc]
            have hUx : U32 (rd pix ((a + j : Nat) : Int)) := HU.out _ (rd_mem (by omega) (by omega))
            have hok : clOk bits (addsC bits cl (cutL pix a j)) := clOk_adds HCL.out fun x hx => HU.out x (List.mem_of_mem_drop (List.mem_of_mem_take hx))
            have HST := Aside0.mk hstep
            have HUX := Aside0.mk hUx
            have HOK := Aside0.mk hok
            have HJ := Aside0.mk hjm
            have HSJ := Aside0.mk hs
            have jb : j ≤ 268435456 := by have := HMF.out.2.1; omega
            clear hstep hUx hok hjm hs hjl hj
            go_wp2_with fail
            refine (cacheO_Add P bits (rd pix ((a + j : Nat) : Int)) _ _ w _ HOK.out HUX.out HSJ.out).mono ?_; rintro e w6 ⟨rfl, hs⟩
            have HS6 := Aside0.mk hs; clear hs
            go_wp2_with fail
            go_roundw
            case rel => exact ⟨j + 1, HJ.out, by go_num, by rw [HST.out]; exact HS6.out⟩
            case measure => have := HJ.out; simp [intOf]; omega
          · have x1 : decide ((j : Int) < 1) = false := decide_eq_false (by omega)
            have x2 : decide (j < 1) = false := decide_eq_false hjm
            have hje : 1 = j := by omega
            subst hje
            have HSJ := Aside0.mk hs.swap
            have HOK : Aside0 (clOk bits (addsC bits cl (cutL pix a 1))) := ⟨clOk_adds HCL.out fun x hx => HU.out x (List.mem_of_mem_drop (List.mem_of_mem_take hx))⟩
            clear hs hjm hj
            go_wp2_with fail
            all_goals
              go_roundw
              case rel =>
                have hl1 : (out ++ [litT (rd pix (a : Int))]).length = out.length + 1 := by simp
                refine ⟨a + 1, D, addsC bits cl (cutL pix a 1), s :: rest, out ++ [litT (rd pix (a : Int))], some ad2, c', B1, cB1, HMF.out.2.1, ?_, ?_, ?_, ?_, HOK.out, HSUB.out, HCS.out, HCC.out, ?_, ?_, ?_⟩
                · rw [hl1]; have := HMF.out.1; have := HOA.out; omega
                · first | rfl | simp
                · rw [hl1]
                · first | rfl | go_num
                · have := HAD.out; have := HMF.out.1; omega
                · rw [List.append_assoc]; exact HTT.out
                · rw [hl1]; exact HSJ.out
              case measure => have := HMF.out.1; have := HMF.out.2.1; have := HLT.out; simp [intOf]; omega
      | some i0 =>
        rw [hfd] at HFIND
        obtain ⟨b1, ⟨b2, b3, b4, b5⟩, b6⟩ := MM.out 1 one
        have b7 := i64_w ((a : Int) + (1 : Nat)); rw [b1] at b7
        simp only [Int.natCast_one] at b1 b2 b3 b4 b6 b7
        have HMF := Aside0.mk one
        obtain ⟨ad2, hA2⟩ : ∃ ad2, A' = some ad2 := by
          obtain ⟨ad2, h, _⟩ := hCs.2.2 (by simp)
          exact ⟨ad2, h⟩
        subst hA2
        obtain ⟨ad3, he3, s0, s1, s2⟩ := at_T45 hCs 0 (by omega) (by simp)
        injection he3 with he3
        subst he3
        have hrd0 : rd_T45 (s :: rest) 0 = s := rfl
        have had0 : ad2.add ((0 : Int).toNat * 3) = ad2 := by unfold Addr.add; simp
        rw [hrd0, had0] at s0 s1 s2
        have s0' := ((HSN.out.below.cell (World.block_lt_of_cell? _ _ s0)).trans s0)
        have s1' := ((HSN.out.below.cell (World.block_lt_of_cell? _ _ s1)).trans s1)
        have s2' := ((HSN.out.below.cell (World.block_lt_of_cell? _ _ s2)).trans s2)
        clear s0 s1 s2 hrd0 had0
        have l1 : decide ((0 : Int) < ((s :: rest).length : Nat)) = true := decide_eq_true (by simp)
        have l2 : (s :: rest).length = rest.length + 1 := rfl
        have l3 : decide ((0 : Int) < (rest.length : Int) + 1) = true := decide_eq_true (by omega)
        have l4 : ((0 : Int) < (rest.length : Int) + 1) = True := eq_true (by omega)
        rw [l2] at hcs
        have z0 : (s.f0 == (a : Int)) = false := by simp [hns]
        have hnx : nextT bits pix a cl (s :: rest) = (knownT i0, 1, s :: rest) := by unfold nextT; simp only [if_neg hns]; rw [hfd]
        rw [cover_next hlt hnx] at htot
        have HTT := Aside0.mk htot
        have HSUB := Aside0.mk hsub
        have HCS := Aside0.mk hCs
        have HCC := Aside0.mk hcs
        clear htot hsub hnx hlt one hCs hns
        go_wp2_with fail
        refine HFIND.out.mono ?_; rintro e w4 ⟨rfl, ⟨nf, rfl⟩⟩
        have HSL := Aside0.mk (((HSN.out.drewN nf).allocCells 37 5 1 (tkC (knownT i0)) rfl (by decide)).swap)
        go_wp2_with (at_builtin; refine St.append_cells (w0 := w) rfl (.tmp 81) (.tmp 84) 22 37 (.agg #[.int .i64 0, .int .i64 0, .int .i64 0, .int .i64 0, .int .u32 0]) 5 40 rfl Try.underlying22 (by kernel_rfl) rfl (by decide) (by decide) _ out.length (outC out) (tkC (knownT i0)) (some ⟨_, 0, none⟩) 1 1 rfl rfl HSL.out (rowReadsC HSL.out.swap (by simp [tkC, Value.oneCell'])) hbytes ?_; intro B1 cB1 w5 hs; rw [← outC_snoc] at hs; have HSP := Aside0.mk hs.swap.drop; clear hs)
        have HS3 := Aside0.mk HSP.out.swap
        clear HSL HSP HSN HFIND
        go_loopw [93] (fun jv wr => ∃ j : Nat, j ≤ 1 ∧ jv = .int .i64 j ∧ St w wr (cacheO P bits (addsC bits cl (cutL pix a j)) * (Asrt.row 37 5 (.slice B1 (out.length + 1) cB1) (out.length + 1) (outC (out ++ [knownT i0])) * Asrt.emp))) (fun jv _ => 1 - (intOf jv).toNat)
        case atStart => exact ⟨0, Nat.zero_le _, rfl, HS3.out⟩
        case round =>
          obtain ⟨j, hj, rfl, hs⟩ := hrel
          clear HS3
          by_cases hjm : j < 1
          · have x1 : decide ((j : Int) < 1) = true := decide_eq_true (by omega)
            have x2 : decide (j < 1) = true := decide_eq_true hjm
            have x3 : (j < 1) = True := eq_true hjm
            have x4 : ((j : Int) < 1) = True := eq_true (by omega)
            have hjl : a + j < pix.length := by have := HMF.out.2.1; omega
            have hcc := (hs.below.cell (World.block_lt_of_cell? _ _ (HCELL.out (a + j) hjl))).trans (HCELL.out (a + j) hjl)
            rw [← Addr.add_add] at hcc
            have hstep : addsC bits cl (cutL pix a (j + 1)) = addC bits (addsC bits cl (cutL pix a j)) (rd pix ((a + j : Nat) : Int)) := by rw [cutL_snoc hjl, adds_snoc]
            have hUx : U32 (rd pix ((a + j : Nat) : Int)) := HU.out _ (rd_mem (by omega) (by omega))
            have hok : clOk bits (addsC bits cl (cutL pix a j)) := clOk_adds HCL.out fun x hx => HU.out x (List.mem_of_mem_drop (List.mem_of_mem_take hx))
            have HST := Aside0.mk hstep
            have HUX := Aside0.mk hUx
            have HOK := Aside0.mk hok
            have HJ := Aside0.mk hjm
            have HSJ := Aside0.mk hs
            have jb : j ≤ 268435456 := by have := HMF.out.2.1; omega
            clear hstep hUx hok hjm hs hjl hj
            go_wp2_with fail
            refine (cacheO_Add P bits (rd pix ((a + j : Nat) : Int)) _ _ w _ HOK.out HUX.out HSJ.out).mono ?_; rintro e w6 ⟨rfl, hs⟩
            have HS6 := Aside0.mk hs; clear hs
            go_wp2_with fail
            go_roundw
            case rel => exact ⟨j + 1, HJ.out, by go_num, by rw [HST.out]; exact HS6.out⟩
            case measure => have := HJ.out; simp [intOf]; omega
          · have x1 : decide ((j : Int) < 1) = false := decide_eq_false (by omega)
            have x2 : decide (j < 1) = false := decide_eq_false hjm
            have hje : 1 = j := by omega
            subst hje
            have HSJ := Aside0.mk hs.swap
            have HOK : Aside0 (clOk bits (addsC bits cl (cutL pix a 1))) := ⟨clOk_adds HCL.out fun x hx => HU.out x (List.mem_of_mem_drop (List.mem_of_mem_take hx))⟩
            clear hs hjm hj
            go_wp2_with fail
            all_goals
              go_roundw
              case rel =>
                have hl1 : (out ++ [knownT i0]).length = out.length + 1 := by simp
                refine ⟨a + 1, D, addsC bits cl (cutL pix a 1), s :: rest, out ++ [knownT i0], some ad2, c', B1, cB1, HMF.out.2.1, ?_, ?_, ?_, ?_, HOK.out, HSUB.out, HCS.out, HCC.out, ?_, ?_, ?_⟩
                · rw [hl1]; have := HMF.out.1; have := HOA.out; omega
                · first | rfl | simp
                · rw [hl1]
                · first | rfl | go_num
                · have := HAD.out; have := HMF.out.1; omega
                · rw [List.append_assoc]; exact HTT.out
                · rw [hl1]; exact HSJ.out
              case measure => have := HMF.out.1; have := HMF.out.2.1; have := HLT.out; simp [intOf]; omega
end Go.Proofs.Ytnpmnfhmlnhepaa.P
