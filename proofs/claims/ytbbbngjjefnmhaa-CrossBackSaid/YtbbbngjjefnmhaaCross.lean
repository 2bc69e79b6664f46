/- What elements make of an image, forth and back. -/
import Derived.Test.YtbbbngjjefnmhaaPixLite
import Derived.Test.YtbbbngjjefnmhaaBlocks
import Derived.Test.YtbbbngjjefnmhaaPixMake
namespace Go.Proofs.Ytbbbngjjefnmhaa.Pure
open Go Go.RowKit Go.Proofs.Ytbbbngjjefnmhaa.P Go.Proofs.YtbbbngjjefnmhaaW.PrintWords Go.Proofs.YtbbbngjjefnmhaaW.PrintLast Go.Proofs.YtbbbngjjefnmhaaW.PrintMore Go.Proofs.Ytbbbngjjefnmhaa.U

theorem wrap_i8 (n : Int) : IntKind.i8.wrap n = (n + 128) % 256 - 128 := by
  simp [IntKind.wrap, IntKind.bits, IntKind.signed]; omega
def sg (x : Int) : Int := (x + 128) % 256 - 128
def dl (a b : Int) : Int := a * b / 32
def I8 (n : Int) : Prop := -128 ≤ n ∧ n ≤ 127
theorem sg_i8 (x : Int) : I8 (sg x) := by unfold I8 sg; omega
theorem mul_i8 {a b : Int} (ha : I8 a) (hb : I8 b) : -16384 ≤ a * b ∧ a * b ≤ 16384 := by
  unfold I8 at ha hb
  have h : (a * b).natAbs ≤ 128 * 128 := by
    rw [Int.natAbs_mul]
    exact Nat.mul_le_mul (by omega) (by omega)
  omega
theorem dl_bd {a b : Int} (ha : I8 a) (hb : I8 b) : -512 ≤ dl a b ∧ dl a b ≤ 512 := by
  have := mul_i8 ha hb
  unfold dl; omega
theorem delta_eq {a b : Int} (ha : I8 a) (hb : I8 b) : cross_Delta.f a b = some (dl a b) := by
  have := mul_i8 ha hb
  unfold I8 at ha hb
  unfold cross_Delta.f dl
  rw [w64 (n := a) (by omega) (by omega), w64 (n := b) (by omega) (by omega), w64 (by omega) (by omega)]
theorem dl_zero (x : Int) : dl 0 x = 0 := by unfold dl; rw [Int.zero_mul]; rfl
theorem dl_zero' (x : Int) : dl x 0 = 0 := by unfold dl; rw [Int.mul_zero]; rfl
def fw (e : S24) (p : Int) : Int := join4 (pA p) (pR p - dl e.f0 (sg (pG p))) (pG p) (pB p - dl e.f1 (sg (pG p)) - dl e.f2 (sg (pR p)))
def bw (e : S24) (p : Int) : Int := join4 (pA p) (pR p + dl e.f0 (sg (pG p))) (pG p) (pB p + dl e.f1 (sg (pG p)) + dl e.f2 (sg ((pR p + dl e.f0 (sg (pG p))) % 256)))
def E8 (e : S24) : Prop := I8 e.f0 ∧ I8 e.f1 ∧ I8 e.f2
theorem make_join {a r g b : Int} (ha : 0 ≤ a ∧ a ≤ 255) (hg : 0 ≤ g ∧ g ≤ 255) : pixel_Make.f a (r % 256) g (b % 256) = some (join4 a r g b) := by
  rw [make_eq _ _ _ _ ha (by omega) hg (by omega)]
  unfold join4; congr 1; omega
theorem parts_eq {p : Int} (h : U32 p) : pixel_Parts.f p = some (pA p, pR p, pG p, pB p) := by
  have := pA_bd h
  unfold pixel_Parts.f pA pR pG pB
  unfold pA at this
  rw [show p / 16777216 % 256 = p / 16777216 by omega]
theorem sg_eq (x : Int) : IntKind.i8.wrap x = sg x := wrap_i8 x
theorem forth_eq {p : Int} (h : U32 p) {e : S24} (he : E8 e) : cross_forth.f p e.f0 e.f1 e.f2 = some (fw e p) := by
  have h0 := pA_bd h
  have h1 := pR_bd p
  have h2 := pG_bd p
  have h3 := pB_bd p
  obtain ⟨e0, e1, e2⟩ := he
  have d0 := dl_bd e0 (sg_i8 (pG p))
  have d1 := dl_bd e1 (sg_i8 (pG p))
  have d2 := dl_bd e2 (sg_i8 (pR p))
  unfold cross_forth.f
  simp only [parts_eq h, Option.bind_some, sg_eq, delta_eq e0 (sg_i8 _), delta_eq e1 (sg_i8 _), delta_eq e2 (sg_i8 _)]
  rw [w64 (n := pR p) (by omega) (by omega), w64 (n := pB p) (by omega) (by omega), w64 (n := pR p - dl e.f0 (sg (pG p))) (by omega) (by omega), w64 (n := pB p - dl e.f1 (sg (pG p))) (by omega) (by omega), w64 (by omega) (by omega)]
  rw [make_join h0 h2]; rfl
theorem bw_fw {p : Int} (h : U32 p) (e : S24) : bw e (fw e p) = p := by
  have h0 := pA_bd h
  have h1 := pR_bd p
  have h2 := pG_bd p
  have h3 := pB_bd p
  unfold bw
  have eA : pA (fw e p) = pA p := by unfold fw; rw [pA_join]; omega
  have eG : pG (fw e p) = pG p := by unfold fw; rw [pG_join]; omega
  have eR : pR (fw e p) = (pR p - dl e.f0 (sg (pG p))) % 256 := by unfold fw; rw [pR_join]
  have eB : pB (fw e p) = (pB p - dl e.f1 (sg (pG p)) - dl e.f2 (sg (pR p))) % 256 := by unfold fw; rw [pB_join]
  rw [eA, eG, eR, eB]
  have eR2 : ((pR p - dl e.f0 (sg (pG p))) % 256 + dl e.f0 (sg (pG p))) % 256 = pR p := by omega
  rw [eR2]
  refine Eq.trans (join_eq rfl ?_ rfl ?_) (join_parts h) <;> omega
theorem fw_bw {p : Int} (h : U32 p) (e : S24) : fw e (bw e p) = p := by
  have h0 := pA_bd h
  have h1 := pR_bd p
  have h2 := pG_bd p
  have h3 := pB_bd p
  unfold fw
  have eA : pA (bw e p) = pA p := by unfold bw; rw [pA_join]; omega
  have eG : pG (bw e p) = pG p := by unfold bw; rw [pG_join]; omega
  have eR : pR (bw e p) = (pR p + dl e.f0 (sg (pG p))) % 256 := by unfold bw; rw [pR_join]
  have eB : pB (bw e p) = (pB p + dl e.f1 (sg (pG p)) + dl e.f2 (sg ((pR p + dl e.f0 (sg (pG p))) % 256))) % 256 := by unfold bw; rw [pB_join]
  rw [eA, eG, eR, eB]
  refine Eq.trans (join_eq rfl ?_ rfl ?_) (join_parts h) <;> omega
theorem u32_fw (e : S24) (p : Int) : U32 (fw e p) := u32_join _ _ _ _
theorem u32_bw (e : S24) (p : Int) : U32 (bw e p) := u32_join _ _ _ _
def isZ (e : S24) : Bool := (e.f0 == 0 && (e.f1 == 0 && (e.f2 == 0)))
theorem fw_zero {p : Int} (h : U32 p) {e : S24} (hz : isZ e = true) : fw e p = p := by
  unfold isZ at hz
  simp only [Bool.and_eq_true, beq_iff_eq] at hz
  unfold fw
  simp only [hz.1, hz.2.1, hz.2.2, dl_zero, Int.sub_zero, join_parts h]
theorem bw_zero {p : Int} (h : U32 p) {e : S24} (hz : isZ e = true) : bw e p = p := by
  unfold isZ at hz
  simp only [Bool.and_eq_true, beq_iff_eq] at hz
  unfold bw
  simp only [hz.1, hz.2.1, hz.2.2, dl_zero, Int.add_zero, join_parts h]
/-- The element of a place. -/
def el (w b : Int) (l2 : List S24) (i : Int) : S24 := rd_T24 l2 (i / w / 2 ^ b.toNat * blocks w b + i % w / 2 ^ b.toNat)
def each (f : S24 → Int → Int) (w b : Int) (l2 : List S24) (l : List Int) : List Int := (List.range l.length).map fun (j : Nat) => f (el w b l2 (j : Int)) (rd l (j : Int))
def E8s (l2 : List S24) : Prop := ∀ e ∈ l2, E8 e
theorem rd24_e8 {l2 : List S24} (h : E8s l2) (i : Int) : E8 (rd_T24 l2 i) := by
  unfold rd_T24
  rw [List.getD_eq_getElem?_getD]
  by_cases c : i.toNat < l2.length
  · rw [List.getElem?_eq_getElem c]; exact h _ (List.getElem_mem _)
  · rw [List.getElem?_eq_none (by omega)]; unfold E8 I8; show (-128 ≤ (0 : Int) ∧ (0 : Int) ≤ 127) ∧ (-128 ≤ (0 : Int) ∧ (0 : Int) ≤ 127) ∧ (-128 ≤ (0 : Int) ∧ (0 : Int) ≤ 127); omega
theorem each_len (f : S24 → Int → Int) (w b : Int) (l2 : List S24) (l : List Int) : (each f w b l2 l).length = l.length := by unfold each; simp
theorem each_rd (f : S24 → Int → Int) (w b : Int) (l2 : List S24) (l : List Int) {j : Nat} (h : j < l.length) : rd (each f w b l2 l) (j : Int) = f (el w b l2 j) (rd l j) := by
  rw [show rd (each f w b l2 l) (j : Int) = (each f w b l2 l).getD j 0 by unfold rd; rw [Int.toNat_natCast], List.getD_eq_getElem?_getD, List.getElem?_eq_getElem (by rw [each_len]; exact h)]
  simp [each]
theorem rd_ext {l m : List Int} (hl : l.length = m.length) (h : ∀ j : Nat, j < l.length → rd l (j : Int) = rd m (j : Int)) : l = m := by
  refine List.ext_getElem hl fun j h1 h2 => ?_
  have := h j h1
  unfold rd at this
  rw [Int.toNat_natCast, List.getD_eq_getElem?_getD, List.getD_eq_getElem?_getD, List.getElem?_eq_getElem h1, List.getElem?_eq_getElem h2] at this
  exact this
theorem each_u32 {f : S24 → Int → Int} (hf : ∀ e p, U32 (f e p)) (w b : Int) (l2 : List S24) (l : List Int) : U32s (each f w b l2 l) := by
  intro x hx
  unfold each at hx
  obtain ⟨j, _, rfl⟩ := List.mem_map.1 hx
  exact hf _ _
theorem each_back {f g : S24 → Int → Int} (h : ∀ e p, U32 p → f e (g e p) = p) {w b : Int} {l2 : List S24} {l : List Int} (hl : U32s l) : each f w b l2 (each g w b l2 l) = l := by
  refine rd_ext (by rw [each_len, each_len]) fun j hj => ?_
  rw [each_len, each_len] at hj
  rw [each_rd _ _ _ _ _ (by rw [each_len]; exact hj), each_rd _ _ _ _ _ hj, h _ _ (rd_u32 hl _)]
/-- What an image and its elements must be. -/
def fit (w h : Int) (l : List Int) (b : Int) (l2 : List S24) : Prop := good w h l ∧ 2 ≤ b ∧ b ≤ 9 ∧ (l2.length : Int) = blocks w b * blocks h b
theorem at_el {w h b : Int} {l : List Int} {l2 : List S24} (hf : fit w h l b l2) {i : Nat} (hi : i < l.length) : api_Element_At.f w b l2 (Int.tmod i w) (wrap64 (Int.tdiv i w)) = some ((el w b l2 i).f0, (el w b l2 i).f1, (el w b l2 i).f2) := by
  obtain ⟨hg, b0, b1, hn⟩ := hf
  have hl := good_len hg
  obtain ⟨w0, w1, h0, h1, e⟩ := id hg
  have k0 : (0 : Int) ≤ i := by omega
  have d0 : 0 ≤ (i : Int) / w := Int.ediv_nonneg k0 (by omega)
  have d1 : (i : Int) / w < h := by
    refine Int.ediv_lt_of_lt_mul (by omega) ?_
    rw [Int.mul_comm, ← e]; omega
  have hx : 0 ≤ (i : Int) % w ∧ (i : Int) % w < w := ⟨Int.emod_nonneg _ (by omega), Int.emod_lt_of_pos _ (by omega)⟩
  obtain ⟨c0, c1, c2, c3, c4⟩ := block_in w0 w1 h0 h1 b0 b1 hx ⟨d0, d1⟩
  rw [Int.tmod_eq_emod_of_nonneg k0, Int.tdiv_eq_ediv_of_nonneg k0, w64 (n := (i : Int) / w) (by omega) (by omega)]
  unfold api_Element_At.f lean_Block.f el
  rw [if_pos (by omega), le_Blocks_eq, Option.bind_some, shr_any (by simp [IntKind.bits]; omega), shr_any (by simp [IntKind.bits]; omega)]
  rw [w64 (n := (i : Int) / w / 2 ^ b.toNat * blocks w b) (by omega) (by omega), w64 (by omega) (by omega), Option.bind_some, if_pos c0, if_pos (by omega)]
theorem bits_eq (b : Int) : lean_Bits.f b = some (decide (2 ≤ b ∧ b ≤ 9)) := by
  unfold lean_Bits.f
  by_cases c : b ≥ 2
  · rw [if_pos c]; simp [show 2 ≤ b by omega]
  · rw [if_neg c]; simp [show ¬ 2 ≤ b by omega]
theorem many_eq {w h b : Int} {l : List Int} (hg : good w h l) (b0 : 2 ≤ b) (b1 : b ≤ 9) : lean_Many.f w h l b = some (blocks w b * blocks h b) := by
  obtain ⟨w0, w1, h0, h1, e⟩ := hg
  obtain ⟨p0, p1, p2⟩ := blocks_in w0 w1 b0 b1
  obtain ⟨q0, q1, q2⟩ := blocks_in h0 h1 b0 b1
  have a2 : blocks w b * blocks h b ≤ 16384 * 16384 := Int.mul_le_mul p1 q1 (by omega) (by omega)
  have a3 : 0 ≤ blocks w b * blocks h b := Int.mul_nonneg (by omega) (by omega)
  unfold lean_Many.f
  rw [le_Blocks_eq, le_Blocks_eq, Option.bind_some, Option.bind_some, w64 (by omega) (by omega)]
theorem refMany_ev {w h b : Int} {l : List Int} (hg : good w h l) (b0 : 2 ≤ b) (b1 : b ≤ 9) : Ev (fun k => marquetryref11_Many.f k w h l b) (blocks w b * blocks h b) := by
  obtain ⟨w0, w1, h0, h1, e⟩ := hg
  obtain ⟨p0, p1, p2⟩ := blocks_in w0 w1 b0 b1
  obtain ⟨q0, q1, q2⟩ := blocks_in h0 h1 b0 b1
  have a2 : blocks w b * blocks h b ≤ 16384 * 16384 := Int.mul_le_mul p1 q1 (by omega) (by omega)
  have a3 : 0 ≤ blocks w b * blocks h b := Int.mul_nonneg (by omega) (by omega)
  unfold marquetryref11_Many.f
  refine Ev.bind (ref_Blocks_ev w b) (Ev.bind (ref_Blocks_ev h b) (Ev.fin ?_))
  rw [w64 (by omega) (by omega)]
theorem set_rd {m : List Int} {i : Nat} {v : Int} (h : i < m.length) (j : Nat) : rd (m.set (i : Int).toNat v) (j : Int) = if j = i then v else rd m (j : Int) := by
  unfold rd
  rw [Int.toNat_natCast, Int.toNat_natCast, List.getD_eq_getElem?_getD, List.getD_eq_getElem?_getD]
  by_cases c : j = i
  · subst c; rw [if_pos rfl, List.getElem?_set_self h]; rfl
  · rw [if_neg c, List.getElem?_set_ne (by omega)]
theorem forth_loop {w h b : Int} {l : List Int} {l2 : List S24} (hl : U32s l) (he : E8s l2) (hf : fit w h l b l2) (w' h' : Int) (d : Nat) : ∀ (i : Nat) (m : List Int), i + d = l.length → m.length = l.length → (∀ j : Nat, j < i → rd m (j : Int) = fw (el w b l2 j) (rd l j)) →
    Ev (fun k => cross_way_turn__cross_forth.l0 k l l.length i w h l w' h' m w b l2) (w', h', each fw w b l2 l, 0) := by
  induction d with
  | zero =>
    intro i m hd hm hs
    refine Ev.succ ?_
    simp only [cross_way_turn__cross_forth.l0]
    refine Ev.ite_neg (by omega) (Ev.fin ?_)
    rw [rd_ext (l := m) (m := each fw w b l2 l) (by rw [each_len]; exact hm) (fun j hj => by rw [hs j (by omega), each_rd _ _ _ _ _ (by omega)])]
  | succ d ih =>
    intro i m hd hm hs
    refine Ev.succ ?_
    simp only [cross_way_turn__cross_forth.l0]
    have hw := hf.1.1
    have hlen := (good_len hf.1).2
    have hu := rd_u32 hl (i : Int)
    refine Ev.ite_pos (by omega) (Ev.ite_pos (by omega) (Ev.ite_pos (by omega) (Ev.ite_neg (by omega) ?_)))
    rw [at_el hf (i := i) (by omega)]
    simp only [Option.bind_some]
    have step : ∀ v, v = fw (el w b l2 i) (rd l i) → Ev (fun k => cross_way_turn__cross_forth.l0 k l l.length (wrap64 ((i : Int) + 1)) w h l w' h' (m.set (i : Int).toNat v) w b l2) (w', h', each fw w b l2 l, 0) := by
      intro v hv
      rw [w64 (by omega) (by omega)]
      refine ih (i + 1) _ (by omega) (by rw [List.length_set]; exact hm) ?_
      intro j hj
      rw [set_rd (by omega)]
      by_cases c : j = i
      · rw [if_pos c, hv, c]
      · rw [if_neg c]; exact hs j (by omega)
    by_cases c : isZ (el w b l2 i) = true
    · exact Ev.ite_pos c (Ev.ite_pos (by omega) (step _ (fw_zero hu c).symm))
    · refine Ev.ite_neg c ?_
      exact Ev.bindo (forth_eq hu (rd24_e8 he _ : E8 (el w b l2 i))) (Ev.ite_pos (by omega) (step _ rfl))
theorem Forth_ev {w h b : Int} {l : List Int} {l2 : List S24} (hl : U32s l) (he : E8s l2) (hf : fit w h l b l2) : Ev (fun k => cross_Forth.f k w h l b l2) (w, h, each fw w b l2 l, 0) := by
  have hlen := good_len hf.1
  unfold cross_Forth.f cross_way_turn__cross_forth.f
  simp only [pgood_eq, bits_eq, many_eq hf.1 hf.2.1 hf.2.2.1, Option.bind_some]
  refine Ev.bind (a := (w, h, each fw w b l2 l, 0)) (Ev.ite_pos (by simpa using hf.1) (Ev.ite_pos (by simpa using ⟨hf.2.1, hf.2.2.1⟩) (Ev.succ ?_))) (Ev.now _)
  simp only [cross_way_turn__cross_forth.j0]
  refine Ev.ite_neg (by simpa using hf.2.2.2) (Ev.ite_pos (by omega) (Ev.ite_pos (by omega) ?_))
  exact forth_loop hl he hf w h l.length 0 _ (by omega) (by simp) (fun j hj => absurd hj (by omega))
theorem fit_each {w h b : Int} {l : List Int} {l2 : List S24} (f : S24 → Int → Int) (hf : fit w h l b l2) : fit w h (each f w b l2 l) b l2 := by
  unfold fit good at *
  rw [each_len]
  exact hf
theorem answers_eq : marquetrylaw14_answers.f = some true := by
  unfold marquetrylaw14_answers.f cross_Pixel.f
  rw [delta_eq (by unfold I8; omega) (by unfold I8; omega), Option.bind_some, if_pos (by decide)]
  rw [show ((1 : Int) % 256) = 1 by decide, show ((0 : Int) % 256) = 0 by decide, make_eq _ _ _ _ (by omega) (by omega) (by omega) (by omega)]
  rfl
end Go.Proofs.Ytbbbngjjefnmhaa.Pure
