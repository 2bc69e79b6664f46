/- The part of our texts, and of the print's, that these laws' proofs use. -/
import Derived.Test.YthkocpcjcpohcaaZD15
set_option linter.unusedVariables false
set_option linter.unusedSimpArgs false
section
namespace Go.Proofs.Ythkocpcjcpohcaa.P
open Go Go.RowKit Go.Proofs.YthkocpcjcpohcaaW.PrintWords Go.Proofs.YthkocpcjcpohcaaW.PrintLast Go.Proofs.YthkocpcjcpohcaaW.PrintMore Go.Proofs.Ythkocpcjcpohcaa.U Go.Proofs.Ythkocpcjcpohcaa.Pure
attribute [local go_sem] max2_int min2_int max_two min_two max_three min_three max_four min_four
set_option maxHeartbeats 8000000 in
set_option maxRecDepth 100000 in
theorem rpicture_calls_at (x : Fr) (cs : List Value) (u0 w : World) (hvw : Below u0.heap.size u0 w) (hx : k44.K u0 x cs) (hn : (2 + x.f10.length) * 40 ≤ 140737488355328) :
    Calls Try.prog 40 #[.agg cs.toArray] w fun e w' => ∃ (B : Option Addr) (c : Nat) (xs : List Value), e = .returned (.slice B (picV x).length c) ∧ KL k42 u0 (picV x) xs ∧ St w w' (Asrt.row 42 2 (.slice B (picV x).length c) (picV x).length xs * Asrt.emp) := by
  obtain ⟨A1, c1, A2, c2, A3, c3, rfl, l1, g1, l2, g2, l3, g3⟩ := k44_open hx
  obtain ⟨zs, hzk, hzr⟩ := C_cells g3 (by decide)
  have HS0 := asiD (((St.refl w).alloc #[.int .i64 x.f0, .int .i64 x.f1, .int .i64 x.f2, .int .i64 x.f3, .int .i64 x.f4, .bool x.f5, .bool x.f6, .int .i64 x.f7, .slice A1 x.f8.length c1, .slice A2 x.f9.length c2, .slice A3 x.f10.length c3] 44).rowNil 42 2)
  have HZK := asiD hzk
  have HZR := asiD (hzr.below hvw)
  have HG1 := asiD (KL_ch1 (s := nALPH) l1 g1)
  have HG2 := asiD (KL_ch1 (s := payS x.f7) l2 g2)
  have HN := asiD hn
  clear hx hzk hzr g1 g2 g3 hn hvw
  go_enter Try.func40, Try.ntmps40
  go_upto_region 2 with (fail)
  generalize w.alloc (.cells _ 44) = W0 at HS0 ⊢
  generalize w.heap.size = g at HS0 ⊢
  have m8 : W0.cell? ⟨g, 8, none⟩ = some (.slice A1 x.f8.length c1) := (HS0.out.swap.cell 8).trans rfl
  go_upto_if 8 with (fail)
  go_cut [3] from 8 to 14 (fun v wc => ∃ (B : Option Addr) (c : Nat) (xs : List Value), v = .slice B (alphaV x).length c ∧ KL k42 u0 (alphaV x) xs ∧ St w wc (Asrt.row 42 2 (.slice B (alphaV x).length c) (alphaV x).length xs * (Asrt.blk g 44 #[.int .i64 x.f0, .int .i64 x.f1, .int .i64 x.f2, .int .i64 x.f3, .int .i64 x.f4, .bool x.f5, .bool x.f6, .int .i64 x.f7, .slice A1 x.f8.length c1, .slice A2 x.f9.length c2, .slice A3 x.f10.length c3] * Asrt.emp)))
  case first =>
    have HA1 : Aside0 (0 < x.f8.length → alphaV x = [⟨nALPH, x.f8⟩]) := ⟨fun hp => by unfold alphaV; rw [if_pos hp]⟩
    have HA0 : Aside0 (¬ 0 < x.f8.length → alphaV x = []) := ⟨fun hp => by unfold alphaV; rw [if_neg hp]⟩
    have HSL := asiD ((HS0.out.allocCells 42 2 1 [.string nALPH, .slice A1 x.f8.length c1] rfl (by decide)).swap)
    go_wp2_with (at_builtin; refine St.append_cells (w0 := w) rfl (.tmp 9) (.tmp 13) 25 42 (.agg #[.string ⟨#[]⟩, .slice none 0 0]) 2 40 rfl Try.underlying25 (by kernel_rfl) rfl (by decide) (by decide) _ 0 [] [.string nALPH, .slice A1 x.f8.length c1] (some ⟨_, 0, none⟩) 1 1 rfl rfl HSL.out (rowReadsC HSL.out.swap (by simp [Value.oneCell'])) (by decide) ?_; intro B1 cB1 w5 hs; have HSP := asiD hs; clear hs)
    · go_meet
      case rel =>
        rw [HA1.out (by assumption)]
        exact ⟨B1, cB1, [.string nALPH, .slice A1 x.f8.length c1], rfl, HG1.out, HSP.out.swap.drop⟩
    · go_meet
      case rel =>
        rw [HA0.out (by assumption)]
        exact ⟨none, 0, [], rfl, rfl, HS0.out⟩
  case rest =>
    obtain ⟨B, c, xs, rfl, hk, hs⟩ := hcut
    clear HS0 m8
    have m7 : wc.cell? ⟨g, 7, none⟩ = some (.int .i64 x.f7) := (hs.swap.cell 7).trans rfl
    have m9 : wc.cell? ⟨g, 9, none⟩ = some (.slice A2 x.f9.length c2) := (hs.swap.cell 9).trans rfl
    have HS := asiD hs
    have HK := asiD hk
    clear hs hk
    have hb1 : ((alphaV x).length + 1) * 40 ≤ 140737488355328 := by have := HN.out; unfold alphaV; split <;> simp <;> omega
    have hb2 : ((alphaV x).length + 1 + x.f10.length) * 40 ≤ 140737488355328 := by have := HN.out; unfold alphaV; split <;> simp <;> omega
    have HB1 := asiD hb1
    have HB2 := asiD hb2
    have hc : ((x.f7 == 2) = true ∧ payS x.f7 = ⟨#[86, 80, 56, 32]⟩) ∨ ((x.f7 == 2) = false ∧ payS x.f7 = ⟨#[86, 80, 56, 76]⟩) := by
      unfold payS
      by_cases h : x.f7 = 2
      · exact .inl ⟨by simp [h], if_pos h⟩
      · exact .inr ⟨by simp [h], if_neg h⟩
    clear hb1 hb2
    rcases hc with ⟨y1, hp⟩ | ⟨y1, hp⟩
    all_goals rw [hp] at HG2
    all_goals have HP := asiD hp
    all_goals clear hp
    all_goals go_wp2_with (first
      | (at_builtin; refine St.append_cells (w0 := w) rfl (.tmp 18) (.tmp 23) 25 42 (.agg #[.string ⟨#[]⟩, .slice none 0 0]) 2 40 rfl Try.underlying25 (by kernel_rfl) rfl (by decide) (by decide) _ (alphaV x).length xs [.string _, .slice A2 x.f9.length c2] (some ⟨_, 0, none⟩) 1 1 rfl rfl ((HS.out.allocCells 42 2 1 [.string _, .slice A2 x.f9.length c2] rfl (by decide)).swap) (rowReadsC (HS.out.allocCells 42 2 1 [.string _, .slice A2 x.f9.length c2] rfl (by decide)) (by simp [Value.oneCell'])) HB1.out ?_; intro B1 cB1 w5 hs; have HS5 := asiD hs.swap.drop; have m10 := (hs.swap.drop.swap.cell 10).trans (show _ = some (Value.slice A3 x.f10.length c3) from rfl); clear hs)
      | (at_builtin; refine St.append_cells (w0 := w) rfl (.tmp 25) (.tmp 27) 25 42 (.agg #[.string ⟨#[]⟩, .slice none 0 0]) 2 40 rfl Try.underlying25 (by kernel_rfl) rfl (by decide) (by decide) _ ((alphaV x).length + 1) (xs ++ [.string _, .slice A2 x.f9.length c2]) zs A3 x.f10.length c3 rfl rfl HS5.out (HZR.out.below HS5.out.below) HB2.out ?_; intro B2 cB2 w6 hs; have HS6 := asiD hs.swap.drop; clear hs))
    all_goals go_ret
    all_goals (have hl : (picV x).length = (alphaV x).length + 1 + x.f10.length := (by unfold picV; simp only [List.length_append, List.length_singleton]))
    all_goals rw [hl]
    all_goals refine ⟨B2, cB2, _, rfl, ?_, HS6.out⟩
    all_goals unfold picV
    all_goals rw [HP.out]
    all_goals exact KL_app (KL_app HK.out HG2.out) HZK.out
theorem Num_ev (v : Int) (n : Nat) (h0 : 0 ≤ v) (h1 : 1 ≤ n) (h2 : n ≤ 4) (hv : v < 256 ^ n) : Ev (fun k => marquetryref24_Num.f k v (n : Int)) (Pure.bytes n v) := by
  have hp : (256 : Int) ^ n ≤ 4294967296 := by
    have := (pow256 (i := n) (by omega)).2
    rw [this]
    exact Int.le_trans (pow_le (show 8 * n ≤ 32 by omega)) (by decide)
  unfold marquetryref24_Num.f
  refine Ev.bind (ref_Put_ev v n h0 (by omega)) ?_
  rw [put_good ⟨by omega, by omega, by simpa using hv⟩, show (n : Int).toNat = n by omega]
  exact Ev.now _
theorem NumS_calls (n : Nat) (m v : Int) (hm : m = n) {w0 w : World} {A : Asrt} (h : St w0 w A) (h1 : 1 ≤ n) (h2 : n ≤ 4) (h0 : 0 ≤ v) (hv : v < 256 ^ n) :
    Calls Try.prog 39 #[.int .u64 v, .int .i64 m] w fun e w' => ∃ (B : Option Addr) (c : Nat), e = .returned (.slice B n c) ∧ n ≤ c ∧ St w0 w' (Asrt.row 5 1 (.slice B n c) n (nums .u8 (Pure.bytes n v)) * A) := by
  subst hm
  obtain ⟨k, hk⟩ := (Num_ev v n h0 h1 h2 hv).rounds
  refine (marquetryref24_Num.calls k v n _ w hk).mono ?_
  rintro e w' ⟨u, rfl, hr, hb⟩
  have hs := h.newRow hb (Kd.own_of_R hr) (Nat.le_refl _)
  obtain ⟨B, c, hv2, hc, _⟩ := Kd.R_reads hr
  subst hv2
  rw [bytes_len] at hs hc ⊢
  exact ⟨B, c, rfl, hc, hs⟩
theorem bytes_one {v : Int} (h0 : 0 ≤ v) (h1 : v < 256) : Pure.bytes 1 v = [v] := by
  simp [Pure.bytes]; omega
theorem bytes_four {v : Int} (h0 : 0 ≤ v) (h1 : v < 256) : Pure.bytes 4 v = [v, 0, 0, 0] := by
  simp [Pure.bytes]; omega
theorem top_bytes (y : Dc) : putV (topV y) = [flagsI y, 0, 0, 0] ++ Pure.bytes 3 (y.f1 - 1) ++ Pure.bytes 3 (y.f2 - 1) := by
  have := flags_bd y
  show Pure.bytes 4 (flagsI y) ++ (Pure.bytes 3 (y.f1 - 1) ++ (Pure.bytes 3 (y.f2 - 1) ++ [])) = _
  rw [bytes_four this.1 (by omega), List.append_nil, List.append_assoc]
theorem ani_bytes (y : Dc) : putV (aniV y) = Pure.bytes 4 y.f5 ++ Pure.bytes 2 y.f6 := by
  show Pure.bytes 4 y.f5 ++ (Pure.bytes 2 y.f6 ++ []) = _
  rw [List.append_nil]
def fiveI (f : Fr) : List Int := [f.f0.tdiv 2, f.f1.tdiv 2, f.f2 - 1, f.f3 - 1, f.f4]
def fiveV (f : Fr) (k : Nat) : List Int := ((fiveI f).take k).flatMap (Pure.bytes 3)
theorem moved_bytes (f : Fr) : (movedV f).f1 = fiveV f 5 ++ [wayI f] ++ lay (picV f) := by
  have := way_bd f
  show (Pure.bytes 3 (f.f0.tdiv 2) ++ (Pure.bytes 3 (f.f1.tdiv 2) ++ (Pure.bytes 3 (f.f2 - 1) ++ (Pure.bytes 3 (f.f3 - 1) ++ (Pure.bytes 3 f.f4 ++ (Pure.bytes 1 (wayI f) ++ [])))))) ++ lay (picV f) = (Pure.bytes 3 (f.f0.tdiv 2) ++ (Pure.bytes 3 (f.f1.tdiv 2) ++ (Pure.bytes 3 (f.f2 - 1) ++ (Pure.bytes 3 (f.f3 - 1) ++ (Pure.bytes 3 f.f4 ++ []))))) ++ [wayI f] ++ lay (picV f)
  rw [bytes_one this.1 (by omega)]
  simp only [List.append_assoc, List.append_nil, List.nil_append, List.cons_append]
theorem fiveV_len (f : Fr) (k : Nat) (hk : k ≤ 5) : (fiveV f k).length = 3 * k := by
  unfold fiveV fiveI
  rcases k with _ | _ | _ | _ | _ | _ | k
  all_goals first
    | omega
    | simp only [List.take_succ_cons, List.take_zero, List.flatMap_cons, List.flatMap_nil, List.length_append, bytes_len, List.length_nil]
theorem fiveV_next {f : Fr} {k : Nat} (hk : k < 5) : fiveV f (k + 1) = fiveV f k ++ Pure.bytes 3 (rd (fiveI f) k) := by
  unfold fiveV
  rw [take_snoc (show k < (fiveI f).length from hk), List.flatMap_append, List.flatMap_cons, List.flatMap_nil, List.append_nil]
theorem five_fit {f : Fr} (h : mayP f) {k : Nat} (hk : k < 5) : 0 ≤ rd (fiveI f) k ∧ rd (fiveI f) k < 16777216 := by
  obtain ⟨x0, x1, x2, x3, x4, _, _⟩ := h
  have e0 : f.f0.tdiv 2 = f.f0 / 2 := Int.tdiv_eq_ediv_of_nonneg x0.1
  have e1 : f.f1.tdiv 2 = f.f1 / 2 := Int.tdiv_eq_ediv_of_nonneg x1.1
  have hm := rd_mem (l := fiveI f) (i := k) (by omega) (by show (k : Int) < 5; omega)
  generalize rd (fiveI f) k = z at hm
  simp only [fiveI, List.mem_cons, List.not_mem_nil, or_false] at hm
  omega
theorem KL_chn {w : World} {s : ByteArray} {l : List Int} {A : Option Addr} {n c : Nat} (hn : n = l.length) (hc : n ≤ c) (h : (Kd.int .u8).C w A n l) : KL k42 w [⟨s, l⟩] [.string s, .slice A n c] := by
  subst hn
  exact KL_ch1 hc h
def outR (w : World) (l : List Ch) (B : Option Addr) (c : Nat) (xs : List Value) (r : Asrt) : Asrt :=
  Asrt.row 42 2 (.slice B l.length c) l.length xs * (pin w (fun W => KL k42 W l xs) * r)
section
variable {w W : World} {r R A1 : Asrt} {n c g t : Nat} {l l2 : List Ch} {B : Option Addr} {xs ys : List Value} {cs : Array Value}
theorem outR_rest (h : St w W (outR w l B c xs r)) : St w W r := h.drop.drop
theorem outR_put (hn : n = (l ++ l2).length) (h : St w W (Asrt.row 42 2 (.slice B n c) n (xs ++ ys) * (A1 * (pin w (fun W => KL k42 W l xs) * R)))) (hq : ∀ W, Below w.heap.size w W → KL k42 W l2 ys) : St w W (outR w (l ++ l2) B c (xs ++ ys) R) := by
  subst hn
  exact (h.swap.drop.swap.pinImp fun W hb hk => KL_app hk (hq W hb)).swap
theorem outR_putP {Q : World → Prop} (hn : n = (l ++ l2).length) (h : St w W (Asrt.row 42 2 (.slice B n c) n (xs ++ ys) * (A1 * (pin w Q * (pin w (fun W => KL k42 W l xs) * R))))) (hq : ∀ W, Q W → KL k42 W l2 ys) : St w W (outR w (l ++ l2) B c (xs ++ ys) R) := by
  subst hn
  exact ((h.swap.drop.swap.swap2.pinAnd).pinImp (Q1 := fun W => KL k42 W (l ++ l2) (xs ++ ys)) fun W _ hk => KL_app hk.2 (hq W hk.1)).swap
end
theorem nums_app (k : IntKind) (a b : List Int) : nums k (a ++ b) = nums k a ++ nums k b := List.map_append
def fl1 (y : Dc) : Int := bitI y.f10 32
def fl2 (y : Dc) : Int := fl1 y + bitI y.f3 16
def fl3 (y : Dc) : Int := fl2 y + bitI y.f11 8
def fl4 (y : Dc) : Int := fl3 y + bitI y.f12 4
theorem fl_bd (y : Dc) : (0 ≤ fl1 y ∧ fl1 y ≤ 62) ∧ (0 ≤ fl2 y ∧ fl2 y ≤ 62) ∧ (0 ≤ fl3 y ∧ fl3 y ≤ 62) ∧ (0 ≤ fl4 y ∧ fl4 y ≤ 62) := by
  unfold fl4 fl3 fl2 fl1 bitI
  cases y.f10 <;> cases y.f3 <;> cases y.f11 <;> cases y.f12 <;> decide
theorem fl5 (y : Dc) : flagsI y = fl4 y + bitI y.f4 2 := flags_eq y
theorem bit_t {b : Bool} {n : Int} (h : b = true) : bitI b n = n := if_pos h
theorem bit_f {b : Bool} {n : Int} (h : b = false) : bitI b n = 0 := if_neg (by rw [h]; simp)
theorem addL_t {b : Bool} {nm : ByteArray} {d : List Int} {l : List Ch} (h : b = true) : addL b nm d l = l ++ [⟨nm, d⟩] := if_pos h
theorem addL_f {b : Bool} {nm : ByteArray} {d : List Int} {l : List Ch} (h : b = false) : addL b nm d l = l := if_neg (by rw [h]; simp)
theorem rLay_calls (B : Option Addr) (c : Nat) (l : List Ch) {xs : List Value} {w0 w : World} {R : Asrt} (hs : St w0 w (Asrt.row 42 2 (.slice B l.length c) l.length xs * R)) (hk : KL k42 w0 l xs) (hl : l.length + Pure.weight l < 10000000) :
    Calls Try.prog 38 #[.slice B l.length c] w fun e w' => ∃ (B' : Option Addr) (c' : Nat), e = .returned (.slice B' (lay l).length c') ∧ St w0 w' (Asrt.row 5 1 (.slice B' (lay l).length c') (lay l).length (nums .u8 (lay l)) * R) := by
  obtain ⟨k, hk2⟩ := (ref_Lay_ev hl).rounds
  have hkw := KL_below hs.below hk
  refine (marquetryref24_Lay.calls k B c l _ w (C_of_KL hkw rfl (by omega) (rowReadsC hs (KL_one hkw))) (own_le hs.row) hk2).mono ?_
  rintro e w' ⟨u, rfl, hr, hb⟩
  have h2 := hs.drop.newRow hb (Kd.own_of_R hr) (Nat.le_refl _)
  obtain ⟨B2, c2, hv, _, _⟩ := Kd.R_reads hr
  subst hv
  exact ⟨B2, c2, rfl, h2⟩
noncomputable def rc37_code : Code := ((Try.f17.body).bind (regionIn 37)).getD .skip
set_option maxHeartbeats 16000000 in
set_option maxRecDepth 1000000 in
theorem rc37 {c0 c1 c2 c3 c4 c6 c9 c10 c12 c13 c14 c15 c16 c17 c18 c19 c20 c21 c22 c23 c24 c25 c26 c27 c28 c29 c30 c31 c32 c33 c34 c35 c36 c37 c38 c39 c40 c41 c42 c43 c44 c45 c46 c47 c48 c49 c50 c51 c52 c53 c54 c55 c56 c57 c58 c59 c60 c61 c62 c63 c64 c65 c66 c67 c68 c69 c70 c71 c72 c73 c74 c75 c76 c77 c78 c79 c80 c81 c82 c83 c84 c85 c86 c87 c88 c89 c90 c91 c92 c93 c94 c95 c96 c97 c98 c99 c100 c101 c102 c103 c104 c105 c106 c107 c108 c109 c110 c111 c112 c113 c114 c115 c116 c117 c118 c119 c120 c121 c122 c123 c124 c125 c126 c127 c128 c129 c130 c131 c132 c133 c134 c135 c136 c137 c138 c139 c140 c141 c142 c143 c144 c145 c146 c147 c148 c149 c150 c151 c152 c153 c154 c155 c156 c157 c158 c159 c160 c161 c162 c163 : Value} {Q : Exit → Act → World → Prop} (x : Fr) (l : List Ch) (w w2 : World) (gf : Nat) (R : Asrt) {A8 A9 A10 B B8 : Option Addr} {p8 p9 p10 c c8 : Nat} {xs : List Value} (HS : Aside0 (St w w2 (Asrt.row 5 1 (.slice B8 15 c8) 15 (nums .u8 (fiveV x 5)) * (Asrt.blk gf 44 #[.int .i64 x.f0, .int .i64 x.f1, .int .i64 x.f2, .int .i64 x.f3, .int .i64 x.f4, .bool x.f5, .bool x.f6, .int .i64 x.f7, .slice A8 x.f8.length p8, .slice A9 x.f9.length p9, .slice A10 x.f10.length p10] * outR w l B c xs R)))) (HKX : Aside0 (k44.K w x [.int .i64 x.f0, .int .i64 x.f1, .int .i64 x.f2, .int .i64 x.f3, .int .i64 x.f4, .bool x.f5, .bool x.f6, .int .i64 x.f7, .slice A8 x.f8.length p8, .slice A9 x.f9.length p9, .slice A10 x.f10.length p10])) (HM : Aside0 (mayP x)) (HCAP : Aside0 ((l.length + 1) * 40 ≤ 140737488355328))
    (hK : ∀ (v u132 u133 u134 u135 u136 u137 u138 u139 u140 u141 u142 u143 : Value) (wc : World), (∃ (B' : Option Addr) (c' : Nat) (xs' : List Value), v = .slice B' (l ++ [movedV x]).length c' ∧ St w wc (outR w (l ++ [movedV x]) B' c' xs' R)) → Q .normal ⟨#[c0, c1, c2, c3, c4, v, c6, Value.pointer (some ⟨gf, 0, none⟩), Value.slice B8 15 c8, c9, c10, Value.int .u8 (wayI x), c12, c13, c14, c15, c16, c17, c18, c19, c20, c21, c22, c23, c24, c25, c26, c27, c28, c29, c30, c31, c32, c33, c34, c35, c36, c37, c38, c39, c40, c41, c42, c43, c44, c45, c46, c47, c48, c49, c50, c51, c52, c53, c54, c55, c56, c57, c58, c59, c60, c61, c62, c63, c64, c65, c66, c67, c68, c69, c70, c71, c72, c73, c74, c75, c76, c77, c78, c79, c80, c81, c82, c83, c84, c85, c86, c87, c88, c89, c90, c91, c92, c93, c94, c95, c96, c97, c98, c99, c100, c101, c102, c103, c104, c105, c106, c107, c108, c109, c110, c111, c112, c113, c114, c115, c116, c117, c118, c119, c120, c121, c122, c123, c124, c125, c126, c127, c128, c129, c130, c131, u132, u133, u134, u135, u136, u137, u138, u139, u140, u141, u142, u143, c144, c145, c146, c147, c148, c149, c150, c151, c152, c153, c154, c155, c156, c157, c158, c159, c160, c161, c162, c163], []⟩ wc) :
    Code.wp Try.prog rc37_code Q ⟨#[c0, c1, c2, c3, c4, Value.slice B l.length c, c6, Value.pointer (some ⟨gf, 0, none⟩), Value.slice B8 15 c8, c9, c10, Value.int .u8 (wayI x), c12, c13, c14, c15, c16, c17, c18, c19, c20, c21, c22, c23, c24, c25, c26, c27, c28, c29, c30, c31, c32, c33, c34, c35, c36, c37, c38, c39, c40, c41, c42, c43, c44, c45, c46, c47, c48, c49, c50, c51, c52, c53, c54, c55, c56, c57, c58, c59, c60, c61, c62, c63, c64, c65, c66, c67, c68, c69, c70, c71, c72, c73, c74, c75, c76, c77, c78, c79, c80, c81, c82, c83, c84, c85, c86, c87, c88, c89, c90, c91, c92, c93, c94, c95, c96, c97, c98, c99, c100, c101, c102, c103, c104, c105, c106, c107, c108, c109, c110, c111, c112, c113, c114, c115, c116, c117, c118, c119, c120, c121, c122, c123, c124, c125, c126, c127, c128, c129, c130, c131, c132, c133, c134, c135, c136, c137, c138, c139, c140, c141, c142, c143, c144, c145, c146, c147, c148, c149, c150, c151, c152, c153, c154, c155, c156, c157, c158, c159, c160, c161, c162, c163], []⟩ w2 := by
  have HK := asiD hK
  clear hK
  conv => arg 2; whnf
  have HN : Aside0 ((2 + x.f10.length) * 40 ≤ 140737488355328) := ⟨by
    have h2 := HM.out.sz
    unfold picV at h2
    simp only [List.length_append, List.length_singleton] at h2
    omega⟩
  have HLY : Aside0 ((15 + 1 + (lay (picV x)).length) * 1 ≤ 140737488355328) := ⟨by have := lay_sz HM.out.sz; omega⟩
  have HBY := asiD (moved_bytes x)
  have HH := asiD HS.out.swap
  have a0 := (HH.out.cell 0).trans rfl
  have a1 := (HH.out.cell 1).trans rfl
  have a2 := (HH.out.cell 2).trans rfl
  have a3 := (HH.out.cell 3).trans rfl
  have a4 := (HH.out.cell 4).trans rfl
  have a5 := (HH.out.cell 5).trans rfl
  have a6 := (HH.out.cell 6).trans rfl
  have a7 := (HH.out.cell 7).trans rfl
  have a8 := (HH.out.cell 8).trans rfl
  have a9 := (HH.out.cell 9).trans rfl
  have a10 := (HH.out.cell 10).trans rfl
  go_region_held3 (fun w' => w'.cell? ⟨gf, 0, none⟩ = some (.int .i64 x.f0) ∧ w'.cell? ⟨gf, 1, none⟩ = some (.int .i64 x.f1) ∧ w'.cell? ⟨gf, 2, none⟩ = some (.int .i64 x.f2) ∧ w'.cell? ⟨gf, 3, none⟩ = some (.int .i64 x.f3) ∧ w'.cell? ⟨gf, 4, none⟩ = some (.int .i64 x.f4) ∧ w'.cell? ⟨gf, 5, none⟩ = some (.bool x.f5) ∧ w'.cell? ⟨gf, 6, none⟩ = some (.bool x.f6) ∧ w'.cell? ⟨gf, 7, none⟩ = some (.int .i64 x.f7) ∧ w'.cell? ⟨gf, 8, none⟩ = some (.slice A8 x.f8.length p8) ∧ w'.cell? ⟨gf, 9, none⟩ = some (.slice A9 x.f9.length p9) ∧ w'.cell? ⟨gf, 10, none⟩ = some (.slice A10 x.f10.length p10)) (go_keep) (first
    | (refine St.append_cells_step (w0 := w) (by rfl) (.tmp 133) (.tmp 135) 23 5 (.int .u8 0) 1 1 rfl Try.underlying23 (by kernel_rfl) rfl (by decide) (by decide) _  15 (nums .u8 (fiveV x 5)) [.int .u8 (wayI x)] (some ⟨_, 0, none⟩) 1 1 rfl rfl (HS.out.drew.allocCells 5 1 1 [.int .u8 (wayI x)] rfl (by decide)).swap (rowReadsC (HS.out.drew.allocCells 5 1 1 [.int .u8 (wayI x)] rfl (by decide)) (by simp [Value.oneCell'])) (by decide) ?_; intro Ba ca w3 hs; have HS2 : Aside0 (St w w3 (Asrt.row 5 1 (.slice Ba 16 ca) 16 (nums .u8 (fiveV x 5 ++ [wayI x])) * (Asrt.blk gf 44 #[.int .i64 x.f0, .int .i64 x.f1, .int .i64 x.f2, .int .i64 x.f3, .int .i64 x.f4, .bool x.f5, .bool x.f6, .int .i64 x.f7, .slice A8 x.f8.length p8, .slice A9 x.f9.length p9, .slice A10 x.f10.length p10] * outR w l B c xs R))) := (by rw [nums_app]; exact asiD hs.swap.drop); have b0 := (HS2.out.swap.cell 0).trans rfl; have b1 := (HS2.out.swap.cell 1).trans rfl; have b2 := (HS2.out.swap.cell 2).trans rfl; have b3 := (HS2.out.swap.cell 3).trans rfl; have b4 := (HS2.out.swap.cell 4).trans rfl; have b5 := (HS2.out.swap.cell 5).trans rfl; have b6 := (HS2.out.swap.cell 6).trans rfl; have b7 := (HS2.out.swap.cell 7).trans rfl; have b8 := (HS2.out.swap.cell 8).trans rfl; have b9 := (HS2.out.swap.cell 9).trans rfl; have b10 := (HS2.out.swap.cell 10).trans rfl; clear hs)
    | (go_at_call 40; with_reducible refine (rpicture_calls_at x _ w _ HS2.out.below HKX.out HN.out).mono ?_; rintro e w4 ⟨Bp, cp, zs, rfl, hk9, hs9⟩; have HS3 := asiD ((HS2.out.frame hs9).assoc.imp (Asrt.mono_r (Asrt.emp_l _))); have HK3 := asiD hk9; have d0 := (HS3.out.swap.drop.swap.cell 0).trans rfl; have d1 := (HS3.out.swap.drop.swap.cell 1).trans rfl; have d2 := (HS3.out.swap.drop.swap.cell 2).trans rfl; have d3 := (HS3.out.swap.drop.swap.cell 3).trans rfl; have d4 := (HS3.out.swap.drop.swap.cell 4).trans rfl; have d5 := (HS3.out.swap.drop.swap.cell 5).trans rfl; have d6 := (HS3.out.swap.drop.swap.cell 6).trans rfl; have d7 := (HS3.out.swap.drop.swap.cell 7).trans rfl; have d8 := (HS3.out.swap.drop.swap.cell 8).trans rfl; have d9 := (HS3.out.swap.drop.swap.cell 9).trans rfl; have d10 := (HS3.out.swap.drop.swap.cell 10).trans rfl; clear hk9 hs9)
    | (go_at_call 38; with_reducible refine (rLay_calls Bp cp (picV x) HS3.out HK3.out HM.out.sz).mono ?_; rintro e w5 ⟨Bl, cl, rfl, hs⟩; have HS4 := asiD hs; have e0 := (HS4.out.drop.swap.cell 0).trans rfl; have e1 := (HS4.out.drop.swap.cell 1).trans rfl; have e2 := (HS4.out.drop.swap.cell 2).trans rfl; have e3 := (HS4.out.drop.swap.cell 3).trans rfl; have e4 := (HS4.out.drop.swap.cell 4).trans rfl; have e5 := (HS4.out.drop.swap.cell 5).trans rfl; have e6 := (HS4.out.drop.swap.cell 6).trans rfl; have e7 := (HS4.out.drop.swap.cell 7).trans rfl; have e8 := (HS4.out.drop.swap.cell 8).trans rfl; have e9 := (HS4.out.drop.swap.cell 9).trans rfl; have e10 := (HS4.out.drop.swap.cell 10).trans rfl; clear hs)
    | (refine St.append_cells_step (w0 := w) (by rfl) (.tmp 136) (.tmp 139) 23 5 (.int .u8 0) 1 1 rfl Try.underlying23 (by kernel_rfl) rfl (by decide) (by decide) _  16 (nums .u8 (fiveV x 5 ++ [wayI x])) (nums .u8 (lay (picV x))) Bl (lay (picV x)).length cl rfl rfl HS4.out.swap (rowReadsC HS4.out (by simp [nums, Value.oneCell'])) HLY.out ?_; intro Bb cb w6 hs; have HS5 : Aside0 (St w w6 (Asrt.row 5 1 (.slice Bb (16 + (lay (picV x)).length) cb) (16 + (lay (picV x)).length) (nums .u8 (fiveV x 5 ++ [wayI x] ++ lay (picV x))) * (Asrt.blk gf 44 #[.int .i64 x.f0, .int .i64 x.f1, .int .i64 x.f2, .int .i64 x.f3, .int .i64 x.f4, .bool x.f5, .bool x.f6, .int .i64 x.f7, .slice A8 x.f8.length p8, .slice A9 x.f9.length p9, .slice A10 x.f10.length p10] * outR w l B c xs R))) := (by rw [nums_app]; exact asiD hs.swap.drop); have f0 := (HS5.out.swap.cell 0).trans rfl; have f1 := (HS5.out.swap.cell 1).trans rfl; have f2 := (HS5.out.swap.cell 2).trans rfl; have f3 := (HS5.out.swap.cell 3).trans rfl; have f4 := (HS5.out.swap.cell 4).trans rfl; have f5 := (HS5.out.swap.cell 5).trans rfl; have f6 := (HS5.out.swap.cell 6).trans rfl; have f7 := (HS5.out.swap.cell 7).trans rfl; have f8 := (HS5.out.swap.cell 8).trans rfl; have f9 := (HS5.out.swap.cell 9).trans rfl; have f10 := (HS5.out.swap.cell 10).trans rfl; clear hs)
    | (refine St.append_cells_step (w0 := w) (by rfl) (.tmp 132) (.tmp 142) 25 42 (.agg #[.string ⟨#[]⟩, .slice none 0 0]) 2 40 rfl Try.underlying25 (by kernel_rfl) rfl (by decide) (by decide) _  l.length xs [.string nANMF, .slice Bb (16 + (lay (picV x)).length) cb] (some ⟨_, 0, none⟩) 1 1 rfl rfl (HS5.out.pinRow.allocCells 42 2 1 [.string nANMF, .slice Bb (16 + (lay (picV x)).length) cb] rfl (by decide)).rot4 (rowReadsC (HS5.out.pinRow.allocCells 42 2 1 [.string nANMF, .slice Bb (16 + (lay (picV x)).length) cb] rfl (by decide)) (by simp [Value.oneCell'])) HCAP.out ?_; intro Bq cq w7 hs; have HS6 := asiD hs; have g0 := (hs.rot4.cell 0).trans rfl; have g1 := (hs.rot4.cell 1).trans rfl; have g2 := (hs.rot4.cell 2).trans rfl; have g3 := (hs.rot4.cell 3).trans rfl; have g4 := (hs.rot4.cell 4).trans rfl; have g5 := (hs.rot4.cell 5).trans rfl; have g6 := (hs.rot4.cell 6).trans rfl; have g7 := (hs.rot4.cell 7).trans rfl; have g8 := (hs.rot4.cell 8).trans rfl; have g9 := (hs.rot4.cell 9).trans rfl; have g10 := (hs.rot4.cell 10).trans rfl; clear hs))
  go_wp2_with fail
  all_goals apply HK.out
  all_goals exact ⟨Bq, cq, _, by rw [List.length_append]; rfl, outR_putP (by rw [List.length_append]; rfl) HS6.out.swap.drop.swap2 fun W hq => KL_chn (s := nANMF) (l := (movedV x).f1) (by rw [HBY.out]; simp [fiveV_len x 5 (by decide)]; omega) (own_le HS5.out.row) (by rw [HBY.out]; exact hq)⟩
set_option maxHeartbeats 16000000 in
set_option maxRecDepth 1000000 in
theorem rchunksW_calls (y : Dc) (ds : List Value) (w : World) (hy : k27.K w y ds) (hm : mayD y) :
    Calls Try.prog 17 #[.agg ds.toArray] w fun e w' => ∃ (B : Option Addr) (c : Nat) (xs : List Value), e = .returned (.slice B (c6V y ++ y.f14).length c) ∧ St w w' (outR w (c6V y ++ y.f14) B c xs Asrt.emp) := by
  obtain ⟨B1, d1, B2, d2, B3, d3, B4, d4, B5, d5, rfl, m1, h1, m2, h2, m3, h3, m4, h4, m5, h5⟩ := k27_open hy
  rw [hm.no]
  obtain ⟨ys, hyk, hyr⟩ := C_cells h5 (by decide)
  have H1 := asiD h1
  have H2 := asiD h2
  have H3 := asiD h3
  have H4 := asiD h4
  have HYK := asiD hyk
  have HYR := asiD hyr
  have HM := asiD hm
  have HLM := asiD h4.2.1
  have HS0 := asiD ((St.refl w).alloc #[.bool false, .int .i64 y.f1, .int .i64 y.f2, .bool y.f3, .bool y.f4, .int .u32 y.f5, .int .i64 y.f6, .slice B1 y.f7.length d1, .slice B2 y.f8.length d2, .slice B3 y.f9.length d3, .bool y.f10, .bool y.f11, .bool y.f12, .slice B4 y.f13.length d4, .slice B5 y.f14.length d5] 27)
  have hfl := fl_bd y
  have hf5 := flags_bd y
  have a1 : IntKind.i64.wrap (fl1 y + 16) = fl1 y + 16 := wi64 (by omega) (by omega)
  have a2 : IntKind.i64.wrap (fl2 y + 8) = fl2 y + 8 := wi64 (by omega) (by omega)
  have a3 : IntKind.i64.wrap (fl3 y + 4) = fl3 y + 4 := wi64 (by omega) (by omega)
  have a4 : IntKind.i64.wrap (fl4 y + 2) = fl4 y + 2 := wi64 (by omega) (by omega)
  have HF5 := asiD hf5
  clear hy h1 h2 h3 h4 h5 hm hyk hyr hfl hf5
  go_enter Try.func17, Try.ntmps17
  go_upto_region 1 with (fail)
  generalize w.alloc (.cells _ 27) = W0 at HS0 ⊢
  generalize w.heap.size = g at HS0 ⊢
  have q0 : W0.cell? ⟨g, 0, none⟩ = some (.bool false) := (HS0.out.cell 0).trans rfl
  go_upto_region 3 with (fail)
  clear q0
  have q10 : W0.cell? ⟨g, 10, none⟩ = some (.bool y.f10) := (HS0.out.cell 10).trans rfl
  go_upto_if 20 with (fail)
  clear q10
  go_cut [3] from 20 to 22 (fun v wc => v = .int .i64 (fl1 y) ∧ wc = W0)
  case first =>
    go_wp2_with fail
    all_goals go_meet
    all_goals (case rel => rename_i hb; exact ⟨congrArg (Value.int .i64) (by first | rw [show fl1 y = bitI y.f10 32 from rfl, bit_t hb] | rw [show fl1 y = bitI y.f10 32 from rfl, bit_f hb, Int.add_zero] | rw [show fl1 y = bitI y.f10 32 from rfl, bit_t hb] | rw [show fl1 y = bitI y.f10 32 from rfl, bit_f hb]), rfl⟩)
  obtain ⟨rfl, hw⟩ := hcut
  rw [hw]
  clear hw wc
  have q3 : W0.cell? ⟨g, 3, none⟩ = some (.bool y.f3) := (HS0.out.cell 3).trans rfl
  go_upto_if 24 with (fail)
  clear q3
  go_cut [3] from 24 to 26 (fun v wc => v = .int .i64 (fl2 y) ∧ wc = W0)
  case first =>
    go_wp2_with fail
    all_goals go_meet
    all_goals (case rel => rename_i hb; exact ⟨congrArg (Value.int .i64) (by first | rw [show fl2 y = fl1 y + bitI y.f3 16 from rfl, bit_t hb] | rw [show fl2 y = fl1 y + bitI y.f3 16 from rfl, bit_f hb, Int.add_zero] | rw [show fl2 y = fl1 y + bitI y.f3 16 from rfl, bit_t hb] | rw [show fl2 y = fl1 y + bitI y.f3 16 from rfl, bit_f hb]), rfl⟩)
  obtain ⟨rfl, hw⟩ := hcut
  rw [hw]
  clear hw wc
  have q11 : W0.cell? ⟨g, 11, none⟩ = some (.bool y.f11) := (HS0.out.cell 11).trans rfl
  go_upto_if 28 with (fail)
  clear q11
  go_cut [3] from 28 to 30 (fun v wc => v = .int .i64 (fl3 y) ∧ wc = W0)
  case first =>
    go_wp2_with fail
    all_goals go_meet
    all_goals (case rel => rename_i hb; exact ⟨congrArg (Value.int .i64) (by first | rw [show fl3 y = fl2 y + bitI y.f11 8 from rfl, bit_t hb] | rw [show fl3 y = fl2 y + bitI y.f11 8 from rfl, bit_f hb, Int.add_zero] | rw [show fl3 y = fl2 y + bitI y.f11 8 from rfl, bit_t hb] | rw [show fl3 y = fl2 y + bitI y.f11 8 from rfl, bit_f hb]), rfl⟩)
  obtain ⟨rfl, hw⟩ := hcut
  rw [hw]
  clear hw wc
  have q12 : W0.cell? ⟨g, 12, none⟩ = some (.bool y.f12) := (HS0.out.cell 12).trans rfl
  go_upto_if 32 with (fail)
  clear q12
  go_cut [3] from 32 to 34 (fun v wc => v = .int .i64 (fl4 y) ∧ wc = W0)
  case first =>
    go_wp2_with fail
    all_goals go_meet
    all_goals (case rel => rename_i hb; exact ⟨congrArg (Value.int .i64) (by first | rw [show fl4 y = fl3 y + bitI y.f12 4 from rfl, bit_t hb] | rw [show fl4 y = fl3 y + bitI y.f12 4 from rfl, bit_f hb, Int.add_zero] | rw [show fl4 y = fl3 y + bitI y.f12 4 from rfl, bit_t hb] | rw [show fl4 y = fl3 y + bitI y.f12 4 from rfl, bit_f hb]), rfl⟩)
  obtain ⟨rfl, hw⟩ := hcut
  rw [hw]
  clear hw wc
  have q4 : W0.cell? ⟨g, 4, none⟩ = some (.bool y.f4) := (HS0.out.cell 4).trans rfl
  go_upto_if 36 with (fail)
  clear q4
  go_cut [3] from 36 to 38 (fun v wc => v = .int .i64 (flagsI y) ∧ wc = W0)
  case first =>
    go_wp2_with fail
    all_goals go_meet
    all_goals (case rel => rename_i hb; exact ⟨congrArg (Value.int .i64) (by first | rw [fl5 y, bit_t hb] | rw [fl5 y, bit_f hb, Int.add_zero] | rw [fl5 y, bit_t hb] | rw [fl5 y, bit_f hb]), rfl⟩)
  obtain ⟨rfl, hw⟩ := hcut
  rw [hw]
  clear hw wc
  clear a1 a2 a3 a4
  have HX1 := asiD HM.out.x1
  have HX2 := asiD HM.out.x2
  have u0 : IntKind.u8.wrap (flagsI y) = flagsI y := by have := HF5.out; simp [IntKind.wrap, IntKind.bits, IntKind.signed]; omega
  have e1 : IntKind.i64.wrap (y.f1 - 1) = y.f1 - 1 := wi64 (by have := HX1.out; omega) (by have := HX1.out; omega)
  have e2 : IntKind.i64.wrap (y.f2 - 1) = y.f2 - 1 := wi64 (by have := HX2.out; omega) (by have := HX2.out; omega)
  have u1 : IntKind.u64.wrap (y.f1 - 1) = y.f1 - 1 := wu64 (by have := HX1.out; omega) (by have := HX1.out; omega)
  have u2 : IntKind.u64.wrap (y.f2 - 1) = y.f2 - 1 := wu64 (by have := HX2.out; omega) (by have := HX2.out; omega)
  have HP1 : Aside0 (0 ≤ y.f1 - 1 ∧ y.f1 - 1 < 256 ^ 3) := ⟨by have := HX1.out; omega, by have := HX1.out; omega⟩
  have HP2 : Aside0 (0 ≤ y.f2 - 1 ∧ y.f2 - 1 < 256 ^ 3) := ⟨by have := HX2.out; omega, by have := HX2.out; omega⟩
  have HS1 : Aside0 (St w (W0.alloc (.cells #[.int .u8 (flagsI y), .int .u8 0, .int .u8 0, .int .u8 0] 5)) (Asrt.row 5 1 (.slice (some ⟨W0.heap.size, 0, none⟩) 4 4) 4 (nums .u8 [flagsI y, 0, 0, 0]) * (Asrt.blk g 27 #[.bool false, .int .i64 y.f1, .int .i64 y.f2, .bool y.f3, .bool y.f4, .int .u32 y.f5, .int .i64 y.f6, .slice B1 y.f7.length d1, .slice B2 y.f8.length d2, .slice B3 y.f9.length d3, .bool y.f10, .bool y.f11, .bool y.f12, .slice B4 y.f13.length d4, .slice B5 y.f14.length d5] * Asrt.emp))) := ⟨HS0.out.allocRow 5 .u8 [flagsI y, 0, 0, 0] (show 4 ≤ 9223372036854775807 by decide)⟩
  have z1 : (W0.alloc (.cells #[.int .u8 (flagsI y), .int .u8 0, .int .u8 0, .int .u8 0] 5)).cell? ⟨g, 1, none⟩ = some (.int .i64 y.f1) := (HS1.out.swap.cell 1).trans rfl
  go_upto_region 16 with (first
    | (go_at_call 39; with_reducible refine (NumS_calls 3 3 (y.f1 - 1) rfl HS1.out (by decide) (by decide) HP1.out.1 HP1.out.2).mono ?_; rintro e w1 ⟨Bn, cn, rfl, hcn, hs⟩; have HS2 := asiD hs.swap; have HR2 := asiD (rowReads hs); clear hs hcn z1)
    | (at_builtin; with_reducible refine St.append_row (w0 := w) rfl (.tmp 41) (.tmp 46) 23 5 .u8 1 rfl Try.underlying23 (by kernel_rfl) (by decide) _ 4 [flagsI y, 0, 0, 0] (Pure.bytes 3 (y.f1 - 1)) Bn 3 cn rfl rfl HS2.out HR2.out (by decide) ?_; intro B6 c6 w2 hs; have HS3 : Aside0 (St w w2 (Asrt.row 5 1 (.slice B6 7 c6) 7 (nums .u8 ([flagsI y, 0, 0, 0] ++ Pure.bytes 3 (y.f1 - 1))) * (Asrt.blk g 27 #[.bool false, .int .i64 y.f1, .int .i64 y.f2, .bool y.f3, .bool y.f4, .int .u32 y.f5, .int .i64 y.f6, .slice B1 y.f7.length d1, .slice B2 y.f8.length d2, .slice B3 y.f9.length d3, .bool y.f10, .bool y.f11, .bool y.f12, .slice B4 y.f13.length d4, .slice B5 y.f14.length d5] * Asrt.emp))) := asiD hs.swap.drop; have z2 : w2.cell? ⟨g, 2, none⟩ = some (.int .i64 y.f2) := (HS3.out.swap.cell 2).trans rfl; clear hs)
    | (go_at_call 39; with_reducible refine (NumS_calls 3 3 (y.f2 - 1) rfl HS3.out (by decide) (by decide) HP2.out.1 HP2.out.2).mono ?_; rintro e w3 ⟨Bm, cm, rfl, hcm, hs⟩; have HS4 := asiD hs.swap; have HR4 := asiD (rowReads hs); clear hs hcm z2)
    | (at_builtin; with_reducible refine St.append_row (w0 := w) rfl (.tmp 48) (.tmp 53) 23 5 .u8 1 rfl Try.underlying23 (by kernel_rfl) (by decide) _ 7 ([flagsI y, 0, 0, 0] ++ Pure.bytes 3 (y.f1 - 1)) (Pure.bytes 3 (y.f2 - 1)) Bm 3 cm rfl rfl HS4.out HR4.out (by decide) ?_; intro B7 c7 w4 hs; have HS5 : Aside0 (St w w4 (Asrt.row 5 1 (.slice B7 10 c7) 10 (nums .u8 ([flagsI y, 0, 0, 0] ++ Pure.bytes 3 (y.f1 - 1) ++ Pure.bytes 3 (y.f2 - 1))) * (Asrt.blk g 27 #[.bool false, .int .i64 y.f1, .int .i64 y.f2, .bool y.f3, .bool y.f4, .int .u32 y.f5, .int .i64 y.f6, .slice B1 y.f7.length d1, .slice B2 y.f8.length d2, .slice B3 y.f9.length d3, .bool y.f10, .bool y.f11, .bool y.f12, .slice B4 y.f13.length d4, .slice B5 y.f14.length d5] * Asrt.emp))) := asiD hs.swap.drop; clear hs))
  have HQ : Aside0 (St w (w4.alloc (.cells #[.string nVP8X, .slice B7 10 c7] 42)) (outR w (c1V y) (some ⟨w4.heap.size, 0, none⟩) 1 [.string nVP8X, .slice B7 10 c7] (Asrt.blk g 27 #[.bool false, .int .i64 y.f1, .int .i64 y.f2, .bool y.f3, .bool y.f4, .int .u32 y.f5, .int .i64 y.f6, .slice B1 y.f7.length d1, .slice B2 y.f8.length d2, .slice B3 y.f9.length d3, .bool y.f10, .bool y.f11, .bool y.f12, .slice B4 y.f13.length d4, .slice B5 y.f14.length d5] * Asrt.emp))) := ⟨by
    have hc := own_le HS5.out.row
    have h := (HS5.out.pinRow.allocCells 42 2 1 [.string nVP8X, .slice B7 10 c7] rfl (by decide)).swap
    refine (h.pinImp (Q1 := fun W => KL k42 W (c1V y) [.string nVP8X, .slice B7 10 c7]) fun W _ hq => ?_).swap
    exact KL_chn (by rw [top_bytes]; simp [bytes_len]) hc (by rw [top_bytes]; exact hq)⟩
  clear HS1 HS2 HR2 HS3 HS4 HR4 HS5 u0 e1 e2 u1 u2 HP1 HP2 HX1 HX2 HF5
  generalize w4.alloc (.cells _ 42) = W3 at HQ ⊢
  generalize w4.heap.size = gb at HQ ⊢
  have q1 : W3.cell? ⟨g, 10, none⟩ = some (.bool y.f10) := ((outR_rest HQ.out).cell 10).trans rfl
  have q2 : W3.cell? ⟨g, 7, none⟩ = some (.slice B1 y.f7.length d1) := ((outR_rest HQ.out).cell 7).trans rfl
  go_upto_if 58 with (fail)
  have hcap : ((c1V y).length + 1) * 40 ≤ 140737488355328 := by show (1 + 1) * 40 ≤ _; decide
  have HCAP := asiD hcap
  clear hcap q1
  go_cut [5] from 58 to 64 (fun v wc => ∃ (B : Option Addr) (c : Nat) (xs : List Value), v = .slice B (c2V y).length c ∧ St w wc (outR w (c2V y) B c xs (Asrt.blk g 27 #[.bool false, .int .i64 y.f1, .int .i64 y.f2, .bool y.f3, .bool y.f4, .int .u32 y.f5, .int .i64 y.f6, .slice B1 y.f7.length d1, .slice B2 y.f8.length d2, .slice B3 y.f9.length d3, .bool y.f10, .bool y.f11, .bool y.f12, .slice B4 y.f13.length d4, .slice B5 y.f14.length d5] * Asrt.emp)))
  case first =>
    have HSL := asiD ((HQ.out.allocCells 42 2 1 [.string nICCP, .slice B1 y.f7.length d1] rfl (by decide)).swap)
    go_upto_region 17 with (fail)
    all_goals (rename_i hb; have HB := asiD hb; clear hb)
    all_goals go_wp2_with (at_builtin; refine St.append_cells (w0 := w) rfl (.tmp 59) (.tmp 63) 25 42 (.agg #[.string ⟨#[]⟩, .slice none 0 0]) 2 40 rfl Try.underlying25 (by kernel_rfl) rfl (by decide) (by decide) _ (c1V y).length _ [.string nICCP, .slice B1 y.f7.length d1] (some ⟨_, 0, none⟩) 1 1 rfl rfl HSL.out (rowReadsC HSL.out.swap (by simp [Value.oneCell'])) HCAP.out ?_; intro Bp cp w5 hs; have HSP := asiD hs; clear hs)
    all_goals go_meet
    all_goals (case rel => have hb := HB.out; first
      | (rw [show c2V y = c1V y ++ [⟨nICCP, y.f7⟩] from addL_t hb]; exact ⟨_, _, _, by rw [List.length_append]; rfl, outR_put (by rw [List.length_append]; rfl) HSP.out fun W hW => KL_ch1 m1 (Kd.C_below H1.out hW)⟩)
      | (rw [show c2V y = c1V y from addL_f hb]; exact ⟨_, _, _, rfl, HQ.out⟩)
      | (trace_state; fail))
  obtain ⟨B6, c6, x6, rfl, hs⟩ := hcut
  clear HQ q2 HCAP
  have HQ := asiD hs
  clear hs
  have q4 : wc.cell? ⟨g, 4, none⟩ = some (.bool y.f4) := ((outR_rest HQ.out).cell 4).trans rfl
  have q5 : wc.cell? ⟨g, 5, none⟩ = some (.int .u32 y.f5) := ((outR_rest HQ.out).cell 5).trans rfl
  have q6 : wc.cell? ⟨g, 6, none⟩ = some (.int .i64 y.f6) := ((outR_rest HQ.out).cell 6).trans rfl
  go_upto_if 66 with (fail)
  clear q4
  have HX5 := asiD HM.out.x5
  have HX6 := asiD HM.out.x6
  have u5 : IntKind.u64.wrap y.f5 = y.f5 := wu64 (by have := HX5.out; omega) (by have := HX5.out; omega)
  have u6 : IntKind.u64.wrap y.f6 = y.f6 := wu64 (by have := HX6.out; omega) (by have := HX6.out; omega)
  have HP5 : Aside0 (0 ≤ y.f5 ∧ y.f5 < 256 ^ 4) := ⟨by have := HX5.out; omega, by have := HX5.out; omega⟩
  have HP6 : Aside0 (0 ≤ y.f6 ∧ y.f6 < 256 ^ 2) := ⟨by have := HX6.out; omega, by have := HX6.out; omega⟩
  have hcap : ((c2V y).length + 1) * 40 ≤ 140737488355328 := by have := cap_c2 HM.out; omega
  have HCAP := asiD hcap
  clear hcap
  go_cut [5] from 66 to 79 (fun v wc => ∃ (B : Option Addr) (c : Nat) (xs : List Value), v = .slice B (c3V y).length c ∧ St w wc (outR w (c3V y) B c xs (Asrt.blk g 27 #[.bool false, .int .i64 y.f1, .int .i64 y.f2, .bool y.f3, .bool y.f4, .int .u32 y.f5, .int .i64 y.f6, .slice B1 y.f7.length d1, .slice B2 y.f8.length d2, .slice B3 y.f9.length d3, .bool y.f10, .bool y.f11, .bool y.f12, .slice B4 y.f13.length d4, .slice B5 y.f14.length d5] * Asrt.emp)))
  case first =>
    go_upto_region 19 with (fail)
    · rename_i hb
      have HE3 := asiD (show c3V y = c2V y ++ [⟨nANIM, putV (aniV y)⟩] from addL_t hb)
      clear hb
      go_region_held3 (fun w' => w'.cell? ⟨g, 5, none⟩ = some (.int .u32 y.f5) ∧ w'.cell? ⟨g, 6, none⟩ = some (.int .i64 y.f6)) (go_keep) (first
        | (go_at_call 39; with_reducible refine (NumS_calls 4 4 y.f5 rfl HQ.out.drew (by decide) (by decide) HP5.out.1 HP5.out.2).mono ?_; rintro e w1 ⟨Bn, cn, rfl, hcn, hs⟩; have HS2 := asiD hs; have s5 := ((outR_rest hs.drop).cell 5).trans rfl; have s6 := ((outR_rest hs.drop).cell 6).trans rfl; clear hs hcn)
        | (go_at_call 39; with_reducible refine (NumS_calls 2 2 y.f6 rfl HS2.out (by decide) (by decide) HP6.out.1 HP6.out.2).mono ?_; rintro e w2 ⟨Bm, cm, rfl, hcm, hs⟩; have HS3 := asiD hs.swap; have HR3 := asiD hs; have r5 := ((outR_rest hs.drop.drop).cell 5).trans rfl; have r6 := ((outR_rest hs.drop.drop).cell 6).trans rfl; clear hs hcm)
        | (refine St.append_cells_step (w0 := w) (by rfl) (.tmp 71) (.tmp 75) 23 5 (.int .u8 0) 1 1 rfl Try.underlying23 (by kernel_rfl) rfl (by decide) (by decide) _ 4 (nums .u8 (Pure.bytes 4 y.f5)) (nums .u8 (Pure.bytes 2 y.f6)) Bm 2 cm rfl rfl HS3.out (rowReadsC HR3.out (by simp [nums, Value.oneCell'])) (by decide) ?_; intro B9 c9 w3 hs; have HS4 : Aside0 (St w w3 (Asrt.row 5 1 (.slice B9 6 c9) 6 (nums .u8 (Pure.bytes 4 y.f5 ++ Pure.bytes 2 y.f6)) * outR w (c2V y) B6 c6 x6 (Asrt.blk g 27 #[.bool false, .int .i64 y.f1, .int .i64 y.f2, .bool y.f3, .bool y.f4, .int .u32 y.f5, .int .i64 y.f6, .slice B1 y.f7.length d1, .slice B2 y.f8.length d2, .slice B3 y.f9.length d3, .bool y.f10, .bool y.f11, .bool y.f12, .slice B4 y.f13.length d4, .slice B5 y.f14.length d5] * Asrt.emp))) := (by rw [nums_app]; exact asiD hs.swap.drop); have t5 := ((outR_rest HS4.out.drop).cell 5).trans rfl; have t6 := ((outR_rest HS4.out.drop).cell 6).trans rfl; clear hs)
        | (refine St.append_cells_step (w0 := w) (by rfl) (.tmp 67) (.tmp 78) 25 42 (.agg #[.string ⟨#[]⟩, .slice none 0 0]) 2 40 rfl Try.underlying25 (by kernel_rfl) rfl (by decide) (by decide) _ (c2V y).length x6 [.string nANIM, .slice B9 6 c9] (some ⟨_, 0, none⟩) 1 1 rfl rfl ((HS4.out.pinRow.allocCells 42 2 1 [.string nANIM, .slice B9 6 c9] rfl (by decide)).rot3) (rowReadsC (HS4.out.pinRow.allocCells 42 2 1 [.string nANIM, .slice B9 6 c9] rfl (by decide)) (by simp [Value.oneCell'])) HCAP.out ?_; intro Bp cp w4' hs; have HS5 := asiD hs; have v5 := (hs.drop.drop.drop.drop.cell 5).trans rfl; have v6 := (hs.drop.drop.drop.drop.cell 6).trans rfl; clear hs))
      go_wp2_with fail
      go_meet
      case rel =>
        rw [HE3.out]
        refine ⟨_, _, _, by rw [List.length_append]; rfl, outR_putP (by rw [List.length_append]; rfl) HS5.out fun W hq => KL_chn (by rw [ani_bytes]; simp [bytes_len]) (own_le HS4.out.row) (by rw [ani_bytes]; exact hq)⟩
    · rename_i hb
      go_wp2_with fail
      go_meet
      case rel =>
        rw [show c3V y = c2V y from addL_f hb]
        exact ⟨_, _, _, rfl, HQ.out⟩
  obtain ⟨B7, c7, x7, rfl, hs⟩ := hcut
  clear HQ q5 q6 HCAP HX5 HX6 u5 u6 HP5 HP6
  have HQ := asiD hs
  clear hs
  have q13 : wc.cell? ⟨g, 13, none⟩ = some (.slice B4 y.f13.length d4) := ((outR_rest HQ.out).cell 13).trans rfl
  go_wp2_with fail
  clear q13
  go_loopw [5, 6] (fun o i wr => ∃ (k : Nat) (B : Option Addr) (c : Nat) (xs : List Value), k ≤ y.f13.length ∧ o = .slice B (c4V y k).length c ∧ i = .int .i64 k ∧ St w wr (outR w (c4V y k) B c xs (Asrt.blk g 27 #[.bool false, .int .i64 y.f1, .int .i64 y.f2, .bool y.f3, .bool y.f4, .int .u32 y.f5, .int .i64 y.f6, .slice B1 y.f7.length d1, .slice B2 y.f8.length d2, .slice B3 y.f9.length d3, .bool y.f10, .bool y.f11, .bool y.f12, .slice B4 y.f13.length d4, .slice B5 y.f14.length d5] * Asrt.emp))) (fun _ i _ => y.f13.length - (intOf i).toNat)
  case atStart => exact ⟨0, B7, c7, x7, Nat.zero_le _, by rw [c4V_zero], rfl, by rw [c4V_zero]; exact HQ.out⟩
  case round =>
    obtain ⟨k, B, c, xs, hk, rfl, rfl, hs⟩ := hrel
    clear HQ
    have z13 : wr.cell? ⟨g, 13, none⟩ = some (.slice B4 y.f13.length d4) := ((outR_rest hs).cell 13).trans rfl
    by_cases hlt : k < y.f13.length
    · have y1 : decide ((k : Int) < y.f13.length) = true := decide_eq_true (by omega)
      have y2 : decide (k < y.f13.length) = true := decide_eq_true hlt
      have y3 : (k < y.f13.length) = True := eq_true hlt
      have y4 : ((k : Int) < y.f13.length) = True := eq_true (by omega)
      have k16 : k ≤ 9223372036854775806 := by have := HLM.out; omega
      obtain ⟨ad1, A8, c8, A9, c9, A10, c10, rfl, e0, e1, e2, e3, e4, e5, e6, e7, e8, e9, e10, m8, g8, m9, g9, m10, g10⟩ := at_T44 H4.out (k : Int) (by omega) (by omega)
      simp only [Int.toNat_natCast] at e0 e1 e2 e3 e4 e5 e6 e7 e8 e9 e10
      replace e0 := (cellL hs.below e0)
      replace e1 := (cellL hs.below e1)
      replace e2 := (cellL hs.below e2)
      replace e3 := (cellL hs.below e3)
      replace e4 := (cellL hs.below e4)
      replace e5 := (cellL hs.below e5)
      replace e6 := (cellL hs.below e6)
      replace e7 := (cellL hs.below e7)
      replace e8 := (cellL hs.below e8)
      replace e9 := (cellL hs.below e9)
      replace e10 := (cellL hs.below e10)
      have hcut := getD_cut z44 hlt
      have hin := getD_in z44 hlt
      rw [show y.f13.getD k z44 = rd_T44 y.f13 k from rfl] at hcut hin
      generalize rd_T44 y.f13 k = x at *
      have HPN := asiD (HM.out.pn x hin)
      have HMF := asiD (fun h => HM.out.fr h x hin)
      have HKX := asiD (k44_mk w x m8 g8 m9 g9 m10 g10)
      have HLT := asiD hlt
      have HC4 := asiD (c4V_succ hcut)
      have HCK := asiD (cap_c4k HM.out (k + 1))
      have HS7 := asiD (hs.alloc #[.int .i64 x.f0, .int .i64 x.f1, .int .i64 x.f2, .int .i64 x.f3, .int .i64 x.f4, .bool x.f5, .bool x.f6, .int .i64 x.f7, .slice A8 x.f8.length c8, .slice A9 x.f9.length c9, .slice A10 x.f10.length c10] 44)
      clear hs hlt hk hcut hin g8 g9 g10 m8 m9 m10
      go_upto_region 24 with (fail)
      clear z13 e0 e1 e2 e3 e4 e5 e6 e7 e8 e9 e10
      generalize wr.alloc (.cells _ 44) = W8 at HS7 ⊢
      generalize wr.heap.size = gf at HS7 ⊢
      have q4 : W8.cell? ⟨g, 4, none⟩ = some (.bool y.f4) := ((outR_rest HS7.out.drop).cell 4).trans rfl
      by_cases hf4 : y.f4 = true
      · have q4' : W8.cell? ⟨g, 4, none⟩ = some (.bool true) := by rw [← hf4]; exact q4
        clear q4
        have HE4 := asiD (show c4V y (k + 1) = c4V y k ++ [movedV x] by rw [HC4.out, hf4]; rfl)
        have HMP := asiD (HMF.out hf4)
        have hck : ((c4V y k).length + 1) * 40 ≤ 140737488355328 := by
          have h1 := HCK.out
          rw [HE4.out, List.length_append] at h1
          have : [movedV x].length = 1 := rfl
          omega
        have HCAP := asiD hck
        clear hf4 hck
        have hmp := HMP.out
        have hxx := hmp.x0
        have hxy := hmp.x1
        have hxw := hmp.x2
        have hxh := hmp.x3
        have e0 : IntKind.i64.wrap (x.f0.tdiv 2) = x.f0.tdiv 2 := wi64 (by rw [Int.tdiv_eq_ediv_of_nonneg hxx.1]; omega) (by rw [Int.tdiv_eq_ediv_of_nonneg hxx.1]; omega)
        have e1 : IntKind.i64.wrap (x.f1.tdiv 2) = x.f1.tdiv 2 := wi64 (by rw [Int.tdiv_eq_ediv_of_nonneg hxy.1]; omega) (by rw [Int.tdiv_eq_ediv_of_nonneg hxy.1]; omega)
        have e2 : IntKind.i64.wrap (x.f2 - 1) = x.f2 - 1 := wi64 (by omega) (by omega)
        have e3 : IntKind.i64.wrap (x.f3 - 1) = x.f3 - 1 := wi64 (by omega) (by omega)
        clear hmp hxx hxy hxw hxh
        have zf := fun i => HS7.out.cell i
        have HS8 : Aside0 (St w (W8.alloc (.cells #[.int .i64 (x.f0.tdiv 2), .int .i64 (x.f1.tdiv 2), .int .i64 (x.f2 - 1), .int .i64 (x.f3 - 1), .int .i64 x.f4] 3)) (Asrt.row 3 1 (.slice (some ⟨W8.heap.size, 0, none⟩) 5 5) 5 (nums .i64 (fiveI x)) * (Asrt.blk gf 44 #[.int .i64 x.f0, .int .i64 x.f1, .int .i64 x.f2, .int .i64 x.f3, .int .i64 x.f4, .bool x.f5, .bool x.f6, .int .i64 x.f7, .slice A8 x.f8.length c8, .slice A9 x.f9.length c9, .slice A10 x.f10.length c10] * outR w (c4V y k) B c xs (Asrt.blk g 27 #[.bool false, .int .i64 y.f1, .int .i64 y.f2, .bool y.f3, .bool y.f4, .int .u32 y.f5, .int .i64 y.f6, .slice B1 y.f7.length d1, .slice B2 y.f8.length d2, .slice B3 y.f9.length d3, .bool y.f10, .bool y.f11, .bool y.f12, .slice (some ad1) y.f13.length d4, .slice B5 y.f14.length d5] * Asrt.emp)))) := ⟨HS7.out.allocRow 3 .i64 (fiveI x) (show 5 ≤ 9223372036854775807 by decide)⟩
        go_upto_region 28 with (fail)
        clear zf q4' e0 e1 e2 e3 HS7
        generalize W8.alloc (.cells _ 3) = W9 at HS8 ⊢
        generalize W8.heap.size = gl at HS8 ⊢
        go_wp2_with fail
        go_loopw [8, 10] (fun b i wr => ∃ (j : Nat) (B8 : Option Addr) (c8' : Nat), j ≤ 5 ∧ b = .slice B8 (3 * j) c8' ∧ i = .int .i64 j ∧ St w wr (Asrt.row 5 1 (.slice B8 (3 * j) c8') (3 * j) (nums .u8 (fiveV x j)) * (Asrt.row 3 1 (.slice (some ⟨gl, 0, none⟩) 5 5) 5 (nums .i64 (fiveI x)) * (Asrt.blk gf 44 #[.int .i64 x.f0, .int .i64 x.f1, .int .i64 x.f2, .int .i64 x.f3, .int .i64 x.f4, .bool x.f5, .bool x.f6, .int .i64 x.f7, .slice A8 x.f8.length c8, .slice A9 x.f9.length c9, .slice A10 x.f10.length c10] * outR w (c4V y k) B c xs (Asrt.blk g 27 #[.bool false, .int .i64 y.f1, .int .i64 y.f2, .bool y.f3, .bool y.f4, .int .u32 y.f5, .int .i64 y.f6, .slice B1 y.f7.length d1, .slice B2 y.f8.length d2, .slice B3 y.f9.length d3, .bool y.f10, .bool y.f11, .bool y.f12, .slice (some ad1) y.f13.length d4, .slice B5 y.f14.length d5] * Asrt.emp))))) (fun _ i _ => 5 - (intOf i).toNat)
        case atStart => exact ⟨0, none, 0, by decide, rfl, rfl, HS8.out.rowNil 5 1⟩
        case round =>
          obtain ⟨j, B8, c8', hj, rfl, rfl, hs⟩ := hrel
          clear HS8
          by_cases hlt : j < 5
          · have hf := five_fit HMP.out hlt
            have cj : wr.cell? ⟨gl, j, none⟩ = some (.int .i64 (rd (fiveI x) j)) := by
              have h := (hs.swap.rowAt (j : Int) (by omega) (by omega)).1
              simpa using h
            have HNX := asiD (fiveV_next (f := x) hlt)
            generalize rd (fiveI x) (j : Int) = vj at *
            have uj : IntKind.u64.wrap vj = vj := wu64 hf.1 (by omega)
            have HPJ : Aside0 (0 ≤ vj ∧ vj < 256 ^ 3) := ⟨hf.1, by omega⟩
            have x1 : decide ((j : Int) < 5) = true := decide_eq_true (by omega)
            have x2 : decide (j < 5) = true := decide_eq_true hlt
            have x3 : (j < 5) = True := eq_true hlt
            have x4 : ((j : Int) < 5) = True := eq_true (by omega)
            have HJ := asiD hlt
            have j16 : j ≤ 9223372036854775806 := by omega
            have HS9 := asiD hs
            clear hs hf hj hlt
            go_wp2_with (first
              | (go_at_call 39; with_reducible refine (NumS_calls 3 3 vj rfl HS9.out (by decide) (by decide) HPJ.out.1 HPJ.out.2).mono ?_; rintro e w1 ⟨Bn, cn, rfl, hcn, hs⟩; have HS10 := asiD hs.swap; have HR10 := asiD (rowReads hs); clear hs hcn)
              | (at_builtin; refine St.append_row (w0 := w) rfl (.tmp 118) (.tmp 124) 23 5 .u8 1 rfl Try.underlying23 (by kernel_rfl) (by decide) _ (3 * j) (fiveV x j) (Pure.bytes 3 vj) Bn 3 cn rfl rfl HS10.out HR10.out (by have := HJ.out; omega) ?_; intro Bq cq w2 hs; have HS11 := asiD hs.swap.drop; clear hs))
            go_roundw
            case rel => exact ⟨j + 1, Bq, cq, HJ.out, rfl, by go_num, by rw [HNX.out]; exact HS11.out⟩
            case measure => have := HJ.out; simp [intOf]; omega
          · obtain rfl : j = 5 := by omega
            have x1 : decide (((5 : Nat) : Int) < 5) = false := by decide
            have x2 : decide ((5 : Int) < 5) = false := by decide
            have HS9 : Aside0 (St w wr (Asrt.row 5 1 (.slice B8 15 c8') 15 (nums .u8 (fiveV x 5)) * (Asrt.blk gf 44 #[.int .i64 x.f0, .int .i64 x.f1, .int .i64 x.f2, .int .i64 x.f3, .int .i64 x.f4, .bool x.f5, .bool x.f6, .int .i64 x.f7, .slice A8 x.f8.length c8, .slice A9 x.f9.length c9, .slice A10 x.f10.length c10] * outR w (c4V y k) B c xs (Asrt.blk g 27 #[.bool false, .int .i64 y.f1, .int .i64 y.f2, .bool y.f3, .bool y.f4, .int .u32 y.f5, .int .i64 y.f6, .slice B1 y.f7.length d1, .slice B2 y.f8.length d2, .slice B3 y.f9.length d3, .bool y.f10, .bool y.f11, .bool y.f12, .slice (some ad1) y.f13.length d4, .slice B5 y.f14.length d5] * Asrt.emp)))) := ⟨hs.swap.drop⟩
            have s5 : wr.cell? ⟨gf, 5, none⟩ = some (.bool x.f5) := (HS9.out.swap.cell 5).trans rfl
            have s6 : wr.cell? ⟨gf, 6, none⟩ = some (.bool x.f6) := (HS9.out.swap.cell 6).trans rfl
            have hw0 : 0 ≤ bitI x.f5 2 ∧ bitI x.f5 2 ≤ 2 := by unfold bitI; cases x.f5 <;> decide
            have aw : IntKind.u8.wrap (bitI x.f5 2 + 1) = bitI x.f5 2 + 1 := by simp [IntKind.wrap, IntKind.bits, IntKind.signed]; omega
            clear hs hlt hj hw0
            go_upto_if 127 with (fail)
            go_cut [11] from 127 to 127 (fun v wc => v = .int .u8 (bitI x.f5 2) ∧ wc = wr)
            case first =>
              go_wp2_with fail
              all_goals go_meet
              all_goals (case rel => rename_i hb; exact ⟨congrArg (Value.int .u8) (by first | rw [bit_t hb] | rw [bit_f hb]), rfl⟩)
            obtain ⟨rfl, hw⟩ := hcut
            rw [hw]
            clear hw
            go_upto_if 129 with (fail)
            go_cut [11] from 129 to 131 (fun v wc => v = .int .u8 (wayI x) ∧ wc = wr)
            case first =>
              go_wp2_with fail
              all_goals go_meet
              all_goals (case rel => rename_i hb; exact ⟨congrArg (Value.int .u8) (by rw [way_eq]; first | rw [bit_t hb] | rw [bit_f (b := x.f6) hb, Int.add_zero]), rfl⟩)
            obtain ⟨rfl, hw⟩ := hcut
            rw [hw]
            clear hw s5 s6 aw
            go_upto_region 37 with (fail)
            refine rc37 x (c4V y k) w _ gf _ HS9 HKX HMP HCAP ?_
            intro v u132 u133 u134 u135 u136 u137 u138 u139 u140 u141 u142 u143 wc hcut
            obtain ⟨B', c', xs', rfl, hs⟩ := hcut
            have HS10 := asiD hs
            clear hs HS9
            go_wp2_with fail
            go_roundw
            case rel => exact ⟨k + 1, B', c', xs', HLT.out, by rw [HE4.out], by go_num, by rw [HE4.out]; exact HS10.out⟩
            case measure => have := HLT.out; simp [intOf]; omega
      · have q4' : W8.cell? ⟨g, 4, none⟩ = some (.bool false) := by rw [← Bool.eq_false_iff.2 hf4]; exact q4
        clear q4
        have hf0 : y.f4 = false := Bool.eq_false_iff.2 hf4
        have HE4 := asiD (show c4V y (k + 1) = c4V y k ++ picV x by rw [HC4.out, hf0]; rfl)
        have hck : ((c4V y k).length + (picV x).length) * 40 ≤ 140737488355328 := by
          have h1 := HCK.out
          rw [HE4.out, List.length_append] at h1
          omega
        have HCAP := asiD hck
        have HN : Aside0 ((2 + x.f10.length) * 40 ≤ 140737488355328) := ⟨by have := HPN.out; omega⟩
        clear hf4 hf0 hck
        have zf := fun i => HS7.out.cell i
        go_wp2_with (first
          | (go_at_call 40; with_reducible refine (rpicture_calls_at x _ w _ HS7.out.below HKX.out HN.out).mono ?_; rintro e w9 ⟨Bm, cm, zs, rfl, hk9, hs9⟩; have HS9 := asiD ((HS7.out.frame hs9).assoc.imp (Asrt.mono_r (Asrt.emp_l _))); have HK9 := asiD hk9; clear hk9 hs9 zf)
          | (at_builtin; refine St.append_cells (w0 := w) rfl (.tmp 95) (.tmp 97) 25 42 (.agg #[.string ⟨#[]⟩, .slice none 0 0]) 2 40 rfl Try.underlying25 (by kernel_rfl) rfl (by decide) (by decide) _ (c4V y k).length xs zs Bm (picV x).length cm rfl rfl HS9.out.rot3 (rowReadsC HS9.out (KL_one HK9.out)) HCAP.out ?_; intro B10 c10' w10 hs; have HS10 := asiD hs; clear hs))
        go_roundw
        case rel => exact ⟨k + 1, B10, c10', xs ++ zs, HLT.out, by rw [HE4.out, List.length_append], by go_num, by rw [HE4.out]; exact outR_put (by rw [List.length_append]) HS10.out.swap.drop fun W hW => KL_below hW HK9.out⟩
        case measure => have := HLT.out; simp [intOf]; omega
    · have y1 : decide ((k : Int) < y.f13.length) = false := decide_eq_false (by omega)
      have y2 : decide (k < y.f13.length) = false := decide_eq_false hlt
      obtain rfl : k = y.f13.length := by omega
      have HQ := asiD hs
      clear hs hlt hk
      go_upto_region 38 with (fail)
      clear z13
      have q1 : wr.cell? ⟨g, 11, none⟩ = some (.bool y.f11) := ((outR_rest HQ.out).cell 11).trans rfl
      have q2 : wr.cell? ⟨g, 8, none⟩ = some (.slice B2 y.f8.length d2) := ((outR_rest HQ.out).cell 8).trans rfl
      go_upto_if 145 with (fail)
      have hcap : ((c4V y y.f13.length).length + 1) * 40 ≤ 140737488355328 := by have := cap_c4 HM.out; omega
      have HCAP := asiD hcap
      clear hcap q1
      go_cut [5] from 145 to 151 (fun v wc => ∃ (B : Option Addr) (c : Nat) (xs : List Value), v = .slice B (c5V y).length c ∧ St w wc (outR w (c5V y) B c xs (Asrt.blk g 27 #[.bool false, .int .i64 y.f1, .int .i64 y.f2, .bool y.f3, .bool y.f4, .int .u32 y.f5, .int .i64 y.f6, .slice B1 y.f7.length d1, .slice B2 y.f8.length d2, .slice B3 y.f9.length d3, .bool y.f10, .bool y.f11, .bool y.f12, .slice B4 y.f13.length d4, .slice B5 y.f14.length d5] * Asrt.emp)))
      case first =>
        have HSL := asiD ((HQ.out.allocCells 42 2 1 [.string nEXIF, .slice B2 y.f8.length d2] rfl (by decide)).swap)
        go_upto_region 39 with (fail)
        all_goals (rename_i hb; have HB := asiD hb; clear hb)
        all_goals go_wp2_with (at_builtin; refine St.append_cells (w0 := w) rfl (.tmp 146) (.tmp 150) 25 42 (.agg #[.string ⟨#[]⟩, .slice none 0 0]) 2 40 rfl Try.underlying25 (by kernel_rfl) rfl (by decide) (by decide) _ (c4V y y.f13.length).length _ [.string nEXIF, .slice B2 y.f8.length d2] (some ⟨_, 0, none⟩) 1 1 rfl rfl HSL.out (rowReadsC HSL.out.swap (by simp [Value.oneCell'])) HCAP.out ?_; intro Bp cp w5 hs; have HSP := asiD hs; clear hs)
        all_goals go_meet
        all_goals (case rel => have hb := HB.out; first
          | (rw [show c5V y = c4V y y.f13.length ++ [⟨nEXIF, y.f8⟩] from addL_t hb]; exact ⟨_, _, _, by rw [List.length_append]; rfl, outR_put (by rw [List.length_append]; rfl) HSP.out fun W hW => KL_ch1 m2 (Kd.C_below H2.out hW)⟩)
          | (rw [show c5V y = c4V y y.f13.length from addL_f hb]; exact ⟨_, _, _, rfl, HQ.out⟩)
          | (trace_state; fail))
      obtain ⟨B8, c8, x8, rfl, hs⟩ := hcut
      clear HQ q2 HCAP
      have HQ := asiD hs
      clear hs
      have q1 : wc.cell? ⟨g, 12, none⟩ = some (.bool y.f12) := ((outR_rest HQ.out).cell 12).trans rfl
      have q2 : wc.cell? ⟨g, 9, none⟩ = some (.slice B3 y.f9.length d3) := ((outR_rest HQ.out).cell 9).trans rfl
      go_upto_if 153 with (fail)
      have hcap : ((c5V y).length + 1) * 40 ≤ 140737488355328 := by have := cap_c5 HM.out; omega
      have HCAP := asiD hcap
      clear hcap q1
      go_cut [5] from 153 to 159 (fun v wc => ∃ (B : Option Addr) (c : Nat) (xs : List Value), v = .slice B (c6V y).length c ∧ St w wc (outR w (c6V y) B c xs (Asrt.blk g 27 #[.bool false, .int .i64 y.f1, .int .i64 y.f2, .bool y.f3, .bool y.f4, .int .u32 y.f5, .int .i64 y.f6, .slice B1 y.f7.length d1, .slice B2 y.f8.length d2, .slice B3 y.f9.length d3, .bool y.f10, .bool y.f11, .bool y.f12, .slice B4 y.f13.length d4, .slice B5 y.f14.length d5] * Asrt.emp)))
      case first =>
        have HSL := asiD ((HQ.out.allocCells 42 2 1 [.string nXMP, .slice B3 y.f9.length d3] rfl (by decide)).swap)
        go_upto_region 41 with (fail)
        all_goals (rename_i hb; have HB := asiD hb; clear hb)
        all_goals go_wp2_with (at_builtin; refine St.append_cells (w0 := w) rfl (.tmp 154) (.tmp 158) 25 42 (.agg #[.string ⟨#[]⟩, .slice none 0 0]) 2 40 rfl Try.underlying25 (by kernel_rfl) rfl (by decide) (by decide) _ (c5V y).length _ [.string nXMP, .slice B3 y.f9.length d3] (some ⟨_, 0, none⟩) 1 1 rfl rfl HSL.out (rowReadsC HSL.out.swap (by simp [Value.oneCell'])) HCAP.out ?_; intro Bp cp w5 hs; have HSP := asiD hs; clear hs)
        all_goals go_meet
        all_goals (case rel => have hb := HB.out; first
          | (rw [show c6V y = c5V y ++ [⟨nXMP, y.f9⟩] from addL_t hb]; exact ⟨_, _, _, by rw [List.length_append]; rfl, outR_put (by rw [List.length_append]; rfl) HSP.out fun W hW => KL_ch1 m3 (Kd.C_below H3.out hW)⟩)
          | (rw [show c6V y = c5V y from addL_f hb]; exact ⟨_, _, _, rfl, HQ.out⟩)
          | (trace_state; fail))
      obtain ⟨B9, c9, x9, rfl, hs⟩ := hcut
      clear HQ q2 HCAP
      have HQ := asiD hs
      clear hs
      have q14 : wc.cell? ⟨g, 14, none⟩ = some (.slice B5 y.f14.length d5) := ((outR_rest HQ.out).cell 14).trans rfl
      have HCAP : Aside0 (((c6V y).length + y.f14.length) * 40 ≤ 140737488355328) := ⟨by have := HM.out.sz; rw [List.length_append] at this; omega⟩
      go_wp2_with (at_builtin; refine St.append_cells (w0 := w) rfl (.tmp 160) (.tmp 162) 25 42 (.agg #[.string ⟨#[]⟩, .slice none 0 0]) 2 40 rfl Try.underlying25 (by kernel_rfl) rfl (by decide) (by decide) _ (c6V y).length x9 ys B5 y.f14.length d5 rfl rfl HQ.out (HYR.out.below HQ.out.below) HCAP.out ?_; intro Bz cz wz hs; have HS12 := asiD hs; clear hs)
      go_ret
      exact ⟨Bz, cz, _, by rw [List.length_append]; rfl, outR_put (by rw [List.length_append]) HS12.out.swap2 fun W hW => KL_below hW HYK.out⟩
set_option maxHeartbeats 8000000 in
set_option maxRecDepth 100000 in
theorem rchunksP_calls (y : Dc) (ds : List Value) (w : World) (x : Fr) (hx : x = rd_T44 y.f13 0) (hy : k27.K w y ds) (h0 : y.f0 = true) (hl : 0 < y.f13.length) (ho : okFr x) (hn : (2 + x.f10.length) * 40 ≤ 140737488355328) :
    Calls Try.prog 17 #[.agg ds.toArray] w fun e w' => ∃ (B : Option Addr) (c : Nat) (xs : List Value), e = .returned (.slice B (picV x).length c) ∧ St w w' (outR w (picV x) B c xs Asrt.emp) := by
  have hlen : (picV x).length ≤ 9223372036854775807 := by unfold picV alphaV; split <;> simp <;> omega
  obtain ⟨B1, d1, B2, d2, B3, d3, B4, d4, B5, d5, rfl, m1, h1, m2, h2, m3, h3, m4, h4, m5, h5⟩ := k27_open hy
  rw [h0]
  obtain ⟨ad1, A8, c8, A9, c9, A10, c10, rfl, e0, e1, e2, e3, e4, e5, e6, e7, e8, e9, e10, m8, g8, m9, g9, m10, g10⟩ := at_T44 h4 (0 : Int) (by omega) (by omega)
  simp only [Int.toNat_zero, Nat.zero_mul] at e0 e1 e2 e3 e4 e5 e6 e7 e8 e9 e10
  rw [← hx] at e0 e1 e2 e3 e4 e5 e6 e7 e8 e9 e10 m8 g8 m9 g9 m10 g10
  have HP := asiD fun (W : World) (hb : Below w.heap.size w W) => rpicture_calls_at x _ w W hb (k44_mk w x m8 g8 m9 g9 m10 g10) hn
  have h0' : ad1.add 0 = ad1 := by cases ad1; unfold Addr.add; split <;> simp_all
  rw [h0'] at e0 e1 e2 e3 e4 e5 e6 e7 e8 e9 e10
  have hb0 : Below w.heap.size w (w.alloc (.cells #[.bool true, .int .i64 y.f1, .int .i64 y.f2, .bool y.f3, .bool y.f4, .int .u32 y.f5, .int .i64 y.f6, .slice B1 y.f7.length d1, .slice B2 y.f8.length d2, .slice B3 y.f9.length d3, .bool y.f10, .bool y.f11, .bool y.f12, .slice (some ad1) y.f13.length d4, .slice B5 y.f14.length d5] 27)) := below_alloc (Below.refl _ _) _
  have e0' := (cellL hb0 e0)
  have e1' := (cellL hb0 e1)
  have e2' := (cellL hb0 e2)
  have e3' := (cellL hb0 e3)
  have e4' := (cellL hb0 e4)
  have e5' := (cellL hb0 e5)
  have e6' := (cellL hb0 e6)
  have e7' := (cellL hb0 e7)
  have e8' := (cellL hb0 e8)
  have e9' := (cellL hb0 e9)
  have e10' := (cellL hb0 e10)
  have y1 : decide ((0 : Int) < y.f13.length) = true := decide_eq_true (by omega)
  have y2 : decide (0 < y.f13.length) = true := decide_eq_true hl
  have HLN := asiD hlen
  clear hy h1 h2 h3 h4 h5 g8 g9 g10 ho hn hx h0 hlen
  go_enter Try.func17, Try.ntmps17
  go_wp2_with (go_at_call 40; refine (HP.out _ hb0).mono ?_; rintro e w1 ⟨B, c, xs, rfl, hk, hs⟩; have HS := asiD hs; have HK := asiD hk; clear hk hs)
  go_ret
  have h1 := (((St.refl w).belowR hb0).frame HS.out).assoc
  exact ⟨B, c, xs, rfl, ((h1.imp (Asrt.mono_r (Asrt.emp_l _))).pin0 (fun W hb => KL_below hb HK.out)).swap⟩
theorem rchunks_calls (y : Dc) (ds : List Value) (w : World) (hy : k27.K w y ds) (ho : okDc y) (hn : smallN y < 20000) (hs : soundP y) :
    Calls Try.prog 17 #[.agg ds.toArray] w fun e w' => ∃ (B : Option Addr) (c : Nat) (xs : List Value), e = .returned (.slice B (chunksV y).length c) ∧ St w w' (outR w (chunksV y) B c xs Asrt.emp) := by
  cases h0 : y.f0 with
  | false =>
    have hcl : chunksV y = c6V y ++ y.f14 := by unfold chunksV; rw [if_neg (by rw [h0]; simp)]
    rw [hcl]
    exact rchunksW_calls y ds w hy (mayD_of hs h0 ho hn)
  | true =>
    have hcl : chunksV y = picV (rd_T44 y.f13 0) := by unfold chunksV; rw [if_pos h0]; rfl
    rw [hcl]
    have hs2 := hs.2
    rw [if_pos h0] at hs2
    obtain ⟨f, hf, hk, _⟩ := hs2
    have e : rd_T44 y.f13 0 = f := by rw [hf]; rfl
    have hfm : f ∈ y.f13 := by rw [hf]; exact List.mem_cons_self
    have h1 := fr_mem hfm
    unfold smallN at hn
    rw [e]
    exact rchunksP_calls y ds w f e.symm hy h0 (by rw [hf]; exact Nat.zero_lt_one) (ho.fr.2 f hfm) (by omega)
end Go.Proofs.Ythkocpcjcpohcaa.P
end
section
namespace Go.Proofs.Ythkocpcjcpohcaa.Pure
open Go Go.RowKit Go.Proofs.Ythkocpcjcpohcaa.P Go.Proofs.YthkocpcjcpohcaaW.PrintWords Go.Proofs.YthkocpcjcpohcaaW.PrintLast Go.Proofs.YthkocpcjcpohcaaW.PrintMore Go.Proofs.Ythkocpcjcpohcaa.U
attribute [local go_sem] max2_int min2_int max_two min_two max_three min_three max_four min_four
theorem wf_i64r {n : Int} (h : (Lit.int .i64 n).wf = true) : i64r n := by
  have := wf_i64 h
  unfold i64r
  omega
theorem dat_of {l : List Int} (h : l.length * 1 ≤ 140737488351232) (q : ∀ y ∈ l, (Lit.int .u8 y).wf = true) : datL l := ⟨bytes_wf q, by omega⟩
theorem chs_of {l : List Ch} (h : l.length * 40 ≤ 140737488351232) (q : ∀ y0 ∈ l, (y0.f0.size ≤ 140737488351232 ∧ (y0.f1.length ≤ maxLen ∧ y0.f1.length * 1 ≤ 140737488351232 ∧ ∀ y1 ∈ y0.f1, (Lit.int .u8 y1).wf = true))) : chsL l := ⟨h, fun c hc => ⟨(q c hc).1, dat_of (q c hc).2.2.1 (q c hc).2.2.2⟩⟩
theorem ok_of {b0 : Bool} {b1 b2 : Int} {b3 b4 : Bool} {b5 b6 : Int} {l7 l8 l9 : List Int} {b10 b11 b12 : Bool} {l13 : List Fr} {l14 : List Ch} (h1 : (Lit.int .i64 b1).wf = true) (h2 : (Lit.int .i64 b2).wf = true) (h5 : (Lit.int .u32 b5).wf = true) (h6 : (Lit.int .i64 b6).wf = true)
    (a7 : l7.length * 1 ≤ 140737488351232) (q7 : ∀ y ∈ l7, (Lit.int .u8 y).wf = true) (a8 : l8.length * 1 ≤ 140737488351232) (q8 : ∀ y ∈ l8, (Lit.int .u8 y).wf = true) (a9 : l9.length * 1 ≤ 140737488351232) (q9 : ∀ y ∈ l9, (Lit.int .u8 y).wf = true)
    (a13 : l13.length * 128 ≤ 140737488351232) (q13 : ∀ y0 ∈ l13, ((Lit.int .i64 y0.f0).wf = true ∧ (Lit.int .i64 y0.f1).wf = true ∧ (Lit.int .i64 y0.f2).wf = true ∧ (Lit.int .i64 y0.f3).wf = true ∧ (Lit.int .i64 y0.f4).wf = true ∧ True ∧ True ∧ (Lit.int .i64 y0.f7).wf = true ∧ (y0.f8.length ≤ maxLen ∧ y0.f8.length * 1 ≤ 140737488351232 ∧ ∀ y1 ∈ y0.f8, (Lit.int .u8 y1).wf = true) ∧ (y0.f9.length ≤ maxLen ∧ y0.f9.length * 1 ≤ 140737488351232 ∧ ∀ y1 ∈ y0.f9, (Lit.int .u8 y1).wf = true) ∧ (y0.f10.length ≤ maxLen ∧ y0.f10.length * 40 ≤ 140737488351232 ∧ ∀ y1 ∈ y0.f10, (y1.f0.size ≤ 140737488351232 ∧ (y1.f1.length ≤ maxLen ∧ y1.f1.length * 1 ≤ 140737488351232 ∧ ∀ y2 ∈ y1.f1, (Lit.int .u8 y2).wf = true))))) (a14 : l14.length * 40 ≤ 140737488351232) (q14 : ∀ y0 ∈ l14, (y0.f0.size ≤ 140737488351232 ∧ (y0.f1.length ≤ maxLen ∧ y0.f1.length * 1 ≤ 140737488351232 ∧ ∀ y1 ∈ y0.f1, (Lit.int .u8 y1).wf = true))) : okDc ⟨b0, b1, b2, b3, b4, b5, b6, l7, l8, l9, b10, b11, b12, l13, l14⟩ := by
  refine ⟨wf_i64r h1, wf_i64r h2, ?_, wf_i64r h6, dat_of a7 q7, dat_of a8 q8, dat_of a9 q9, ⟨a13, fun f hf => ?_⟩, chs_of a14 q14⟩
  · have := wf_u32 h5
    show 0 ≤ b5 ∧ b5 ≤ 4294967295
    omega
  · have h := q13 f hf
    exact ⟨wf_i64r h.1, wf_i64r h.2.1, wf_i64r h.2.2.1, wf_i64r h.2.2.2.1, wf_i64r h.2.2.2.2.1, wf_i64r h.2.2.2.2.2.2.2.1, dat_of h.2.2.2.2.2.2.2.2.1.2.1 h.2.2.2.2.2.2.2.2.1.2.2, dat_of h.2.2.2.2.2.2.2.2.2.1.2.1 h.2.2.2.2.2.2.2.2.2.1.2.2, chs_of h.2.2.2.2.2.2.2.2.2.2.2.1 h.2.2.2.2.2.2.2.2.2.2.2.2⟩
theorem cells_later {w W : World} {g : Nat} {A : Array Value} (h : ∀ i, w.cell? ⟨g, i, none⟩ = A[i]?) (hg : g < w.heap.size) (hb : Below w.heap.size w W) (i : Nat) : W.cell? ⟨g, i, none⟩ = A[i]? := (hb.cell (p := ⟨g, i, none⟩) hg).trans (h i)
theorem drawn_below {w W : World} (h : Drawn0 w W) : Below w.heap.size w W := by
  obtain ⟨n, hn⟩ := h
  exact hn ▸ pw_below_drewN (Below.refl _ _) n
theorem ParseS_calls {y z : Dc} (hs : soundP y) (ho : okDc y) (hn : smallN y < 20000) (most e : Int) (hp : parseV (file (chunksV y)) most = (z, e)) (A : Option Addr) (n c : Nat) (w : World) (h1 : n = (file (chunksV y)).length) (hr : (Kd.int .u8).C w A n (file (chunksV y))) (hc : n ≤ c) :
    Calls Try.prog 14 #[.slice A n c, .int .i64 most] w fun x w' => ∃ ds : List Value, x = .returned (.tuple #[.agg ds.toArray, .int .i64 e]) ∧ k27.K w' z ds ∧ Below w.heap.size w w' := by
  subst h1
  have h := Parse_calls A c _ most w hr hc (file_bytes fun x hx => (chunks_mem hs ho x hx).2) (by have := file_sz hs hn; omega)
  rw [hp] at h
  exact h
theorem FileS_calls {w0 w : World} {l : List Ch} {B : Option Addr} {c : Nat} {xs : List Value} {R : Asrt} (hs : St w0 w (outR w0 l B c xs R)) (hl : l.length + Pure.weight l < 9000000) :
    Calls Try.prog 16 #[.slice B l.length c] w fun e w' => ∃ (B' : Option Addr) (n' c' : Nat), e = .returned (.slice B' n' c') ∧ n' = (file l).length ∧ n' ≤ c' ∧ (Kd.int .u8).C w' B' n' (file l) ∧ St w0 w' (Asrt.row 5 1 (.slice B' n' c') n' (nums .u8 (file l)) * outR w0 l B c xs R) ∧ Below w.heap.size w w' := by
  obtain ⟨k, hk⟩ := (File_ev hl).rounds
  have hq := hs.swap.pinGet
  refine (marquetryref24_File.calls k B c l _ w (C_of_KL hq rfl (by omega) (rowReadsC hs (KL_one hq))) (own_le hs.row) hk).mono ?_
  rintro e w' ⟨u, rfl, hr, hb⟩
  have h2 := hs.newRow hb (Kd.own_of_R hr) (Nat.le_refl _)
  obtain ⟨B2, c2, hv, hc, hC⟩ := Kd.R_reads hr
  subst hv
  exact ⟨B2, _, c2, rfl, rfl, hc, hC, h2, hb⟩
noncomputable def bbr1_code : Code := ((Try.f3.body).bind (regionIn 1)).getD .skip
set_option maxHeartbeats 16000000 in
set_option maxRecDepth 1000000 in
theorem bbr1 {c0 c2 c3 c4 c5 c6 c7 c8 c9 c10 c11 c12 c13 c14 c15 c16 c17 c18 c19 c20 c21 c22 c23 c24 c25 c26 c27 c28 c29 c30 c31 c32 c33 c34 c35 c36 c37 c38 c39 c40 c41 c42 c43 c44 c45 c46 c47 c48 c49 c50 c51 c52 c53 c54 c55 c56 c57 c58 c59 c60 c61 c62 c63 c64 c65 c66 c67 c68 c69 c70 c71 c72 c73 c74 c75 c76 c77 c78 c79 c80 c81 c82 c83 c84 c85 c86 c87 c88 c89 c90 c91 c92 c93 c94 c95 c96 c97 c98 c99 c100 : Value} {Q : Exit → Act → World → Prop} (y : Dc) (w2 : World) (g : Nat) {B1 B2 B3 B4 B5 : Option Addr} {d1 d2 d3 d4 d5 : Nat} (Z : Aside0 (∀ i, w2.cell? ⟨g, i, none⟩ = (#[.bool y.f0, .int .i64 y.f1, .int .i64 y.f2, .bool y.f3, .bool y.f4, .int .u32 y.f5, .int .i64 y.f6, .slice B1 y.f7.length d1, .slice B2 y.f8.length d2, .slice B3 y.f9.length d3, .bool y.f10, .bool y.f11, .bool y.f12, .slice B4 y.f13.length d4, .slice B5 y.f14.length d5] : Array Value)[i]?)) (HG : Aside0 (g < w2.heap.size)) (HM : Aside0 (∀ W : World, Below w2.heap.size w2 W → Calls Try.prog 9 #[.agg #[.bool y.f0, .int .i64 y.f1, .int .i64 y.f2, .bool y.f3, .bool y.f4, .int .u32 y.f5, .int .i64 y.f6, .slice B1 y.f7.length d1, .slice B2 y.f8.length d2, .slice B3 y.f9.length d3, .bool y.f10, .bool y.f11, .bool y.f12, .slice B4 y.f13.length d4, .slice B5 y.f14.length d5]] W fun e w' => e = .returned (.bool true) ∧ Below W.heap.size W w'))
    (hK : ∀ (v u9 u10 : Value) (wc : World), (v = .bool false ∧ Below w2.heap.size w2 wc) → Q .normal ⟨#[c0, Value.pointer (some ⟨g, 0, none⟩), c2, c3, c4, c5, c6, c7, c8, u9, u10, v, c12, c13, c14, c15, c16, c17, c18, c19, c20, c21, c22, c23, c24, c25, c26, c27, c28, c29, c30, c31, c32, c33, c34, c35, c36, c37, c38, c39, c40, c41, c42, c43, c44, c45, c46, c47, c48, c49, c50, c51, c52, c53, c54, c55, c56, c57, c58, c59, c60, c61, c62, c63, c64, c65, c66, c67, c68, c69, c70, c71, c72, c73, c74, c75, c76, c77, c78, c79, c80, c81, c82, c83, c84, c85, c86, c87, c88, c89, c90, c91, c92, c93, c94, c95, c96, c97, c98, c99, c100], []⟩ wc) :
    Code.wp Try.prog bbr1_code Q ⟨#[c0, Value.pointer (some ⟨g, 0, none⟩), c2, c3, c4, c5, c6, c7, c8, c9, c10, c11, c12, c13, c14, c15, c16, c17, c18, c19, c20, c21, c22, c23, c24, c25, c26, c27, c28, c29, c30, c31, c32, c33, c34, c35, c36, c37, c38, c39, c40, c41, c42, c43, c44, c45, c46, c47, c48, c49, c50, c51, c52, c53, c54, c55, c56, c57, c58, c59, c60, c61, c62, c63, c64, c65, c66, c67, c68, c69, c70, c71, c72, c73, c74, c75, c76, c77, c78, c79, c80, c81, c82, c83, c84, c85, c86, c87, c88, c89, c90, c91, c92, c93, c94, c95, c96, c97, c98, c99, c100], []⟩ w2 := by
  have HK := asiD hK
  clear hK
  conv => arg 2; whnf
  have HB := asiD (Below.refl w2.heap.size w2)
  have z := fun i => Z.out i
  go_wp2_with (go_at_call 9; with_reducible refine (HM.out _ HB.out).mono ?_; rintro e w9 ⟨rfl, hb⟩; have hb2 := HB.out.trans (hb.mono HB.out.size); clear HB z hb; have HB := asiD hb2; have z := fun i => cells_later Z.out HG.out hb2 i; clear hb2)
  apply HK.out
  exact ⟨rfl, HB.out⟩
noncomputable def bbr3_code : Code := ((Try.f3.body).bind (regionIn 3)).getD .skip
set_option maxHeartbeats 16000000 in
set_option maxRecDepth 1000000 in
theorem bbr3 {c0 c2 c3 c4 c5 c6 c7 c8 c9 c10 c11 c12 c13 c14 c15 c16 c17 c18 c19 c20 c21 c22 c23 c24 c25 c26 c27 c28 c29 c30 c31 c32 c33 c34 c35 c36 c37 c38 c39 c40 c41 c42 c43 c44 c45 c46 c47 c48 c49 c50 c51 c52 c53 c54 c55 c56 c57 c58 c59 c60 c61 c62 c63 c64 c65 c66 c67 c68 c69 c70 c71 c72 c73 c74 c75 c76 c77 c78 c79 c80 c81 c82 c83 c84 c85 c86 c87 c88 c89 c90 c91 c92 c93 c94 c95 c96 c97 c98 c99 c100 : Value} {Q : Exit → Act → World → Prop} (y : Dc) (w2 : World) (g : Nat) {B1 B2 B3 B4 B5 : Option Addr} {d1 d2 d3 d4 d5 : Nat} (Z : Aside0 (∀ i, w2.cell? ⟨g, i, none⟩ = (#[.bool y.f0, .int .i64 y.f1, .int .i64 y.f2, .bool y.f3, .bool y.f4, .int .u32 y.f5, .int .i64 y.f6, .slice B1 y.f7.length d1, .slice B2 y.f8.length d2, .slice B3 y.f9.length d3, .bool y.f10, .bool y.f11, .bool y.f12, .slice B4 y.f13.length d4, .slice B5 y.f14.length d5] : Array Value)[i]?)) (HG : Aside0 (g < w2.heap.size)) (q : Int) (fx : List Int) (HP : Aside0 (∀ W : World, Below w2.heap.size w2 W → Calls Try.prog 11 #[.agg #[.bool y.f0, .int .i64 y.f1, .int .i64 y.f2, .bool y.f3, .bool y.f4, .int .u32 y.f5, .int .i64 y.f6, .slice B1 y.f7.length d1, .slice B2 y.f8.length d2, .slice B3 y.f9.length d3, .bool y.f10, .bool y.f11, .bool y.f12, .slice B4 y.f13.length d4, .slice B5 y.f14.length d5]] W fun e w' => ∃ v : Value, e = .returned (.tuple #[v, .int .i64 q]) ∧ Kd.R (Kd.int .u8) 5 w' W.heap.size (fun _ => True) v fx ∧ Below W.heap.size W w'))
    (hK : ∀ (v v2 u14 u15 u13 u16 u17 : Value) (wc : World), ((∃ (E : Option Addr) (n c : Nat), v = .slice E n c ∧ n = fx.length ∧ n ≤ c ∧ (Kd.int .u8).C wc E n fx) ∧ v2 = .int .i64 q ∧ Below w2.heap.size w2 wc) → Q .normal ⟨#[c0, Value.pointer (some ⟨g, 0, none⟩), c2, v, v2, c5, c6, c7, c8, c9, c10, c11, c12, u13, u14, u15, u16, u17, c18, c19, c20, c21, c22, c23, c24, c25, c26, c27, c28, c29, c30, c31, c32, c33, c34, c35, c36, c37, c38, c39, c40, c41, c42, c43, c44, c45, c46, c47, c48, c49, c50, c51, c52, c53, c54, c55, c56, c57, c58, c59, c60, c61, c62, c63, c64, c65, c66, c67, c68, c69, c70, c71, c72, c73, c74, c75, c76, c77, c78, c79, c80, c81, c82, c83, c84, c85, c86, c87, c88, c89, c90, c91, c92, c93, c94, c95, c96, c97, c98, c99, c100], []⟩ wc) :
    Code.wp Try.prog bbr3_code Q ⟨#[c0, Value.pointer (some ⟨g, 0, none⟩), c2, c3, c4, c5, c6, c7, c8, c9, c10, c11, c12, c13, c14, c15, c16, c17, c18, c19, c20, c21, c22, c23, c24, c25, c26, c27, c28, c29, c30, c31, c32, c33, c34, c35, c36, c37, c38, c39, c40, c41, c42, c43, c44, c45, c46, c47, c48, c49, c50, c51, c52, c53, c54, c55, c56, c57, c58, c59, c60, c61, c62, c63, c64, c65, c66, c67, c68, c69, c70, c71, c72, c73, c74, c75, c76, c77, c78, c79, c80, c81, c82, c83, c84, c85, c86, c87, c88, c89, c90, c91, c92, c93, c94, c95, c96, c97, c98, c99, c100], []⟩ w2 := by
  have HK := asiD hK
  clear hK
  conv => arg 2; whnf
  have HB := asiD (Below.refl w2.heap.size w2)
  have z := fun i => Z.out i
  go_wp2_with (go_at_call 11; with_reducible refine (HP.out _ HB.out).mono ?_; rintro e w4 ⟨v4, rfl, hr, hb⟩; obtain ⟨E1, e1, rfl, hc4, hC⟩ := Kd.R_reads hr; have HC4 := asiD hc4; have HR := asiD hC; clear hr hc4 hC; have hb2 := HB.out.trans (hb.mono HB.out.size); clear HB z hb; have HB := asiD hb2; have z := fun i => cells_later Z.out HG.out hb2 i; clear hb2)
  apply HK.out
  exact ⟨⟨E1, _, e1, rfl, rfl, HC4.out, HR.out⟩, rfl, HB.out⟩
noncomputable def bbr4_code : Code := ((Try.f3.body).bind (regionIn 4)).getD .skip
set_option maxHeartbeats 16000000 in
set_option maxRecDepth 1000000 in
theorem bbr4 {c0 c2 c3 c4 c5 c6 c7 c8 c9 c10 c11 c12 c13 c14 c15 c16 c17 c18 c19 c20 c21 c22 c23 c24 c25 c26 c27 c28 c29 c30 c31 c32 c33 c34 c35 c36 c37 c38 c39 c40 c41 c42 c43 c44 c45 c46 c47 c48 c49 c50 c51 c52 c53 c54 c55 c56 c57 c58 c59 c60 c61 c62 c63 c64 c65 c66 c67 c68 c69 c70 c71 c72 c73 c74 c75 c76 c77 c78 c79 c80 c81 c82 c83 c84 c85 c86 c87 c88 c89 c90 c91 c92 c93 c94 c95 c96 c97 c98 c99 c100 : Value} {Q : Exit → Act → World → Prop} (y : Dc) (w2 : World) (g : Nat) {B1 B2 B3 B4 B5 : Option Addr} {d1 d2 d3 d4 d5 : Nat} (Z : Aside0 (∀ i, w2.cell? ⟨g, i, none⟩ = (#[.bool y.f0, .int .i64 y.f1, .int .i64 y.f2, .bool y.f3, .bool y.f4, .int .u32 y.f5, .int .i64 y.f6, .slice B1 y.f7.length d1, .slice B2 y.f8.length d2, .slice B3 y.f9.length d3, .bool y.f10, .bool y.f11, .bool y.f12, .slice B4 y.f13.length d4, .slice B5 y.f14.length d5] : Array Value)[i]?)) (HG : Aside0 (g < w2.heap.size)) (p : Bool) (HSB : Aside0 (∀ W : World, Below w2.heap.size w2 W → Calls Try.prog 12 #[.agg #[.bool y.f0, .int .i64 y.f1, .int .i64 y.f2, .bool y.f3, .bool y.f4, .int .u32 y.f5, .int .i64 y.f6, .slice B1 y.f7.length d1, .slice B2 y.f8.length d2, .slice B3 y.f9.length d3, .bool y.f10, .bool y.f11, .bool y.f12, .slice B4 y.f13.length d4, .slice B5 y.f14.length d5]] W fun e w' => e = .returned (.bool p) ∧ Below W.heap.size W w')) (HSR : Aside0 (∀ W : World, Below w2.heap.size w2 W → Calls Try.prog 13 #[.agg #[.bool y.f0, .int .i64 y.f1, .int .i64 y.f2, .bool y.f3, .bool y.f4, .int .u32 y.f5, .int .i64 y.f6, .slice B1 y.f7.length d1, .slice B2 y.f8.length d2, .slice B3 y.f9.length d3, .bool y.f10, .bool y.f11, .bool y.f12, .slice B4 y.f13.length d4, .slice B5 y.f14.length d5]] W fun e w' => e = .returned (.bool p) ∧ Below W.heap.size W w'))
    (hK : ∀ (v u18 u19 u20 u21 : Value) (wc : World), (v = .bool false ∧ Below w2.heap.size w2 wc) → Q .normal ⟨#[c0, Value.pointer (some ⟨g, 0, none⟩), c2, c3, c4, c5, c6, c7, c8, c9, c10, c11, c12, c13, c14, c15, c16, c17, u18, u19, u20, u21, v, c23, c24, c25, c26, c27, c28, c29, c30, c31, c32, c33, c34, c35, c36, c37, c38, c39, c40, c41, c42, c43, c44, c45, c46, c47, c48, c49, c50, c51, c52, c53, c54, c55, c56, c57, c58, c59, c60, c61, c62, c63, c64, c65, c66, c67, c68, c69, c70, c71, c72, c73, c74, c75, c76, c77, c78, c79, c80, c81, c82, c83, c84, c85, c86, c87, c88, c89, c90, c91, c92, c93, c94, c95, c96, c97, c98, c99, c100], []⟩ wc) :
    Code.wp Try.prog bbr4_code Q ⟨#[c0, Value.pointer (some ⟨g, 0, none⟩), c2, c3, c4, c5, c6, c7, c8, c9, c10, c11, c12, c13, c14, c15, c16, c17, c18, c19, c20, c21, c22, c23, c24, c25, c26, c27, c28, c29, c30, c31, c32, c33, c34, c35, c36, c37, c38, c39, c40, c41, c42, c43, c44, c45, c46, c47, c48, c49, c50, c51, c52, c53, c54, c55, c56, c57, c58, c59, c60, c61, c62, c63, c64, c65, c66, c67, c68, c69, c70, c71, c72, c73, c74, c75, c76, c77, c78, c79, c80, c81, c82, c83, c84, c85, c86, c87, c88, c89, c90, c91, c92, c93, c94, c95, c96, c97, c98, c99, c100], []⟩ w2 := by
  have HK := asiD hK
  clear hK
  conv => arg 2; whnf
  have HB := asiD (Below.refl w2.heap.size w2)
  have z := fun i => Z.out i
  have qq : (p != p) = false := by simp
  have a0 := (z 0).trans rfl
  have a1 := (z 1).trans rfl
  have a2 := (z 2).trans rfl
  have a3 := (z 3).trans rfl
  have a4 := (z 4).trans rfl
  have a5 := (z 5).trans rfl
  have a6 := (z 6).trans rfl
  have a7 := (z 7).trans rfl
  have a8 := (z 8).trans rfl
  have a9 := (z 9).trans rfl
  have a10 := (z 10).trans rfl
  have a11 := (z 11).trans rfl
  have a12 := (z 12).trans rfl
  have a13 := (z 13).trans rfl
  have a14 := (z 14).trans rfl
  clear z
  go_region_held3 (fun w' => w'.cell? ⟨g, 0, none⟩ = some (.bool y.f0) ∧ w'.cell? ⟨g, 1, none⟩ = some (.int .i64 y.f1) ∧ w'.cell? ⟨g, 2, none⟩ = some (.int .i64 y.f2) ∧ w'.cell? ⟨g, 3, none⟩ = some (.bool y.f3) ∧ w'.cell? ⟨g, 4, none⟩ = some (.bool y.f4) ∧ w'.cell? ⟨g, 5, none⟩ = some (.int .u32 y.f5) ∧ w'.cell? ⟨g, 6, none⟩ = some (.int .i64 y.f6) ∧ w'.cell? ⟨g, 7, none⟩ = some (.slice B1 y.f7.length d1) ∧ w'.cell? ⟨g, 8, none⟩ = some (.slice B2 y.f8.length d2) ∧ w'.cell? ⟨g, 9, none⟩ = some (.slice B3 y.f9.length d3) ∧ w'.cell? ⟨g, 10, none⟩ = some (.bool y.f10) ∧ w'.cell? ⟨g, 11, none⟩ = some (.bool y.f11) ∧ w'.cell? ⟨g, 12, none⟩ = some (.bool y.f12) ∧ w'.cell? ⟨g, 13, none⟩ = some (.slice B4 y.f13.length d4) ∧ w'.cell? ⟨g, 14, none⟩ = some (.slice B5 y.f14.length d5)) (go_keep) (first
    | (go_at_call 12; with_reducible refine (HSB.out _ HB.out.drew).mono ?_; rintro e w9 ⟨rfl, hb⟩; have hb2 := HB.out.drew.trans (hb.mono HB.out.drew.size); clear HB hb; have HB := asiD hb2; have z := fun i => cells_later Z.out HG.out hb2 i; clear hb2; have b0 := (z 0).trans rfl; have b1 := (z 1).trans rfl; have b2 := (z 2).trans rfl; have b3 := (z 3).trans rfl; have b4 := (z 4).trans rfl; have b5 := (z 5).trans rfl; have b6 := (z 6).trans rfl; have b7 := (z 7).trans rfl; have b8 := (z 8).trans rfl; have b9 := (z 9).trans rfl; have b10 := (z 10).trans rfl; have b11 := (z 11).trans rfl; have b12 := (z 12).trans rfl; have b13 := (z 13).trans rfl; have b14 := (z 14).trans rfl)
    | (go_at_call 13; with_reducible refine (HSR.out _ HB.out).mono ?_; rintro e w8 ⟨rfl, hb⟩; have hb2 := HB.out.trans (hb.mono HB.out.size); clear HB z hb; have HB := asiD hb2; have z := fun i => cells_later Z.out HG.out hb2 i; clear hb2; have c0 := (z 0).trans rfl; have c1 := (z 1).trans rfl; have c2 := (z 2).trans rfl; have c3 := (z 3).trans rfl; have c4 := (z 4).trans rfl; have c5 := (z 5).trans rfl; have c6 := (z 6).trans rfl; have c7 := (z 7).trans rfl; have c8 := (z 8).trans rfl; have c9 := (z 9).trans rfl; have c10 := (z 10).trans rfl; have c11 := (z 11).trans rfl; have c12 := (z 12).trans rfl; have c13 := (z 13).trans rfl; have c14 := (z 14).trans rfl))
  go_wp2_with fail
  all_goals apply HK.out
  all_goals exact ⟨by first | rfl | rw [qq], HB.out⟩
end Go.Proofs.Ythkocpcjcpohcaa.Pure
end
