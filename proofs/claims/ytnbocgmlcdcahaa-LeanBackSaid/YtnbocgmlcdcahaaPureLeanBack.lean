/- Forth and back an image is itself, and back and forth. -/
import Derived.Test.YtnbocgmlcdcahaaLeanLaw
import Derived.Test.YtnbocgmlcdcahaaLeanInv
namespace Go.Proofs.Ytnbocgmlcdcahaa.Pure
open Go Go.RowKit Go.Proofs.Ytnbocgmlcdcahaa.P Go.Proofs.YtnbocgmlcdcahaaW.PrintWords Go.Proofs.YtnbocgmlcdcahaaW.PrintLast Go.Proofs.YtnbocgmlcdcahaaW.PrintMore Go.Proofs.Ytnbocgmlcdcahaa.U
set_option linter.unusedVariables false
set_option linter.unusedSimpArgs false
attribute [local go_sem] max2_int min2_int max_two min_two max_three min_three max_four min_four
theorem Forth_n (w h b : Int) (Am : Option Addr) (n cm : Nat) (Al : Option Addr) (cl : Nat) (p l : List Int) (W : World) (hn : p.length = n)
    (hrp : ReadsInt W .u32 Am n p) (hcm : n ≤ cm) (hrl : Kd.C (Kd.int .i64) W Al l.length l) (hcl : l.length ≤ cl) (hso : sound w h p b l) (hp : U32s p) :
    Calls Try.prog 10 #[.agg #[.int .i64 w, .int .i64 h, .slice Am n cm], .int .i64 b, .slice Al l.length cl] W fun e W' =>
      ∃ B c', e = .returned (.tuple #[.agg #[.int .i64 w, .int .i64 h, .slice B n c'], .int .i64 0]) ∧ n ≤ c' ∧ St W W' (Asrt.row 35 1 (.slice B n c') n (nums .u32 (lean13 false w b l p n)) * Asrt.emp) := by
  subst hn
  exact lean_Forth_ok w h b Am cm Al cl p l W (reads_C hrp) hcm hrl hcl hso hp
theorem Back_n (w h b : Int) (Am : Option Addr) (n cm : Nat) (Al : Option Addr) (cl : Nat) (p l : List Int) (W : World) (hn : p.length = n)
    (hrp : ReadsInt W .u32 Am n p) (hcm : n ≤ cm) (hrl : Kd.C (Kd.int .i64) W Al l.length l) (hcl : l.length ≤ cl) (hso : sound w h p b l) (hp : U32s p) :
    Calls Try.prog 13 #[.agg #[.int .i64 w, .int .i64 h, .slice Am n cm], .int .i64 b, .slice Al l.length cl] W fun e W' =>
      ∃ B c', e = .returned (.tuple #[.agg #[.int .i64 w, .int .i64 h, .slice B n c'], .int .i64 0]) ∧ n ≤ c' ∧ St W W' (Asrt.row 35 1 (.slice B n c') n (nums .u32 (lean13 true w b l p n)) * Asrt.emp) := by
  subst hn
  exact lean_Back_ok w h b Am cm Al cl p l W (reads_C hrp) hcm hrl hcl hso hp
theorem sound_len {w h b : Int} {p q l : List Int} (hs : sound w h p b l) (e : q.length = p.length) : sound w h q b l := ⟨good_of_len hs.1 e, hs.2⟩
set_option maxHeartbeats 8000000 in
set_option maxRecDepth 100000 in
theorem LeanBack (a b : Int) (A : Option Addr) (c : Nat) (p : List Int) (d : Int) (A2 : Option Addr) (c2 : Nat) (l : List Int) (w : World)
    (h1 : (Lit.int .i64 a).wf = true) (h2 : (Lit.int .i64 b).wf = true) (h3 : p.length ≤ maxLen) (h4 : p.length * 4 ≤ 140737488351232) (h5 : ∀ y ∈ p, (Lit.int .u32 y).wf = true) (h6 : (Lit.int .i64 d).wf = true)
    (h7 : l.length ≤ maxLen) (h8 : l.length * 8 ≤ 140737488351232) (h9 : ∀ y ∈ l, (Lit.int .i64 y).wf = true)
    (g0 : Kd.C (Kd.int .u32) w A p.length p) (l0 : p.length ≤ c) (g2 : Kd.C (Kd.int .i64) w A2 l.length l) (l2 : l.length ≤ c2) :
    Calls Try.prog 6 #[.agg #[.int .i64 a, .int .i64 b, .slice A p.length c], .int .i64 d, .slice A2 l.length c2] w fun e w' => e = .returned (.bool true) ∧ Below w.heap.size w w' := by
  have hu : U32s p := u32s_of h5
  clear h1 h2 h3 h5 h6 h7 h9
  have G0 := Aside0.mk g0; clear g0
  have G2 := Aside0.mk g2; clear g2
  have HU := Aside0.mk hu; clear hu
  have hs := (St.refl w).alloc #[.int .i64 a, .int .i64 b, .slice A p.length c] 24
  by_cases c1 : 2000 < p.length ∨ 2000 < l.length
  · have HS := Aside0.mk hs; clear hs
    by_cases c3 : 2000 < p.length
    · have t1 : decide ((2000 : Int) < p.length) = true := decide_eq_true (by omega)
      go_enter Try.func6, Try.ntmps6
      go_wp2_with fail
      refine (answers_calls _).mono ?_; rintro e w2 ⟨rfl, hb⟩
      have HB := Aside0.mk (HS.out.belowR hb).below; clear hb
      go_wp2_with fail
      go_ret
      exact ⟨rfl, HB.out⟩
    · have t1 : decide ((2000 : Int) < p.length) = false := decide_eq_false (by omega)
      have t2 : decide ((2000 : Int) < l.length) = true := decide_eq_true (by omega)
      go_enter Try.func6, Try.ntmps6
      go_wp2_with fail
      refine (answers_calls _).mono ?_; rintro e w2 ⟨rfl, hb⟩
      have HB := Aside0.mk (HS.out.belowR hb).below; clear hb
      go_wp2_with fail
      go_ret
      exact ⟨rfl, HB.out⟩
  have t1 : decide ((2000 : Int) < p.length) = false := decide_eq_false (by omega)
  have t2 : decide ((2000 : Int) < l.length) = false := decide_eq_false (by omega)
  have hpl : p.length ≤ 2000 := by omega
  have hll : l.length ≤ 2000 := by omega
  clear c1 h4 h8
  obtain ⟨km, em⟩ := (Modes_ev (w := a) (h := b) (b := d) (p := p) (l := l) (by omega)).rounds
  by_cases hso : sound a b p d l
  · rw [decide_eq_true hso] at em
    have EM := Aside0.mk em; clear em
    have HSO := Aside0.mk hso; clear hso
    have HS := Aside0.mk hs; clear hs
    go_enter Try.func6, Try.ntmps6
    go_wp2_with fail
    refine (marquetryref11_Modes.calls km a b A c p d A2 c2 l true _ (Kd.C_below G0.out HS.out.below) l0 (Kd.C_below G2.out HS.out.below) l2 EM.out).mono ?_; rintro e w1 ⟨rfl, hb1⟩
    have hs1 := HS.out.belowR hb1
    clear hb1 HS
    generalize w.heap.size = gm at *
    have m2 : (w1.alloc (.cells #[] 35)).cell? ⟨gm, 2, none⟩ = some (.slice A p.length c) := ((hs1.allocRow 35 .u32 [] (by decide)).swap.cell 2).trans rfl
    have HS1 := Aside0.mk (hs1.allocRow 35 .u32 [] (by decide)); clear hs1
    have HR1 := Aside0.mk (C_reads (Kd.C_below G0.out HS1.out.below))
    go_wp2_with (at_builtin; refine St.append_row rfl (.tmp 33) (.tmp 35) 22 35 .u32 4 rfl Try.underlying22 (by kernel_rfl) (by decide) (.slice (some ⟨w1.heap.size, 0, none⟩) 0 0) 0 [] p A p.length c rfl rfl HS1.out HR1.out (by omega) ?_; intro A3 c3 v1 hs1; rw [Nat.zero_add, List.nil_append] at hs1; rw [Nat.zero_add]; have n0 := (hs1.swap.cell 0).trans rfl; have n1 := (hs1.swap.cell 1).trans rfl; have n2 := (hs1.swap.cell 2).trans rfl; have HS2 := Aside0.mk hs1; clear hs1)
    clear HS1 HR1 m2
    refine (lean_Forth_ok a b d A c A2 c2 p l _ (Kd.C_below G0.out HS2.out.below) l0 (Kd.C_below G2.out HS2.out.below) l2 HSO.out HU.out).mono ?_; rintro e v2 ⟨X, cx, rfl, hcx, hs3⟩
    have HX := Aside0.mk ((HS2.out.frame hs3).assoc.swap.drop.alloc #[.int .i64 a, .int .i64 b, .slice X p.length cx] 24); clear hs3 HS2 n0 n1 n2
    go_wp2_with fail
    refine (Back_n a b d X p.length cx A2 c2 (lean13 false a d l p p.length) l _ (lean13_len _ _ _ _ _ _) (rowReads HX.out.swap) hcx (Kd.C_below G2.out HX.out.below) l2 (sound_len HSO.out (lean13_len _ _ _ _ _ _)) (lean13_u32 _ _ _ _ _ _)).mono ?_; rintro e v3 ⟨Y, cy, rfl, hcy, hs4⟩
    rw [back_forth HSO.out HU.out] at hs4
    have hs5 := ((HX.out.frame hs4).assoc.swap.drop.alloc #[.int .i64 a, .int .i64 b, .slice Y p.length cy] 24).rot3.drop.rot3.drop
    have n0 := (hs5.rot4.cell 0).trans rfl
    have n1 := (hs5.rot4.cell 1).trans rfl
    have n2 := (hs5.rot4.cell 2).trans rfl
    have HY := Aside0.mk hs5; clear hs5 hs4 HX
    go_wp2_with fail
    refine (lean_Back_ok a b d A c A2 c2 p l _ (Kd.C_below G0.out HY.out.below) l0 (Kd.C_below G2.out HY.out.below) l2 HSO.out HU.out).mono ?_; rintro e v4 ⟨Z, cz, rfl, hcz, hs6⟩
    have HZ := Aside0.mk ((HY.out.frame hs6).assoc.swap.drop.alloc #[.int .i64 a, .int .i64 b, .slice Z p.length cz] 24); clear hs6 HY n0 n1 n2
    go_wp2_with fail
    refine (Forth_n a b d Z p.length cz A2 c2 (lean13 true a d l p p.length) l _ (lean13_len _ _ _ _ _ _) (rowReads HZ.out.swap) hcz (Kd.C_below G2.out HZ.out.below) l2 (sound_len HSO.out (lean13_len _ _ _ _ _ _)) (lean13_u32 _ _ _ _ _ _)).mono ?_; rintro e v5 ⟨V, cv, rfl, hcv, hs7⟩
    rw [forth_back HSO.out HU.out] at hs7
    have HV := Aside0.mk ((HZ.out.frame hs7).assoc.swap.drop.alloc #[.int .i64 a, .int .i64 b, .slice V p.length cv] 24).rot3.drop.rot3.drop; clear hs7 HZ
    go_wp2_with fail
    refine (answers_calls _).mono ?_; rintro e w6 ⟨rfl, hb6⟩
    have HS6 := Aside0.mk (HV.out.belowR hb6); clear hb6 HV
    have v60 := (HS6.out.cell 0).trans rfl
    have v61 := (HS6.out.cell 1).trans rfl
    have v62 := (HS6.out.cell 2).trans rfl
    have y60 := (HS6.out.rot3.cell 0).trans rfl
    have y61 := (HS6.out.rot3.cell 1).trans rfl
    have y62 := (HS6.out.rot3.cell 2).trans rfl
    have m60 := (HS6.out.drop.drop.drop.rot3.cell 0).trans rfl
    have m61 := (HS6.out.drop.drop.drop.rot3.cell 1).trans rfl
    have m62 := (HS6.out.drop.drop.drop.rot3.cell 2).trans rfl
    go_wp2_with fail
    refine (refSame_calls a b Y A p.length cy c p _ rfl (by omega) (rowReads HS6.out.rot4) (C_reads (Kd.C_below G0.out HS6.out.below)) hcy l0).mono ?_; rintro e w7 ⟨rfl, hb7⟩
    have HS7 := Aside0.mk (HS6.out.belowR hb7); clear hb7 HS6
    have v70 := (HS7.out.cell 0).trans rfl
    have v71 := (HS7.out.cell 1).trans rfl
    have v72 := (HS7.out.cell 2).trans rfl
    have y70 := (HS7.out.rot3.cell 0).trans rfl
    have y71 := (HS7.out.rot3.cell 1).trans rfl
    have y72 := (HS7.out.rot3.cell 2).trans rfl
    have m70 := (HS7.out.drop.drop.drop.rot3.cell 0).trans rfl
    have m71 := (HS7.out.drop.drop.drop.rot3.cell 1).trans rfl
    have m72 := (HS7.out.drop.drop.drop.rot3.cell 2).trans rfl
    go_wp2_with fail
    refine (refSame_calls a b V A p.length cv c p _ rfl (by omega) (rowReads HS7.out.swap) (C_reads (Kd.C_below G0.out HS7.out.below)) hcv l0).mono ?_; rintro e w8 ⟨rfl, hb8⟩
    have HS8 := Aside0.mk (HS7.out.belowR hb8); clear hb8 HS7
    have v80 := (HS8.out.cell 0).trans rfl
    have v81 := (HS8.out.cell 1).trans rfl
    have v82 := (HS8.out.cell 2).trans rfl
    have y80 := (HS8.out.rot3.cell 0).trans rfl
    have y81 := (HS8.out.rot3.cell 1).trans rfl
    have y82 := (HS8.out.rot3.cell 2).trans rfl
    have m80 := (HS8.out.drop.drop.drop.rot3.cell 0).trans rfl
    have m81 := (HS8.out.drop.drop.drop.rot3.cell 1).trans rfl
    have m82 := (HS8.out.drop.drop.drop.rot3.cell 2).trans rfl
    obtain ⟨kp, ep⟩ := (pixels_ev p (by omega)).rounds
    have hc3 : p.length ≤ c3 := own_le HS8.out.drop.drop.drop.drop.row
    go_wp2_with fail
    refine (marquetryref11_Pixels.calls kp A3 c3 p A c p true _ (reads_C (rowReads HS8.out.drop.drop.drop.drop)) hc3 (Kd.C_below G0.out HS8.out.below) l0 ep).mono ?_; rintro e w9 ⟨rfl, ⟨nd, rfl⟩⟩
    have HB := Aside0.mk (HS8.out.drewN nd).below
    go_wp2_with fail
    go_ret
    exact ⟨rfl, HB.out⟩
  · rw [decide_eq_false hso] at em
    have EM := Aside0.mk em; clear em hso
    have HS := Aside0.mk hs; clear hs
    go_enter Try.func6, Try.ntmps6
    go_wp2_with fail
    refine (marquetryref11_Modes.calls km a b A c p d A2 c2 l false _ (Kd.C_below G0.out HS.out.below) l0 (Kd.C_below G2.out HS.out.below) l2 EM.out).mono ?_; rintro e w1 ⟨rfl, hb1⟩
    have HS1 := Aside0.mk (HS.out.belowR hb1); clear hb1 HS
    go_wp2_with fail
    refine (answers_calls _).mono ?_; rintro e w2 ⟨rfl, hb⟩
    have HB := Aside0.mk (HS1.out.belowR hb).below; clear hb
    go_wp2_with fail
    go_ret
    exact ⟨rfl, HB.out⟩
end Go.Proofs.Ytnbocgmlcdcahaa.Pure
