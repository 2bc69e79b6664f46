/- The canvas as an image. -/
import Derived.Test.YtegifkffhnhccaaMcv
import Derived.Lib.SliceRun
namespace Go.Proofs.Ytegifkffhnhccaa.P
open Go Go.RowKit Go.Proofs.YtegifkffhnhccaaW.PrintWords Go.Proofs.YtegifkffhnhccaaW.PrintLast Go.Proofs.YtegifkffhnhccaaW.PrintMore
set_option linter.unusedVariables false
set_option linter.unusedSimpArgs false
attribute [local go_sem] max2_int min2_int max_two min_two max_three min_three max_four min_four
theorem results_c1 {P : Program} {fn : Func} {p : Tmp} {ty : TypeId} (h : fn.results = #[.cell p ty]) (tmps : Array Value) (w : World) (g : Nat) (t : TypeId) (cs : Array Value) (fr : Nat × Nat) (d : TypeDesc)
    (hp : tmps.getD p undef = .pointer (some ⟨g, 0, none⟩)) (hg : w.heap[g]? = some (.cells cs t fr))
    (hu : P.underlying ty = some d) (hd : (match d with | .struct _ | .array _ _ => true | _ => false) = true) (hi : (P.info? ty).map (·.size) = some cs.size) :
    (results fn tmps).run P w = .ok (.agg cs) w := by
  have hp' : tmps[p]?.getD undef = .pointer (some ⟨g, 0, none⟩) := by simpa using hp
  simp [results, h, hp', asAddr, run_loadVar_row w g t ty cs fr d hg hu hd hi]
set_option maxHeartbeats 1000000 in
set_option maxRecDepth 100000 in
theorem clone32 (ad : Addr) (n c : Nat) (l : List Int) (w : World) (hr : ReadsInt w .u32 (some ad) n l) (hl : n ≤ 268435456) :
    Calls Try.prog 30 #[.slice (some ad) n c] w fun e w' => ∃ B cB, e = .returned (.slice B n cB) ∧ St w w' (Asrt.row 22 1 (.slice B n cB) n (nums .u32 l) * Asrt.emp) := by
  have HR := Aside0.mk hr; clear hr
  have HS := Aside0.mk ((St.refl w).allocRow 22 .u32 [] (by decide))
  have hnil := fun (w : World) => Lib.run_eql_slice_nil (P := Try.prog) w 29 22 (some ad) n c 0 0 Try.underlying29
  have HL := Aside0.mk hl; clear hl
  go_enter Try.func30, Try.ntmps30
  go_wp2_with (at_builtin; refine St.append_row (w0 := w) rfl (.tmp 5) (.tmp 6) 29 22 .u32 4 rfl Try.underlying29 (by kernel_rfl) (by decide) (.slice (some ⟨w.heap.size, 0, none⟩) 0 0) 0 [] l (some ad) n c rfl rfl HS.out (HR.out.allocS _) (by have := HL.out; omega) ?_; intro A1 c1 w1 hs; rw [List.nil_append, Nat.zero_add] at hs; have HS1 := Aside0.mk hs; clear hs)
  go_ret
  exact ⟨_, _, rfl, HS1.out⟩
theorem blkReads {w0 w : World} {r : Asrt} {k : IntKind} {e : TypeId} {h : Nat} {l : List Int} (hs : St w0 w (Asrt.blk h e (nums k l).toArray * r)) (hl : l.length ≤ 9223372036854775807) : ReadsInt w k (some ⟨h, 0, none⟩) l.length l := by
  refine ⟨rfl, hl, fun _ => ⟨_, rfl, fun j hj => ?_⟩⟩
  have hadd : (⟨h, 0, none⟩ : Addr).add j = ⟨h, j, none⟩ := by unfold Addr.add; split <;> simp_all
  rw [hadd, hs.cell]
  simp [nums, hj]
set_option maxHeartbeats 1000000 in
set_option maxRecDepth 100000 in
theorem canvas_Image_ok (g h : Nat) (W H lx ly lw lh : Int) (pix : List Int) (r : Asrt) (w0 w : World) (hl : pix.length ≤ 268435456) (hs : St w0 w (canvO g h W H lx ly lw lh pix * r)) :
    Calls Try.prog 19 #[.pointer (some ⟨g, 0, none⟩)] w fun e w' => ∃ B cB, e = .returned (.agg #[.int .i64 W, .int .i64 H, .slice B pix.length cB]) ∧ St w0 w' (Asrt.row 22 1 (.slice B pix.length cB) pix.length (nums .u32 pix) * (canvO g h W H lx ly lw lh pix * r)) := by
  have s1 := hs.alloc #[.int .i64 0, .int .i64 0, .slice none 0 0] 31
  have s2 := s1.drew
  have s3 := s2.swap.assoc
  have c0 := (s3.cell 0).trans rfl
  have c1 := (s3.cell 1).trans rfl
  have c2 := (s3.cell 2).trans rfl
  have HR := Aside0.mk (blkReads s3.swap (by omega))
  have HS := Aside0.mk s2
  have HL := Aside0.mk hl
  clear hs s1 s2 s3 hl
  go_enter Try.func19, Try.ntmps19
  go_upto_region 3 with (fail)
  go_region_held3 (fun w' => w'.cell? ⟨g, 0, none⟩ = some (.int .i64 W) ∧ w'.cell? ⟨g, 1, none⟩ = some (.int .i64 H) ∧ w'.cell? ⟨g, 2, none⟩ = some (.slice (some ⟨h, 0, none⟩) pix.length pix.length)) (go_keep) (first | (go_at_call 30; with_reducible refine (clone32 _ _ pix.length pix _ HR.out HL.out).mono ?_; rintro e w3 ⟨B, cB, rfl, hs3⟩; have s4 := (HS.out.frame hs3).assoc.swap.drop; have s5 := s4.swap.swap2; have HS3 := Aside0.mk s4; have n0 := (s4.rot3.assoc.cell 0).trans rfl; have n1 := (s4.rot3.assoc.cell 1).trans rfl; have n2 := (s4.rot3.assoc.cell 2).trans rfl; have b0 := (s4.swap.cell 0).trans rfl; have b1 := (s4.swap.cell 1).trans rfl; have b2 := (s4.swap.cell 2).trans rfl; have f0 := s4.swap.frozen 0; have f1 := s4.swap.frozen 1; have f2 := s4.swap.frozen 2; have t3 := ((s4.swap.set 0 (.int .i64 W)).set 1 (.int .i64 H)).set 2 (.slice B pix.length cB); have p0 := (t3.rot3.assoc.cell 0).trans rfl; have p1 := (t3.rot3.assoc.cell 1).trans rfl; have p2 := (t3.rot3.assoc.cell 2).trans rfl; have g0 := (t3.cell 0).trans rfl; have g1 := (t3.cell 1).trans rfl; have g2 := (t3.cell 2).trans rfl; have HT := Aside0.mk t3; clear hs3 s4 s5 t3))
  have hrb := HT.out.blk
  have hfin := HT.out.swap
  have HRB := Aside0.mk hrb; clear hrb
  have HF := Aside0.mk (show St w0 _ (Asrt.row 22 1 (.slice B pix.length cB) pix.length (nums .u32 pix) * (canvO g h W H lx ly lw lh pix * r)) from HT.out.drop); clear hfin
  clear n0 n1 n2 b0 b1 b2 f0 f1 f2 p0 p1 p2
  go_wp2_with fail
  refine bodyPost_ret (results_c1 rfl _ _ w.heap.size 31 #[.int .i64 W, .int .i64 H, .slice B pix.length cB] (0, 0) _ rfl HRB.out Try.underlying31 rfl (by kernel_rfl)) rfl ?_
  exact ⟨B, cB, rfl, HF.out⟩
end Go.Proofs.Ytegifkffhnhccaa.P
