/- A stretch of a row of one's own is written: by clear, by copy, by a store through a slice of it. -/
import Derived.Test.YtegifkffhnhccaaProg
import Derived.Below
import Derived.Deep.Draws
import Derived.Deep.AppendLies
import Derived.Maps.AppendAt
import Derived.OwnWalk
import Derived.Laws.BytesArg
import Derived.Laws.MakeOwn
import Derived.Laws.OwnMore
import Derived.Deep.OwnRows
import Derived.Tactics
import Derived.Lib.ConvBytes
import Derived.Laws.Slices
import Derived.WalkKit
import Derived.KernelRfl
import Derived.RowKit3
import Derived.Deep.LoopGhost
import Derived.Deep.QuietTactic
import Derived.BigQuiet
import Derived.WideLaws
import Derived.Deep.DeepCutAuto
import Derived.Deep.CutBlock
import Derived.Deep.RegionHeld3
import Derived.Laws.Rows
import Derived.Lib.AppendStr
import Derived.ArgAppend
import Derived.Laws.IdiomCopy
import Derived.OrdersHeld
import Derived.Laws.BitsLemmas
import Derived.RowKit
import Derived.LoopN
import Derived.Handy
import Derived.Lib.Hide
import Derived.StillTailTactics
import Derived.Deep.RegionLaw
import Derived.Deep.RegionWith
import Derived.Test.YtegifkffhnhccaaWWords
import Derived.Test.YtegifkffhnhccaaWLast
import Derived.Test.YtegifkffhnhccaaWTab
import Derived.Test.YtegifkffhnhccaaWFour
import Derived.Test.YtegifkffhnhccaaWQPut
import Derived.Test.YtegifkffhnhccaaWApart
import Derived.Test.YtegifkffhnhccaaWArr
import Derived.Test.YtegifkffhnhccaaWZeros
import Derived.Test.YtegifkffhnhccaaWFoot
import Derived.Test.YtegifkffhnhccaaWKept
import Derived.Test.YtegifkffhnhccaaWShare
import Derived.Test.YtegifkffhnhccaaWN
import Derived.Test.YtegifkffhnhccaaWFootNe
import Derived.Test.YtegifkffhnhccaaWAt
import Derived.Test.YtegifkffhnhccaaWEqStruct
import Derived.Test.YtegifkffhnhccaaWRepsOne
import Derived.Test.YtegifkffhnhccaaWInv
import Derived.Test.YtegifkffhnhccaaWInvWords
import Derived.Test.YtegifkffhnhccaaWGuard
import Derived.Test.YtegifkffhnhccaaWNEv
import Derived.Test.YtegifkffhnhccaaWMore
import Derived.Test.YtegifkffhnhccaaSl
import Derived.Laws.CopyOwn
namespace Go.Proofs.Ytegifkffhnhccaa.P
open Go Go.RowKit Go.Proofs.YtegifkffhnhccaaW.PrintWords Go.Proofs.YtegifkffhnhccaaW.PrintLast Go.Proofs.YtegifkffhnhccaaW.PrintMore
set_option linter.unusedVariables false
set_option linter.unusedSimpArgs false
open Asrt
/-- ys over xs from place o on. -/
def lay (xs : List Int) (o : Nat) (ys : List Int) : List Int := xs.take o ++ (ys ++ xs.drop (o + ys.length))
theorem lay_len (xs : List Int) (o : Nat) (ys : List Int) (h : o + ys.length ≤ xs.length) : (lay xs o ys).length = xs.length := by simp [lay]; omega
theorem rd_nat' {l : List Int} {i : Nat} (h : i < l.length) : rd l (i : Int) = l[i] := by
  unfold rd
  rw [show ((i : Int)).toNat = i by omega, List.getD_eq_getElem?_getD, List.getElem?_eq_getElem h]
  rfl
theorem rd_lay (xs : List Int) (o : Nat) (ys : List Int) (h : o + ys.length ≤ xs.length) (i : Nat) (hi : i < xs.length) : rd (lay xs o ys) (i : Int) = if o ≤ i ∧ i < o + ys.length then rd ys ((i : Int) - o) else rd xs (i : Int) := by
  rw [rd_nat' (by rw [lay_len _ _ _ h]; exact hi)]
  unfold lay
  have hto : (xs.take o).length = o := by rw [List.length_take]; omega
  by_cases c1 : i < o
  · rw [if_neg (by omega), List.getElem_append_left (by rw [hto]; exact c1), List.getElem_take, rd_nat' hi]
  rw [List.getElem_append_right (by rw [hto]; omega)]
  by_cases c2 : i < o + ys.length
  · rw [if_pos (by omega), List.getElem_append_left (by rw [hto]; omega), show (i : Int) - o = ((i - o : Nat) : Int) by omega, rd_nat' (by omega)]
    congr 1
    rw [hto]
  · rw [if_neg (by omega), List.getElem_append_right (by rw [hto]; omega), List.getElem_drop, rd_nat' hi]
    congr 1
    rw [hto]
    omega
section
variable {P : Program} {w0 w : World} {R : Asrt}
theorem run_lay {e : TypeId} {k : IntKind} {n c g : Nat} {xs : List Int} (h : St w0 w (Asrt.row e 1 (.slice (some ⟨g, 0, none⟩) n c) n (nums k xs) * R)) (o : Nat) (ys : List Int) (hfit : o + ys.length ≤ n) :
    ∃ w', (storeCells ⟨g, o, none⟩ (nums k ys)).run P w = .ok () w' ∧ St w0 w' (Asrt.row e 1 (.slice (some ⟨g, 0, none⟩) n c) n (nums k (lay xs o ys)) * R) := by
  have hr := h.row
  obtain ⟨h1, h2⟩ := hr
  rcases h2 with ⟨hn, _⟩ | ⟨g', cap, cur, hv, hb, hg, hnc, hcm, hcs, htake⟩
  · cases hn
  injection hv with hv1 hv2 hv3
  injection hv1 with hv1
  injection hv1 with hv1
  subst hv1
  subst hv3
  have hxl : xs.length = n := by simpa [nums] using h1
  have hnl : (nums k ys).length = ys.length := by simp [nums]
  have hone : ∀ v ∈ nums k ys, v.oneCell' = true := by
    intro v hv
    obtain ⟨x, _, rfl⟩ := List.mem_map.1 hv
    rfl
  have hrun := run_storeCells_at P g o e (nums k ys) 0 cur w hg (by rw [hnl]; omega) hone
  refine ⟨_, hrun, ?_⟩
  refine h.move fun F hF _ => ⟨F, ⟨⟨by simp only [nums, List.length_map]; rw [lay_len _ _ _ (by omega)]; omega, .inr ⟨g, c, _, rfl, Nat.zero_le _, setRow_heap w g cur _ e _ hg, hnc, hcm, ?_, ?_⟩⟩, hF.2⟩, rfl, rfl, rfl, by simp [World.setRow], fun j _ hj => setRow_other w g j _ (fun he => hj ((hF.2 j).2 (by simp [Value.ownBlock, he]))), fun _ hj => .inl hj⟩
  · simp only [List.size_toArray, List.length_append, List.length_take, List.length_drop, Array.length_toList]
    omega
  · have ht : cur.toList.take n = nums k xs := by simpa using htake
    have e1 : nums k (lay xs o ys) = (nums k xs).take o ++ (nums k ys ++ (nums k xs).drop (o + ys.length)) := by simp [nums, lay, List.map_append, List.map_take, List.map_drop]
    rw [e1, ← ht, List.take_take, Nat.min_eq_left (by omega), List.drop_take]
    simp only [Nat.add_zero, hnl, Nat.mul_one, List.append_assoc]
    have hcl : cur.toList.length = c := by simpa using hcs
    have hA : (cur.toList.take o).length = o := by rw [List.length_take]; omega
    rw [List.take_append, hA, List.take_of_length_le (by omega : (cur.toList.take o).length ≤ n), List.take_append, hnl, List.take_of_length_le (by omega : (nums k ys).length ≤ n - o), Nat.sub_sub]
end
section
variable {P : Program} {ops : Array Oper} {rest : List Oper} {o : Oper} {a : Act} {Q : Exit → Act → World → Prop} {w0 W : World} {R : Asrt}
/-- 'clear(xs[i:j])', xs a row of one's own. -/
theorem St.clear_at (hgd : o.guard = none) (s : Operand) (t e : TypeId) (k : IntKind)
    (ho : o.op = .call { callee := .builtin .clear, args := #[s], argTypes := #[t] })
    (ht : P.underlying t = some (.slice e)) (hinfo : (P.info? e).map (fun i => i.zero) = some (some (.int k 0)))
    {n c g : Nat} {xs : List Int} (off m m' : Nat) (hs : a.eval s = .slice (some ⟨g, off, none⟩) m m')
    (HS : St w0 W (Asrt.row e 1 (.slice (some ⟨g, 0, none⟩) n c) n (nums k xs) * R)) (hfit : off + m ≤ n)
    (h : ∀ w1, St w0 w1 (Asrt.row e 1 (.slice (some ⟨g, 0, none⟩) n c) n (nums k (lay xs off (List.replicate m 0))) * R) → wpList P ops Q rest (a.put o.dst (.tuple #[])) w1) :
    wpList P ops Q (o :: rest) a W := by
  obtain ⟨i0, hi, hzz⟩ := Option.map_eq_some_iff.1 hinfo
  obtain ⟨w1, hrun, h1⟩ := run_lay (P := P) HS off (List.replicate m 0) (by simpa using hfit)
  have hz : (Builtin.zeroCells (Value.int k 0).cells m).toList = nums k (List.replicate m 0) := by
    apply List.ext_getElem
    · simp [Builtin.zeroCells, nums, Value.cells]
    · intro j hj1 hj2
      simp [Builtin.zeroCells, nums, Value.cells, Nat.mod_one]
  refine wpList_plain hgd fun K hK => ?_
  unfold Oper.wp execOp
  by_cases hm : m = 0
  · subst hm
    have e0 : lay xs off (List.replicate 0 0) = xs := by simp [lay]
    rw [e0] at h
    simp [ho, resolve, invoke, builtin, hs, Builtin.clear_, run_underlying ht]
    exact hK _ _ (h W HS)
  · obtain ⟨m, rfl⟩ : ∃ j, m = j + 1 := ⟨m - 1, by omega⟩
    have hclear : (Builtin.clear_ #[t] o.type #[.slice (some ⟨g, off, none⟩) (m + 1) m']).run P W = .ok (.tuple #[]) w1 := by
      simp only [Builtin.clear_, Sem.run_bind, run_underlying ht, zeroValue, typeInfo, hi, hzz]
      simp [run_underlying ht, zeroValue, typeInfo, hi, hzz, hz, hrun, Result.andThen]
    simp only [ho, resolve, invoke, builtin, Sem.run_bind, Sem.run_pure, Result.andThen_ok, List.map_toArray, List.map_cons, List.map_nil, hs, hclear]
    exact hK _ _ (h w1 h1)
/-- 'copy(xs[i:j], ys)', xs a row of one's own. -/
theorem St.copy_at (hgd : o.guard = none) (d s : Operand) (t e : TypeId) (k : IntKind)
    (ho : o.op = .call { callee := .builtin .copy, args := #[d, s], argTypes := #[t, t] })
    (ht : P.underlying t = some (.slice e)) (hsz : (P.info? e).map (·.size) = some 1)
    {n c g : Nat} {xs : List Int} (off m m' : Nat) (ad : Addr) (sl sc : Nat) (ys : List Int) (hd : a.eval d = .slice (some ⟨g, off, none⟩) m m') (hs : a.eval s = .slice (some ad) sl sc)
    (HS : St w0 W (Asrt.row e 1 (.slice (some ⟨g, 0, none⟩) n c) n (nums k xs) * R)) (hfit : off + ys.length ≤ n) (hlen : ys.length = Nat.min sl m) (hread : ∀ j : Nat, j < ys.length → W.cell? (ad.add j) = some (.int k (rd ys j)))
    (h : ∀ w1, St w0 w1 (Asrt.row e 1 (.slice (some ⟨g, 0, none⟩) n c) n (nums k (lay xs off ys)) * R) → wpList P ops Q rest (a.put o.dst (goInt ys.length)) w1) :
    wpList P ops Q (o :: rest) a W := by
  obtain ⟨w1, hrun, h1⟩ := run_lay (P := P) HS off ys hfit
  obtain ⟨i0, hi, hzz⟩ := Option.map_eq_some_iff.1 hsz
  have hnl : (nums k ys).length = ys.length := by simp [nums]
  have hcell : ∀ j v, (nums k ys)[j]? = some v → W.cell? (ad.add j) = some v := by
    intro j v hv
    have hj : j < ys.length := by have := (List.getElem?_eq_some_iff.1 hv).1; omega
    rw [hread j hj, rd_nat' hj, ← hv]
    simp [nums, hj]
  have hf := run_firstCells_some (P := P) W i0.size ys.length ad sl sc (nums k ys) (by rw [hzz, hnl, Nat.mul_one]) (by simpa using hcell)
  have hcopy : (Builtin.copy_ #[t, t] o.type #[.slice (some ⟨g, off, none⟩) m m', .slice (some ad) sl sc]).run P W = .ok (goInt ys.length) w1 := by
    simp [Builtin.copy_, run_underlying ht, Builtin.lenOf, sizeOf, typeInfo, hi, ← hlen, hf, hrun, Result.andThen]
  refine wpList_plain hgd fun K hK => ?_
  unfold Oper.wp execOp
  simp only [ho, resolve, invoke, builtin, Sem.run_bind, Sem.run_pure, Result.andThen_ok, List.map_toArray, List.map_cons, List.map_nil, hd, hs, hcopy]
  exact hK _ _ (h w1 h1)
end

/-! ### the same of an array that was made whole -/
section
variable {P : Program} {w0 w : World} {R : Asrt}
theorem run_layB {e : TypeId} {k : IntKind} {g : Nat} {xs : List Int} (h : St w0 w (Asrt.blk g e (nums k xs).toArray * R)) (o : Nat) (ys : List Int) (hfit : o + ys.length ≤ xs.length) :
    ∃ w', (storeCells ⟨g, o, none⟩ (nums k ys)).run P w = .ok () w' ∧ St w0 w' (Asrt.blk g e (nums k (lay xs o ys)).toArray * R) := by
  have hg := h.blk
  have hnl : (nums k ys).length = ys.length := by simp [nums]
  have hone : ∀ v ∈ nums k ys, v.oneCell' = true := by
    intro v hv
    obtain ⟨x, _, rfl⟩ := List.mem_map.1 hv
    rfl
  have hrun := run_storeCells_at P g o e (nums k ys) 0 _ w hg (by simp [nums]; omega) hone
  refine ⟨_, hrun, ?_⟩
  have e1 : (nums k (lay xs o ys)).toArray = ((nums k xs).toArray.toList.take (o + 0) ++ nums k ys ++ (nums k xs).toArray.toList.drop (o + 0 + (nums k ys).length)).toArray := by
    simp [nums, lay, List.map_append, List.map_take, List.map_drop]
  rw [← e1]
  exact h.move fun F hF _ => ⟨F, ⟨setRow_heap w g _ _ e _ hg, hF.2⟩, rfl, rfl, rfl, by simp [World.setRow], fun j _ hj => setRow_other w g j _ (fun he => hj ((hF.2 j).2 he)), fun _ hj => .inl hj⟩
end
section
variable {P : Program} {ops : Array Oper} {rest : List Oper} {o : Oper} {a : Act} {Q : Exit → Act → World → Prop} {w0 W : World} {R : Asrt}
theorem St.clearB (hgd : o.guard = none) (s : Operand) (t e : TypeId) (k : IntKind)
    (ho : o.op = .call { callee := .builtin .clear, args := #[s], argTypes := #[t] })
    (ht : P.underlying t = some (.slice e)) (hinfo : (P.info? e).map (fun i => i.zero) = some (some (.int k 0)))
    {g : Nat} {xs : List Int} (off m m' : Nat) (hs : a.eval s = .slice (some ⟨g, off, none⟩) m m')
    (HS : St w0 W (Asrt.blk g e (nums k xs).toArray * R)) (hfit : off + m ≤ xs.length)
    (h : ∀ w1, St w0 w1 (Asrt.blk g e (nums k (lay xs off (List.replicate m 0))).toArray * R) → wpList P ops Q rest (a.put o.dst (.tuple #[])) w1) :
    wpList P ops Q (o :: rest) a W := by
  obtain ⟨i0, hi, hzz⟩ := Option.map_eq_some_iff.1 hinfo
  obtain ⟨w1, hrun, h1⟩ := run_layB (P := P) HS off (List.replicate m 0) (by simpa using hfit)
  have hz : (Builtin.zeroCells (Value.int k 0).cells m).toList = nums k (List.replicate m 0) := by
    apply List.ext_getElem
    · simp [Builtin.zeroCells, nums, Value.cells]
    · intro j hj1 hj2
      simp [Builtin.zeroCells, nums, Value.cells, Nat.mod_one]
  refine wpList_plain hgd fun K hK => ?_
  unfold Oper.wp execOp
  by_cases hm : m = 0
  · subst hm
    have e0 : lay xs off (List.replicate 0 0) = xs := by simp [lay]
    rw [e0] at h
    simp [ho, resolve, invoke, builtin, hs, Builtin.clear_, run_underlying ht]
    exact hK _ _ (h W HS)
  · obtain ⟨m, rfl⟩ : ∃ j, m = j + 1 := ⟨m - 1, by omega⟩
    have hclear : (Builtin.clear_ #[t] o.type #[.slice (some ⟨g, off, none⟩) (m + 1) m']).run P W = .ok (.tuple #[]) w1 := by
      simp only [Builtin.clear_, Sem.run_bind, run_underlying ht, zeroValue, typeInfo, hi, hzz]
      simp [run_underlying ht, zeroValue, typeInfo, hi, hzz, hz, hrun, Result.andThen]
    simp only [ho, resolve, invoke, builtin, Sem.run_bind, Sem.run_pure, Result.andThen_ok, List.map_toArray, List.map_cons, List.map_nil, hs, hclear]
    exact hK _ _ (h w1 h1)
theorem St.copyB (hgd : o.guard = none) (d s : Operand) (t e : TypeId) (k : IntKind)
    (ho : o.op = .call { callee := .builtin .copy, args := #[d, s], argTypes := #[t, t] })
    (ht : P.underlying t = some (.slice e)) (hsz : (P.info? e).map (·.size) = some 1)
    {g : Nat} {xs : List Int} (off m m' : Nat) (ad : Addr) (sl sc : Nat) (ys : List Int) (hd : a.eval d = .slice (some ⟨g, off, none⟩) m m') (hs : a.eval s = .slice (some ad) sl sc)
    (HS : St w0 W (Asrt.blk g e (nums k xs).toArray * R)) (hfit : off + ys.length ≤ xs.length) (hlen : ys.length = Nat.min sl m) (hread : ∀ j : Nat, j < ys.length → W.cell? (ad.add j) = some (.int k (rd ys j)))
    (h : ∀ w1, St w0 w1 (Asrt.blk g e (nums k (lay xs off ys)).toArray * R) → wpList P ops Q rest (a.put o.dst (goInt ys.length)) w1) :
    wpList P ops Q (o :: rest) a W := by
  obtain ⟨w1, hrun, h1⟩ := run_layB (P := P) HS off ys hfit
  obtain ⟨i0, hi, hzz⟩ := Option.map_eq_some_iff.1 hsz
  have hnl : (nums k ys).length = ys.length := by simp [nums]
  have hcell : ∀ j v, (nums k ys)[j]? = some v → W.cell? (ad.add j) = some v := by
    intro j v hv
    have hj : j < ys.length := by have := (List.getElem?_eq_some_iff.1 hv).1; omega
    rw [hread j hj, rd_nat' hj, ← hv]
    simp [nums, hj]
  have hf := run_firstCells_some (P := P) W i0.size ys.length ad sl sc (nums k ys) (by rw [hzz, hnl, Nat.mul_one]) (by simpa using hcell)
  have hcopy : (Builtin.copy_ #[t, t] o.type #[.slice (some ⟨g, off, none⟩) m m', .slice (some ad) sl sc]).run P W = .ok (goInt ys.length) w1 := by
    simp [Builtin.copy_, run_underlying ht, Builtin.lenOf, sizeOf, typeInfo, hi, ← hlen, hf, hrun, Result.andThen]
  refine wpList_plain hgd fun K hK => ?_
  unfold Oper.wp execOp
  simp only [ho, resolve, invoke, builtin, Sem.run_bind, Sem.run_pure, Result.andThen_ok, List.map_toArray, List.map_cons, List.map_nil, hd, hs, hcopy]
  exact hK _ _ (h w1 h1)
end
end Go.Proofs.Ytegifkffhnhccaa.P
