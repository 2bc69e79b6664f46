/- The part of our texts, and of the print's, that these laws' proofs use. -/
import Derived.Test.YthkocpcjcpohcaaZD2
import Derived.Deep.Slices
import Derived.ChangeSlices
import Derived.ChangeSame
import Derived.SizedLaws
import Derived.Lib.SmallJoins
import Derived.Lib.AppendStr
import Derived.Test.YthkocpcjcpohcaaProg
import Derived.Below
import Derived.Deep.Draws
import Derived.Deep.AppendLies
import Derived.Maps.AppendAt
import Derived.OwnWalk
import Derived.Laws.BytesArg
import Derived.Laws.MakeOwn
import Derived.Laws.OwnMore
import Derived.Deep.OwnRows
import Derived.Tactics
import Derived.Lib.ConvBytes
import Derived.Laws.Slices
import Derived.WalkKit
import Derived.KernelRfl
import Derived.RowKit3
import Derived.Deep.LoopGhost
import Derived.Deep.QuietTactic
import Derived.BigQuiet
import Derived.WideLaws
import Derived.Deep.DeepCutAuto
import Derived.Deep.CutBlock
import Derived.Deep.RegionHeld3
import Derived.Laws.Rows
import Derived.ArgAppend
import Derived.Laws.IdiomCopy
import Derived.OrdersHeld
import Derived.Laws.BitsLemmas
import Derived.RowKit
import Derived.LoopN
import Derived.Handy
import Derived.Lib.Hide
import Derived.StillTailTactics
import Derived.Deep.RegionLaw
import Derived.Deep.RegionWith
import Derived.Laws.RangeString
import Derived.WalkSpells
import Derived.Lib.SlBytesConst
set_option linter.unusedVariables false
set_option linter.unusedSimpArgs false
section
namespace Go.Proofs.Ythkocpcjcpohcaa.O
open Go Go.RowKit Go.ChangeShapes Go.WideShapes Go.Deep Go.Proofs.YthkocpcjcpohcaaW.PrintWords
def Light {H : Type} (P : Program) (t : TypeId) (d : DataW H) : Prop := ∀ n ∈ d.weights P t, n ≤ 140737488351232
def Opens {α : Type} (d : Kd α) (Q : α → Prop) (P : Program) (t : TypeId) : Prop :=
  ∀ {H : Type} {enc : TypeId × Value → H} {W : World} {fuel : Nat} {cs : List Value} {x : DataW H × List MemPlace},
    DataW.trod enc P W 0 (fun _ => true) true fuel t cs = some x → Light P t x.1 → ∃ v, d.K W v cs ∧ Q v
theorem opens_int {P : Program} {t : TypeId} {k : IntKind} (ht : P.underlying t = some (.int k)) : Opens (Kd.int k) (fun n => (Lit.int k n).wf = true) P t := by
  intro H enc W fuel cs x h _
  obtain ⟨n, rfl, _, hw⟩ := DataW.trod_int ht h
  exact ⟨n, rfl, hw⟩
theorem opens_bool {P : Program} {t : TypeId} (ht : P.underlying t = some .bool) : Opens Kd.bool (fun _ => True) P t := by
  intro H enc W fuel cs x h _
  obtain ⟨b, rfl, _⟩ := DataW.trod_bool ht h
  exact ⟨b, rfl, trivial⟩
theorem opens_string {P : Program} {t : TypeId} (ht : P.underlying t = some .string) : Opens Kd.string (fun s => s.size ≤ 140737488351232) P t := by
  intro H enc W fuel cs x h hl
  obtain ⟨s, rfl, rfl, _⟩ := DataW.trod_string ht h
  refine ⟨s, rfl, ?_⟩
  have := hl s.data.toList.length (by simp [DataW.weights])
  simpa using this
theorem light_slice {H : Type} {P : Program} {t e : TypeId} {elems spare : List (DataW H)} (ht : P.underlying t = some (.slice e)) (h : Light P t (.slice elems spare)) :
    (elems.length + spare.length) * P.bytesOf e ≤ 140737488351232 ∧ ∀ d ∈ elems, Light P e d := by
  refine ⟨h _ (by simp [DataW.weights, ht]), fun d hd n hn => h n ?_⟩
  have : ∀ (l : List (DataW H)), d ∈ l → n ∈ DataW.weightsAll P e l := by
    intro l
    induction l with
    | nil => intro h; cases h
    | cons a r ih =>
      intro h
      simp only [DataW.weightsAll, List.mem_append]
      rcases List.mem_cons.1 h with rfl | h
      · exact .inl hn
      · exact .inr (ih h)
  simp only [DataW.weights, ht, List.mem_cons, List.mem_append]
  exact .inr (.inl (this _ hd))
theorem opens_slice {α : Type} [Inhabited α] {d : Kd α} {Q : α → Prop} {P : Program} {t e : TypeId} {B : Nat} (ht : P.underlying t = some (.slice e)) (hs : P.cellsOf e = d.sz) (hB : P.bytesOf e = B) (ho : Opens d Q P e) :
    Opens (Kd.slice e d) (fun l => l.length ≤ maxLen ∧ l.length * B ≤ 140737488351232 ∧ ∀ x ∈ l, Q x) P t := by
  intro H enc W fuel cs x h hl
  rcases open_slice ht h with ⟨rfl, rfl⟩ | ⟨a, len, cap, m, n, D, Pl, rfl, hb, hlc, hmx, hm, rfl, hi⟩
  · exact ⟨[], ⟨none, 0, rfl, by simp, rfl, by simp, fun h => absurd h (by simp)⟩, by simp, by simp, by simp⟩
  · obtain ⟨hw, hel⟩ := light_slice ht hl
    simp only [if_true] at hm
    subst hm
    have hx : ∀ i, ∃ v, i < len → ∃ cs', W.cells? 0 (a.add (i * P.cellsOf e)) (P.cellsOf e) = some cs' ∧ d.K W v cs' ∧ Q v := by
      intro i
      by_cases c : i < len
      · obtain ⟨cs', hc, ht'⟩ := hi i (by omega)
        obtain ⟨v, hk, hq⟩ := ho ht' (hel _ (by simp; exact ⟨i, c, rfl⟩))
        exact ⟨v, fun _ => ⟨cs', hc, hk, hq⟩⟩
      · exact ⟨default, fun h => absurd h c⟩
    have hf := fun i => (hx i).choose_spec
    generalize hg : (fun i => (hx i).choose) = f at *
    have hf' : ∀ i, i < len → ∃ cs', W.cells? 0 (a.add (i * P.cellsOf e)) (P.cellsOf e) = some cs' ∧ d.K W (f i) cs' ∧ Q (f i) := by
      intro i hlt
      have := hf i hlt
      rw [← hg]
      exact this
    refine ⟨(List.range len).map f, ⟨some a, m, by simp, by simpa using hlc, by simp, ?_, fun h0 => ⟨a, rfl, ?_⟩⟩, ?_, ?_, ?_⟩
    · have := hmx; unfold maxLen at this; simp; omega
    · intro j p hp
      obtain ⟨hj, rfl⟩ : j < len ∧ f j = p := by
        rw [List.getElem?_map] at hp
        rcases Nat.lt_or_ge j len with h | h
        · rw [List.getElem?_range h] at hp; exact ⟨h, Option.some.inj hp⟩
        · rw [List.getElem?_eq_none (by simpa using h)] at hp; cases hp
      obtain ⟨cs', hc, hk, _⟩ := hf' j hj
      obtain ⟨_, hcl, hat⟩ := World.cells?_some hc
      refine ⟨cs', d.K_len hk, hk, fun i u hu => ?_⟩
      have hlt : i < P.cellsOf e := by
        have := (List.getElem?_eq_some_iff.1 hu).1
        omega
      have h2 := hat i hlt
      rw [hu, hs] at h2
      rw [← Go.Deep.add_add]
      exact h2
    · have := hmx; simp; omega
    · simp only [List.length_map, List.length_range, hB] at hw ⊢
      exact Nat.le_trans (Nat.mul_le_mul_right _ (by omega)) hw
    · intro z hz
      obtain ⟨i, hi', rfl⟩ := List.mem_map.1 hz
      obtain ⟨_, _, _, hq⟩ := hf' i (List.mem_range.1 hi')
      exact hq
def OpensF {α : Type} (d : Kd α) (Q : α → Prop) (P : Program) (fs : List Field) (off : Nat) : Prop :=
  ∀ {H : Type} {enc : TypeId × Value → H} {W : World} {n : Nat} {cs : List Value} {xs : List (DataW H × List MemPlace)}, xs.length = fs.length → off + d.sz ≤ cs.length →
    (∀ (i : Nat) (f : Field), fs[i]? = some f → DataW.trod enc P W 0 (fun _ => true) true n f.type ((cs.drop f.offset).take (P.cellsOf f.type)) = xs[i]?) →
    (∀ (i : Nat) (f : Field) (x : DataW H × List MemPlace), fs[i]? = some f → xs[i]? = some x → Light P f.type x.1) → ∃ v, d.K W v ((cs.drop off).take d.sz) ∧ Q v
theorem opensF_one {α : Type} {d : Kd α} {Q : α → Prop} {P : Program} {f : Field} {off : Nat} (hoff : f.offset = off) (hs : P.cellsOf f.type = d.sz) (ho : Opens d Q P f.type) : OpensF d Q P [f] off := by
  intro H enc W n cs xs hl hlen ht hw
  obtain ⟨x, rfl⟩ : ∃ x, xs = [x] := by
    match xs, hl with
    | [x], _ => exact ⟨x, rfl⟩
  have h0 := ht 0 f rfl
  rw [hoff, hs] at h0
  exact ho h0 (hw 0 f x rfl rfl)
theorem opensF_cons {α β : Type} {a : Kd α} {b : Kd β} {Qa : α → Prop} {Qb : β → Prop} {P : Program} {f : Field} {fs : List Field} {off : Nat} (hoff : f.offset = off) (hs : P.cellsOf f.type = a.sz)
    (ha : Opens a Qa P f.type) (hb : OpensF b Qb P fs (off + a.sz)) : OpensF (Kd.pair a b) (fun x => Qa x.1 ∧ Qb x.2) P (f :: fs) off := by
  intro H enc W n cs xs hl hlen ht hw
  obtain ⟨x, r, rfl⟩ : ∃ x r, xs = x :: r := by
    match xs, hl with
    | x :: r, _ => exact ⟨x, r, rfl⟩
  have hlen' : off + (a.sz + b.sz) ≤ cs.length := hlen
  have h0 := ht 0 f rfl
  rw [hoff, hs] at h0
  obtain ⟨v, hk, hq⟩ := ha h0 (hw 0 f x rfl rfl)
  obtain ⟨u, hk2, hq2⟩ := hb (xs := r) (n := n) (cs := cs) (by simpa using hl) (by omega) (fun i g hg => ht (i + 1) g hg) (fun i g y hg hy => hw (i + 1) g y hg hy)
  refine ⟨(v, u), ⟨(cs.drop off).take a.sz, (cs.drop (off + a.sz)).take b.sz, ?_, hk, hk2⟩, hq, hq2⟩
  show (cs.drop off).take (a.sz + b.sz) = _
  rw [List.take_add, List.drop_drop]
theorem light_agg {H : Type} {P : Program} {t : TypeId} {fs : Array Field} {ds : List (DataW H)} (ht : P.underlying t = some (.struct fs)) (h : Light P t (.agg ds)) :
    ∀ (i : Nat) (f : Field) (d : DataW H), fs.toList[i]? = some f → ds[i]? = some d → Light P f.type d := by
  intro i f d hf hd n hn
  refine h n ?_
  simp only [DataW.weights, ht]
  exact DataW.weights_mem_each (j := i) (by rw [List.getElem?_map, hf]; rfl) hd n hn
theorem opens_struct {α β : Type} {d : Kd β} {Q : β → Prop} {P : Program} {t : TypeId} {fs : Array Field} {pr : α → β} (mk : β → α) (hmk : ∀ x, pr (mk x) = x) (ht : P.underlying t = some (.struct fs)) (hs : P.cellsOf t = d.sz)
    (ho : OpensF d Q P fs.toList 0) : Opens (Kd.iso d pr) (fun x => Q (pr x)) P t := by
  intro H enc W fuel cs x h hl
  obtain ⟨xs, n, rfl, rfl, hcl, hxl, hf⟩ := DataW.trod_struct ht h
  have hw := light_agg ht hl
  obtain ⟨v, hk, hq⟩ := ho (W := W) (n := n) (cs := cs) (xs := xs) (by simpa using hxl) (by omega) (fun i f hg => hf i f (by simpa using hg)) (fun i f y hg hy => hw i f y.1 hg (by rw [List.getElem?_map, hy]; rfl))
  refine ⟨mk v, ?_, by show Q (pr (mk v)); rw [hmk]; exact hq⟩
  show d.K W (pr (mk v)) cs
  rw [hmk]
  have e : (cs.drop 0).take d.sz = cs := by rw [List.drop_zero, List.take_of_length_le (by omega)]
  rw [e] at hk
  exact hk
theorem light_of {H : Type} {P : Program} {ts : List TypeId} {ds : List (DataW H)} (hsz : (DataW.weightsEach P ts ds).all (· ≤ reachBytes) = true) {j : Nat} {t : TypeId} {d : DataW H} (ht : ts[j]? = some t) (hd : ds[j]? = some d) : Light P t d := by
  intro n hn
  have := List.all_eq_true.1 hsz _ (DataW.weights_mem_each ht hd n hn)
  have h2 : reachBytes = 140737488351232 := by decide
  simpa [h2] using this
end Go.Proofs.Ythkocpcjcpohcaa.O
end
section
namespace Go.Proofs.YthkocpcjcpohcaaW.PrintLast
open Go Go.RowKit Go.Lib Go.Proofs.YthkocpcjcpohcaaW.PrintWords
section
variable {P : Program}
theorem append_str_hat (w : World) (base : Nat) (t u ty e : TypeId) (i : TypeInfo) (ht : P.underlying t = some (.slice e)) (hu : P.underlying u = some .string) (hi : P.info? e = some i) (hz : i.zero = some (.int .u8 0))
    (hsize : i.size = 1) (hby : i.bytes = 1)
    (v : Value) (n : Nat) (xs : List Value) (hown : w.ownsRow base e 1 v n xs) (s : ByteArray)
    (h63 : n + s.size ≤ maxLen) (hbytes : n + s.size ≤ 140737488355328) {v' : Value} {w' : World} (hrun : (Builtin.append_ #[t, u] ty #[v, .string s]).run P w = .ok v' w') :
    v'.ownBlock = v.ownBlock ∨ v'.ownBlock = some w.heap.size := by
  have hsmall : n + s.size ≤ 9223372036854775807 := by simp only [maxLen] at h63; omega
  have hxl : xs.length = n := by simpa using hown.1
  rcases hown.2 with ⟨rfl, rfl⟩ | ⟨g, cap, cur, rfl, hbg, hg, hnc, hcm, hcs, htake⟩
  · by_cases hm : s.size = 0
    · have hf := run_firstCells_string (P := P) w 1 s
      rw [hm] at hf
      have hr : (Builtin.append_ #[t, u] ty #[.slice none 0 0, .string s]).run P w = .ok (.slice none 0 0) w := by
        have hn : strCells s = [] := List.eq_nil_of_length_eq_zero (by rw [strCells_length]; exact hm)
        simp [Builtin.append_, run_underlying ht, run_underlying hu, sizeOf, typeInfo, hi, hsize, Builtin.lenOf, hm, hf]
      rw [hr] at hrun
      injection hrun with h1 _
      subst h1
      exact .inl rfl
    · have hr := run_append_nil_string (P := P) w t u ty e i (.int .u8 0) ht hu hi hz s (by omega) (by omega) (by rw [hby]; omega)
      rw [hr] at hrun
      injection hrun with h1 _
      subst h1
      exact .inr rfl
  · by_cases hroom : n + s.size ≤ cap
    · have hcs' : cur.size = cap := by simpa using hcs
      have hr := run_append_room_string (P := P) w t u ty e i ht hu hi hsize g n cap cur hg s hroom (by omega)
      rw [hr] at hrun
      injection hrun with h1 _
      subst h1
      exact .inl rfl
    · have holds : ∀ j u, xs[j]? = some u → w.cell? ((⟨g, 0, none⟩ : Addr).add j) = some u := hown.cells (g := g) rfl
      have hr := run_append_grow_string (P := P) w t u ty e i (.int .u8 0) ht hu hi hz ⟨g, 0, none⟩ n cap xs (by rw [hsize]; simpa using hxl) holds s (by omega) (by omega) (by rw [hby]; exact growslice_fits (by omega) (by omega))
      rw [hr] at hrun
      injection hrun with h1 _
      subst h1
      exact .inr rfl
end
section
variable {P : Program} {ops : Array Oper} {rest : List Oper} {o : Oper} {a : Act} {Q : Exit → Act → World → Prop}
theorem print_append_str_at {w0 W : World} (base : Nat) (hgd : o.guard = none) (s x : Operand) (t u e : TypeId)
    (ho : o.op = .call { callee := .builtin .append, args := #[s, x], argTypes := #[t, u] })
    (ht : P.underlying t = some (.slice e)) (hu : P.underlying u = some .string) (hinfo : (P.info? e).map (fun i => (i.zero, i.size, i.bytes)) = some (some (.int .u8 0), 1, 1))
    (v : Value) (xs : List Int) (y : ByteArray) (ok : Nat → Prop) (hs : a.eval s = v) (hx : a.eval x = .string y)
    (HO : Kd.R (Kd.int .u8) e W base ok v xs) (hF : ∀ k, W.heap.size ≤ k → ok k) (HB : Below base w0 W) (hbase : base ≤ W.heap.size) (hl : xs.length + y.size ≤ 140737488355328)
    (h : ∀ v1 w1, Kd.R (Kd.int .u8) e w1 base ok v1 (xs ++ bytesOf y) → Below base w0 w1 → W.grownBy w1 v.ownBlock → (v1.ownBlock = v.ownBlock ∨ ∃ b, v1.ownBlock = some b ∧ W.heap.size ≤ b) → wpList P ops Q rest (a.put o.dst v1) w1) :
    wpList P ops Q (o :: rest) a W := by
  have hown := Kd.own_of_R HO
  obtain ⟨i0, hi, hzz⟩ := Option.map_eq_some_iff.1 hinfo
  simp only [Prod.mk.injEq] at hzz
  obtain ⟨hz0, hz1, hz2⟩ := hzz
  refine wpList_plain hgd fun K hK => ?_
  have h63 : xs.length + y.size ≤ maxLen := by simp only [maxLen]; omega
  obtain ⟨v', w', hr, h2, h3, h4⟩ := run_append_own_string (P := P) W base t u o.type e i0 ht hu hi hz0 hz1 hz2 v xs.length _ hown y h63 hl hbase
  have hat := append_str_hat (P := P) W base t u o.type e i0 ht hu hi hz0 hz1 hz2 v xs.length _ hown y h63 hl hr
  have hl2 : (xs ++ bytesOf y).length = xs.length + y.size := by rw [List.length_append, bytesOf_length]
  have hc : nums .u8 (xs ++ bytesOf y) = nums .u8 xs ++ Lib.strCells y := by
    rw [nums_append]
    congr 1
    simp [nums, bytesOf, Lib.strCells]
  have h5 : w'.ownsRow base e 1 v' (xs ++ bytesOf y).length (nums .u8 (xs ++ bytesOf y)) := by rw [hl2, hc]; exact h2
  unfold Oper.wp execOp
  simp only [ho, resolve, invoke, builtin, Sem.run_bind, Sem.run_pure, Result.andThen_ok, List.map_toArray, List.map_cons, List.map_nil, hs, hx, hr]
  refine hK _ _ (h v' w' (Kd.R_of_own (h1 := fun _ => rfl) h5 fun k hk => ?_) (HB.grown h3 hbase (own_base hown)) h3 (hat.imp id fun e => ⟨_, e, Nat.le_refl _⟩))
  rcases hat with e | e
  · exact HO.1 k (by rw [← e]; exact hk)
  · rw [hk] at e
    injection e with e
    exact hF k (by omega)
end
section
variable {P : Program} {ops : Array Oper} {o : Oper} {a : Act} {Q : Exit → Act → World → Prop} {Kc : Act → World → Prop}
theorem print_append_str_step {w0 W : World} (base : Nat) (hw : Region.wanted o (yielded ops a.tmps) = true) (s x : Operand) (t u e : TypeId)
    (ho : o.op = .call { callee := .builtin .append, args := #[s, x], argTypes := #[t, u] })
    (ht : P.underlying t = some (.slice e)) (hu : P.underlying u = some .string) (hinfo : (P.info? e).map (fun i => (i.zero, i.size, i.bytes)) = some (some (.int .u8 0), 1, 1))
    (v : Value) (xs : List Int) (y : ByteArray) (ok : Nat → Prop) (hs : a.eval s = v) (hx : a.eval x = .string y)
    (HO : Kd.R (Kd.int .u8) e W base ok v xs) (hF : ∀ k, W.heap.size ≤ k → ok k) (HB : Below base w0 W) (hbase : base ≤ W.heap.size) (hl : xs.length + y.size ≤ 140737488355328)
    (h : ∀ v1 w1, Kd.R (Kd.int .u8) e w1 base ok v1 (xs ++ bytesOf y) → Below base w0 w1 → W.grownBy w1 v.ownBlock → (v1.ownBlock = v.ownBlock ∨ ∃ b, v1.ownBlock = some b ∧ W.heap.size ≤ b) → Kc (a.put o.dst v1) w1) :
    if Region.wanted o (yielded ops a.tmps) = true then Oper.wp P o a W Kc Q else Kc (a.put o.dst undef) W := by
  have hown := Kd.own_of_R HO
  obtain ⟨i0, hi, hzz⟩ := Option.map_eq_some_iff.1 hinfo
  simp only [Prod.mk.injEq] at hzz
  obtain ⟨hz0, hz1, hz2⟩ := hzz
  have h63 : xs.length + y.size ≤ maxLen := by simp only [maxLen]; omega
  obtain ⟨v', w', hr, h2, h3, h4⟩ := run_append_own_string (P := P) W base t u o.type e i0 ht hu hi hz0 hz1 hz2 v xs.length _ hown y h63 hl hbase
  have hat := append_str_hat (P := P) W base t u o.type e i0 ht hu hi hz0 hz1 hz2 v xs.length _ hown y h63 hl hr
  have hl2 : (xs ++ bytesOf y).length = xs.length + y.size := by rw [List.length_append, bytesOf_length]
  have hc : nums .u8 (xs ++ bytesOf y) = nums .u8 xs ++ Lib.strCells y := by
    rw [nums_append]
    congr 1
    simp [nums, bytesOf, Lib.strCells]
  have h5 : w'.ownsRow base e 1 v' (xs ++ bytesOf y).length (nums .u8 (xs ++ bytesOf y)) := by rw [hl2, hc]; exact h2
  refine event_step hw (v := v') (w1 := w') ?_ ?_
  · unfold execOp
    simp only [ho, resolve, invoke, builtin, Sem.run_bind, Sem.run_pure, Result.andThen_ok, List.map_toArray, List.map_cons, List.map_nil, hs, hx, hr]
  refine (h v' w' (Kd.R_of_own (h1 := fun _ => rfl) h5 fun k hk => ?_) (HB.grown h3 hbase (own_base hown)) h3 (hat.imp id fun e => ⟨_, e, Nat.le_refl _⟩))
  rcases hat with e | e
  · exact HO.1 k (by rw [← e]; exact hk)
  · rw [hk] at e
    injection e with e
    exact hF k (by omega)
end
end Go.Proofs.YthkocpcjcpohcaaW.PrintLast
end
section
namespace Go.Proofs.Ythkocpcjcpohcaa.P
open Go Go.RowKit Go.Proofs.YthkocpcjcpohcaaW.PrintWords Go.Proofs.YthkocpcjcpohcaaW.PrintLast Go.Proofs.YthkocpcjcpohcaaW.PrintMore
theorem decode_high (s : ByteArray) (i : Nat) (h : 128 ≤ (s.get! i).toNat) : 128 ≤ (Utf8.decode s i).1 := by
  unfold Utf8.decode Utf8.runeError
  simp only [Nat.add_zero]
  rw [if_neg (by omega)]
  repeat' split
  all_goals first | omega | (simp_all; omega) | simp_all
theorem run_next_rune {P : Program} (w : World) (s : ByteArray) (pos : Nat) (ty : TypeId) (h : pos < s.size) :
    (Instr.next (.pointer (some ⟨w.heap.size, 0, none⟩)) true ty).run P (w.iter s pos) =
      .ok (.tuple #[.bool true, .int .i64 pos, .int .i32 (Utf8.decode s pos).1]) (w.iter s (pos + (Utf8.decode s pos).2)) := by
  simp only [Instr.next, getObj, setObj, Sem.run_bind, Sem.run, World.iter_heap, Result.andThen, h, if_true, World.iter_set]
  simp [goInt, Sem.run, World.iter_heap, World.iter_set]
def sign (b : Int) : Prop := 32 ≤ b ∧ b ≤ 126
instance (b : Int) : Decidable (sign b) := by unfold sign; infer_instance
def chunk_Name.f (s : ByteArray) : Option Bool := some (decide ((bytesOf s).length = 4 ∧ ∀ b ∈ bytesOf s, sign b))
theorem rd_bytes (s : ByteArray) {i : Nat} (h : i < s.size) : (bytesOf s)[i]? = some ((s.get! i).toNat : Int) := by
  have e : s.get! i = s[i]'h := by
    simp [ByteArray.get!, getElem!_pos, h]
    rfl
  rw [e]
  unfold bytesOf
  simp [h]
  first | done | rfl | exact ⟨h, rfl⟩
theorem decode_low (s : ByteArray) (i : Nat) (h : (s.get! i).toNat < 128) : Utf8.decode s i = ((s.get! i).toNat, 1) := by
  simp only [Utf8.decode, Nat.add_zero, h, if_true]
def iterPos (g : Nat) (w : World) : Nat := match w.heap[g]? with | some (.stringIter _ p) => p | _ => 0
theorem iterPos_iter (w : World) (s : ByteArray) (p : Nat) : iterPos w.heap.size (w.iter s p) = p := by
  unfold iterPos
  rw [World.iter_heap]
theorem iter_below (w : World) (s : ByteArray) (p : Nat) : Below w.heap.size w (w.iter s p) := below_alloc (Below.refl _ _) _
set_option maxHeartbeats 4000000 in
set_option maxRecDepth 100000 in
theorem chunk_Name.calls (s : ByteArray) (r : Bool) (w : World) (h : chunk_Name.f s = some r) :
    Calls Try.prog 78 #[.string s] w fun e w' => e = .returned (.bool r) ∧ Below w.heap.size w w' := by
  have hr : decide ((bytesOf s).length = 4 ∧ ∀ b ∈ bytesOf s, sign b) = r := Option.some.inj h
  clear h
  have hlen : (bytesOf s).length = s.size := bytesOf_length s
  have HR := asiD hr; clear hr
  go_enter Try.func78, Try.ntmps78
  go_wp2_with fail
  go_loopw [2] (fun v wr => v = .bool false ∧ ∃ p : Nat, p ≤ s.size ∧ wr = w.iter s p ∧ ∀ j : Nat, j < p → ∀ b, (bytesOf s)[j]? = some b → sign b) (fun _ wr => s.size - iterPos w.heap.size wr)
  case atStart => exact ⟨rfl, 0, by omega, rfl, fun j hj => by omega⟩
  case round =>
    obtain ⟨rfl, p, hp, rfl, hall⟩ := hrel
    by_cases hlt : p < s.size
    · have hrd := rd_bytes s hlt
      have hn := fun ty => run_next_rune (P := Try.prog) w s p ty hlt
      obtain ⟨b, hb⟩ : ∃ b, (s.get! p).toNat = b := ⟨_, rfl⟩
      by_cases hs : sign ((s.get! p).toNat : Int)
      · have h2 : 32 ≤ b ∧ b ≤ 126 := by unfold sign at hs; omega
        rw [decode_low s p (by omega), hb] at hn
        have t1 : decide ((b : Int) < 32) = false := decide_eq_false (by omega)
        have t2 : decide (126 < (b : Int)) = false := decide_eq_false (by omega)
        have hall2 : ∀ j : Nat, j < p + 1 → ∀ b, (bytesOf s)[j]? = some b → sign b := by
          intro j hj b' hb'
          by_cases c : j = p
          · subst c
            rw [hrd] at hb'
            injection hb' with hb'
            rw [← hb']
            exact hs
          · exact hall j (by omega) b' hb'
        have HALL := asiD hall2
        clear hall hall2 hs hrd hb
        go_wp2_with fail
        go_roundw
        case rel => exact ⟨by first | rfl | trivial, p + 1, by omega, rfl, HALL.out⟩
        case measure => rw [iterPos_iter, iterPos_iter]; omega
      · have hv : (Utf8.decode s p).1 < 32 ∨ 126 < (Utf8.decode s p).1 := by
          by_cases c : (s.get! p).toNat < 128
          · rw [decode_low s p c]
            unfold sign at hs
            omega
          · have := decode_high s p (by omega)
            omega
        have hmem : ((s.get! p).toNat : Int) ∈ bytesOf s := List.mem_of_getElem? hrd
        have hrf : r = false := by
          rw [← HR.out]
          exact decide_eq_false fun h => hs (h.2 _ hmem)
        subst hrf
        generalize Utf8.decode s p = dd at *
        obtain ⟨rn, sz⟩ := dd
        clear hall hmem hs hrd hb HR
        simp only at hv hn
        by_cases c : rn < 32
        · have t1 : decide ((rn : Int) < 32) = true := decide_eq_true (by omega)
          go_wp2_with fail
          go_ret
          exact ⟨rfl, iter_below _ _ _⟩
        · have t1 : decide ((rn : Int) < 32) = false := decide_eq_false (by omega)
          have t2 : decide (126 < (rn : Int)) = true := decide_eq_true (by omega)
          go_wp2_with fail
          go_ret
          exact ⟨rfl, iter_below _ _ _⟩
    · have hn := fun ty => run_next_end (P := Try.prog) w s p ty hlt
      have hall2 : ∀ b ∈ bytesOf s, sign b := by
        intro b hb
        obtain ⟨j, hj⟩ := List.getElem?_of_mem hb
        have : j < (bytesOf s).length := by
          rcases Nat.lt_or_ge j (bytesOf s).length with h | h
          · exact h
          · rw [List.getElem?_eq_none h] at hj; cases hj
        exact hall j (by omega) b hj
      have hrr : r = decide ((s.size : Int) = 4) := by
        rw [← HR.out]
        exact decide_eq_decide.2 ⟨fun h => by omega, fun h => ⟨by omega, hall2⟩⟩
      subst hrr
      clear HR hall hall2
      go_wp2_with fail
      go_ret
      refine ⟨?_, iter_below _ _ _⟩
      first | rfl | (congr 1; done) | (simp; done) | (congr 2; simp [beq_eq_decide]; done)
def bytes_Clone.f (l : List Int) : Option (List Int) := if l.length ≤ 140737488351232 then some l else none
theorem C_reads24 {w : World} {A : Option Addr} {n : Nat} {l : List Int} (h : Kd.C (Kd.int .u8) w A n l) : ReadsInt w .u8 A n l := by
  refine ⟨h.1, h.2.1, fun hn => ?_⟩
  obtain ⟨ad, e, hc⟩ := h.2.2 hn
  refine ⟨ad, e, fun i hi => ?_⟩
  have hi' : i < l.length := by rw [h.1]; exact hi
  obtain ⟨c, hl, hk, hcell⟩ := hc i _ (List.getElem?_eq_getElem hi')
  have hk' : c = [Value.int .u8 l[i]] := hk
  have := hcell 0 (Value.int .u8 l[i]) (by rw [hk']; rfl)
  have e2 : (Kd.int .u8).sz = 1 := rfl
  rw [e2, Nat.mul_one, Nat.add_zero] at this
  rw [this]
  simp [hi']
set_option maxHeartbeats 1000000 in
set_option maxRecDepth 100000 in
theorem bytes_Clone.calls (A : Option Addr) (c : Nat) (l r : List Int) (w : World) (hr : Kd.C (Kd.int .u8) w A l.length l) (hc : l.length ≤ c) (h : bytes_Clone.f l = some r) :
    Calls Try.prog 88 #[.slice A l.length c] w fun e w' => ∃ v : Value, e = .returned v ∧ Kd.R (Kd.int .u8) 5 w' w.heap.size (fun _ => True) v r ∧ Below w.heap.size w w' := by
  have hl : l.length ≤ 140737488351232 ∧ l = r := by
    unfold bytes_Clone.f at h
    by_cases c : l.length ≤ 140737488351232
    · rw [if_pos c] at h; exact ⟨c, Option.some.inj h⟩
    · rw [if_neg c] at h; cases h
  clear h
  obtain ⟨hl, rfl⟩ := hl
  have HR := asiD (C_reads24 hr); clear hr
  have hnil := fun (w : World) => Lib.run_eql_slice_nil (P := Try.prog) w 23 5 A l.length c 0 0 Try.underlying23
  rcases A with _ | ad
  · have h0 : l = [] := by
      rcases Nat.eq_zero_or_pos l.length with h0 | h0
      · exact List.eq_nil_of_length_eq_zero h0
      · obtain ⟨ad, h, _⟩ := HR.out.2.2 h0
        cases h
    subst h0
    simp only [List.length_nil] at hnil
    go_enter Try.func88, Try.ntmps88
    go_wp2_with fail
    go_ret
    exact ⟨_, rfl, Kd.R_nil _ _ _ _ _, Below.refl _ _⟩
  · have HO := asiD (own_lit w w.heap.size 5 .u8 [] (Nat.le_refl _) (by decide))
    have HB := asiD (below_alloc (Below.refl w.heap.size w) (.cells #[] 5))
    go_enter Try.func88, Try.ntmps88
    go_wp2_with (at_builtin; refine print_append_row (w0 := w) w.heap.size rfl (.tmp 5) (.tmp 6) 23 5 .u8 1 rfl Try.underlying23 (by kernel_rfl) (by decide) (.slice (some ⟨w.heap.size, 0, none⟩) 0 0) [] l (some ad) l.length c rfl rfl HO.out (HR.out.allocS _) HB.out (by simp) (by simp; omega) ?_; intro v1 w1 ho hb hg hat; rw [List.nil_append] at ho; have HO1 := asiD ho; have HB1 := asiD hb; clear ho hb hg hat)
    go_ret
    exact ⟨_, rfl, Kd.R_of_own (h1 := fun _ => rfl) HO1.out (fun _ _ => trivial), HB1.out⟩
structure Asrt where
  holds : World → (Nat → Prop) → Prop
  loc : ∀ {w w' : World} {F : Nat → Prop}, holds w F → (∀ k, F k → w'.heap[k]? = w.heap[k]?) → holds w' F
  lt : ∀ {w : World} {F : Nat → Prop} {k : Nat}, holds w F → F k → k < w.heap.size
namespace Asrt
def emp : Asrt := ⟨fun _ F => ∀ k, ¬ F k, fun h _ => h, fun h hk => absurd hk (h _)⟩
def star (a b : Asrt) : Asrt where
  holds w F := ∃ G H : Nat → Prop, a.holds w G ∧ b.holds w H ∧ (∀ k, G k → ¬ H k) ∧ (∀ k, F k ↔ (G k ∨ H k))
  loc := by
    rintro w w' F ⟨G, H, ha, hb, hd, hF⟩ hm
    exact ⟨G, H, a.loc ha (fun k hk => hm k ((hF k).2 (.inl hk))), b.loc hb (fun k hk => hm k ((hF k).2 (.inr hk))), hd, hF⟩
  lt := by
    rintro w F k ⟨G, H, ha, hb, hd, hF⟩ hk
    rcases (hF k).1 hk with h | h
    · exact a.lt ha h
    · exact b.lt hb h
instance : Mul Asrt := ⟨star⟩
def blk (g : Nat) (t : TypeId) (cs : Array Value) : Asrt where
  holds w F := w.heap[g]? = some (.cells cs t (0, 0)) ∧ ∀ k, F k ↔ k = g
  loc := fun ⟨h, hF⟩ hm => ⟨(hm g ((hF g).2 rfl)).trans h, hF⟩
  lt := fun ⟨h, hF⟩ hk => by rw [(hF _).1 hk]; exact blk_lt h
def row (e : TypeId) (size : Nat) (v : Value) (n : Nat) (xs : List Value) : Asrt where
  holds w F := w.ownsRow 0 e size v n xs ∧ ∀ k, F k ↔ v.ownBlock = some k
  loc := fun ⟨h, hF⟩ hm => ⟨own_move h (fun k hk => hm k ((hF k).2 hk)), hF⟩
  lt := fun ⟨h, hF⟩ hk => own_lt h _ ((hF _).1 hk)
def ex {α : Type} (f : α → Asrt) : Asrt where
  holds w F := ∃ x, (f x).holds w F
  loc := fun ⟨x, h⟩ hm => ⟨x, (f x).loc h hm⟩
  lt := fun ⟨x, h⟩ hk => (f x).lt h hk
def le (a b : Asrt) : Prop := ∀ {w : World} {F : Nat → Prop}, a.holds w F → b.holds w F
theorem le_refl (a : Asrt) : a.le a := fun h => h
theorem le_trans {a b c : Asrt} (h : a.le b) (k : b.le c) : a.le c := fun x => k (h x)
theorem comm (a b : Asrt) : (a * b).le (b * a) := fun ⟨G, H, ha, hb, hd, hF⟩ => ⟨H, G, hb, ha, fun k h g => hd k g h, fun k => (hF k).trans Or.comm⟩
theorem assoc (a b c : Asrt) : ((a * b) * c).le (a * (b * c)) := by
  rintro w F ⟨G, H, ⟨G1, G2, ha, hb, hd1, hG⟩, hc, hd, hF⟩
  refine ⟨G1, fun k => G2 k ∨ H k, ha, ⟨G2, H, hb, hc, fun k h => hd k ((hG k).2 (.inr h)), fun k => Iff.rfl⟩, fun k h1 h2 => ?_, fun k => ?_⟩
  · rcases h2 with h2 | h2
    · exact hd1 k h1 h2
    · exact hd k ((hG k).2 (.inl h1)) h2
  · rw [hF k, hG k, or_assoc]
theorem mono_r {a b c : Asrt} (h : b.le c) : (a * b).le (a * c) := fun ⟨G, H, ha, hb, r⟩ => ⟨G, H, ha, h hb, r⟩
theorem mono_l {a b c : Asrt} (h : a.le b) : (a * c).le (b * c) := fun ⟨G, H, ha, hb, r⟩ => ⟨G, H, h ha, hb, r⟩
theorem assoc' (a b c : Asrt) : (a * (b * c)).le ((a * b) * c) := le_trans (comm _ _) (le_trans (mono_l (comm _ _)) (le_trans (assoc _ _ _) (le_trans (comm _ _) (mono_l (comm _ _)))))
theorem swap (a b c : Asrt) : (a * (b * c)).le (b * (a * c)) := le_trans (assoc' a b c) (le_trans (mono_l (comm a b)) (assoc b a c))
theorem emp_l (a : Asrt) : (emp * a).le a := by
  rintro w F ⟨G, H, hg, ha, _, hF⟩
  have e : F = H := funext fun k => propext ((hF k).trans ⟨fun h => h.resolve_left (hg k), .inr⟩)
  rw [e]
  exact ha
theorem emp_l' (a : Asrt) : a.le (emp * a) := fun ha => ⟨fun _ => False, _, fun _ h => h, ha, fun _ h => h.elim, fun k => ⟨.inr, fun h => h.elim False.elim id⟩⟩
end Asrt
open Asrt
structure St (w0 w : World) (A : Asrt) : Prop where
  below : Below w0.heap.size w0 w
  own : ∃ F : Nat → Prop, A.holds w F ∧ ∀ k, F k → w0.heap.size ≤ k
structure Moves (w w' : World) (F F' : Nat → Prop) : Prop where
  os : w'.os = w.os
  tape : w'.tape = w.tape
  output : w'.output = w.output
  size : w.heap.size ≤ w'.heap.size
  keep : ∀ k, k < w.heap.size → ¬ F k → w'.heap[k]? = w.heap[k]?
  new : ∀ k, F' k → F k ∨ w.heap.size ≤ k
section
variable {w0 w w' : World} {a b c d e r A B : Asrt}
theorem St.refl (w : World) : St w w emp := ⟨Below.refl _ _, fun _ => False, fun _ h => h, fun _ h => h.elim⟩
theorem St.imp (h : St w0 w A) (k : A.le B) : St w0 w B := ⟨h.below, let ⟨F, hF, hb⟩ := h.own; ⟨F, k hF, hb⟩⟩
theorem St.size (h : St w0 w A) : w0.heap.size ≤ w.heap.size := h.below.size
theorem St.move (h : St w0 w (a * r)) (hm : ∀ F, a.holds w F → (∀ k, F k → w0.heap.size ≤ k) → ∃ F', b.holds w' F' ∧ Moves w w' F F') : St w0 w' (b * r) := by
  obtain ⟨hb, F, ⟨G, H, ha, hr, hd, hF⟩, hw⟩ := h
  obtain ⟨G', hb', m⟩ := hm G ha (fun k hk => hw k ((hF k).2 (.inl hk)))
  have hHlt : ∀ k, H k → k < w.heap.size := fun k hk => r.lt hr hk
  refine ⟨⟨m.os.trans hb.os, m.tape.trans hb.tape, m.output.trans hb.output, Nat.le_trans hb.size m.size, fun k hk => ?_⟩, fun k => G' k ∨ H k, ⟨G', H, hb', r.loc hr (fun k hk => m.keep k (hHlt k hk) (fun hg => hd k hg hk)), fun k hg hk => ?_, fun k => Iff.rfl⟩, fun k hk => ?_⟩
  · exact (m.keep k (Nat.lt_of_lt_of_le hk hb.size) (fun hg => by have := hw k ((hF k).2 (.inl hg)); omega)).trans (hb.block k hk)
  · rcases m.new k hg with h1 | h1
    · exact hd k h1 hk
    · have := hHlt k hk; omega
  · rcases hk with hk | hk
    · rcases m.new k hk with h1 | h1
      · exact hw k ((hF k).2 (.inl h1))
      · exact Nat.le_trans hb.size h1
    · exact hw k ((hF k).2 (.inr hk))
theorem St.belowR (h : St w0 w A) (k : Below w.heap.size w w') : St w0 w' A := by
  obtain ⟨hb, F, hA, hw⟩ := h
  exact ⟨below_then hb hb.size k, F, A.loc hA (fun i hi => k.block i (A.lt hA hi)), hw⟩
theorem St.drew (h : St w0 w A) : St w0 w.drew A := h.belowR (below_drew (Below.refl _ _))
theorem St.drewN (h : St w0 w A) (n : Nat) : St w0 (w.drewN n) A := h.belowR (pw_below_drewN (Below.refl _ _) n)
theorem St.alloc (h : St w0 w A) (cs : Array Value) (t : TypeId) : St w0 (w.alloc (.cells cs t)) (blk w.heap.size t cs * A) := by
  refine St.move (a := emp) (h.imp (emp_l' A)) fun F hF _ => ⟨fun k => k = w.heap.size, ⟨heap_alloc_new w _, fun _ => Iff.rfl⟩, rfl, rfl, rfl, ?_, fun k hk _ => Below.heap_alloc w _ k hk, fun k hk => .inr (by omega)⟩
  simp
theorem St.blk {g : Nat} {t : TypeId} {cs : Array Value} (h : St w0 w (blk g t cs * r)) : w.heap[g]? = some (.cells cs t (0, 0)) := by
  obtain ⟨hb, F, ⟨G, H, ha, hr, hd, hF⟩, hw⟩ := h
  exact ha.1
theorem St.blk_lt {g : Nat} {t : TypeId} {cs : Array Value} (h : St w0 w (Asrt.blk g t cs * r)) : g < w.heap.size := Go.Proofs.YthkocpcjcpohcaaW.PrintWords.blk_lt h.blk
theorem St.set {g : Nat} {t : TypeId} {cs : Array Value} (h : St w0 w (Asrt.blk g t cs * r)) (i : Nat) (u : Value) : St w0 (w.setCell ⟨g, i, none⟩ u) (Asrt.blk g t (cs.setIfInBounds i u) * r) :=
  h.move fun F hF _ => ⟨F, ⟨blk_set hF.1 i u, hF.2⟩, rfl, rfl, rfl, by simp [World.setCell], fun k _ hk => Below.heap_setCell w _ u k (fun e => hk ((hF.2 k).2 e)), fun _ hk => .inl hk⟩
theorem St.row {e : TypeId} {size : Nat} {v : Value} {n : Nat} {xs : List Value} (h : St w0 w (Asrt.row e size v n xs * r)) : w.ownsRow w0.heap.size e size v n xs := by
  obtain ⟨hb, F, ⟨G, H, ha, hr, hd, hF⟩, hw⟩ := h
  obtain ⟨h1, h2⟩ := ha.1
  refine ⟨h1, ?_⟩
  rcases h2 with h2 | ⟨g, cap, cur, rfl, hg, hh, r⟩
  · exact .inl h2
  · exact .inr ⟨g, cap, cur, rfl, hw g ((hF g).2 (.inl ((ha.2 g).2 (by simp [Value.ownBlock])))), hh, r⟩
theorem own_zero {e : TypeId} {size base : Nat} {v : Value} {n : Nat} {xs : List Value} (h : w.ownsRow base e size v n xs) : w.ownsRow 0 e size v n xs := own_less h (Nat.zero_le _)
theorem St.grown {e : TypeId} {size base : Nat} {v v' : Value} {n n' : Nat} {xs xs' : List Value} (h : St w0 w (Asrt.row e size v n xs * r)) (hg : w.grownBy w' v.ownBlock) (ho : w'.ownsRow base e size v' n' xs') (hat : v'.ownBlock = v.ownBlock ∨ ∃ b, v'.ownBlock = some b ∧ w.heap.size ≤ b) : St w0 w' (Asrt.row e size v' n' xs' * r) :=
  h.move fun F hF _ => ⟨fun k => v'.ownBlock = some k, ⟨own_zero ho, fun _ => Iff.rfl⟩, hg.os, hg.tape, hg.output, hg.size, fun k hk hn => hg.block k hk (fun e => hn ((hF.2 k).2 e.symm)), fun k hk => by
    rcases hat with hat | ⟨b, hat, hle⟩
    · exact .inl ((hF.2 k).2 (hat ▸ hk))
    · rw [hat] at hk; injection hk with hk; exact .inr (by omega)⟩
theorem St.rowNil (h : St w0 w A) (e : TypeId) (size : Nat) : St w0 w (Asrt.row e size (.slice none 0 0) 0 [] * A) :=
  h.imp (le_trans (emp_l' A) (mono_l (a := emp) (b := Asrt.row e size (.slice none 0 0) 0 []) (fun {w F} hF => ⟨own_nil w 0 e size, fun k => ⟨fun hk => absurd hk (hF k), fun hk => by simp [Value.ownBlock] at hk⟩⟩)))
theorem St.ex {α : Type} {f : α → Asrt} (h : St w0 w (Asrt.ex f * r)) : ∃ x, St w0 w (f x * r) := by
  obtain ⟨hb, F, ⟨G, H, ⟨x, ha⟩, rr⟩, hw⟩ := h
  exact ⟨x, hb, F, ⟨G, H, ha, rr⟩, hw⟩
theorem St.swap (h : St w0 w (a * (b * r))) : St w0 w (b * (a * r)) := h.imp (Asrt.swap a b r)
theorem St.swap2 (h : St w0 w (a * (b * (c * r)))) : St w0 w (a * (c * (b * r))) := h.imp (mono_r (Asrt.swap b c r))
theorem St.rot3 (h : St w0 w (a * (b * (c * r)))) : St w0 w (c * (a * (b * r))) := h.swap2.swap
theorem St.rot4 (h : St w0 w (a * (b * (c * (d * r))))) : St w0 w (d * (a * (b * (c * r)))) := (h.imp (mono_r (le_trans (mono_r (Asrt.swap c d r)) (Asrt.swap b d (c * r))))).swap
theorem St.swap3 (h : St w0 w (a * (b * (c * (d * r))))) : St w0 w (a * (b * (d * (c * r)))) := h.imp (mono_r (mono_r (Asrt.swap c d r)))
theorem St.unrot3 (h : St w0 w (c * (a * (b * r)))) : St w0 w (a * (b * (c * r))) := h.swap.swap2
theorem St.assoc (h : St w0 w ((a * b) * r)) : St w0 w (a * (b * r)) := h.imp (Asrt.assoc a b r)
theorem St.assoc' (h : St w0 w (a * (b * r))) : St w0 w ((a * b) * r) := h.imp (Asrt.assoc' a b r)
theorem St.drop (h : St w0 w (a * r)) : St w0 w r := by
  obtain ⟨hb, F, ⟨G, H, ha, hr, hd, hF⟩, hw⟩ := h
  exact ⟨hb, H, hr, fun k hk => hw k ((hF k).2 (.inr hk))⟩
theorem St.cell {g : Nat} {t : TypeId} {cs : Array Value} (h : St w0 w (Asrt.blk g t cs * r)) (i : Nat) : w.cell? ⟨g, i, none⟩ = cs[i]? := blk_cell h.blk i
theorem St.frozen {g : Nat} {t : TypeId} {cs : Array Value} (h : St w0 w (Asrt.blk g t cs * r)) (i : Nat) : w.frozen? ⟨g, i, none⟩ = false := blk_frozen h.blk i
end
section
variable {P : Program} {ops : Array Oper} {rest : List Oper} {o : Oper} {a : Act} {Q : Exit → Act → World → Prop} {w0 W : World} {R : Asrt}
theorem St.append_row (hgd : o.guard = none) (s x : Operand) (t e : TypeId) (k : IntKind) (bytes : Nat)
    (ho : o.op = .call { callee := .builtin .append, args := #[s, x], argTypes := #[t, t] })
    (ht : P.underlying t = some (.slice e)) (hinfo : (P.info? e).map (fun i => (i.zero, i.size, i.bytes)) = some (some (.int k 0), 1, bytes)) (hb0 : 0 < bytes)
    (v : Value) (n : Nat) (xs ys : List Int) (A : Option Addr) (m c : Nat) (hs : a.eval s = v) (hx : a.eval x = .slice A m c)
    (HS : St w0 W (Asrt.row e 1 v n (nums k xs) * R)) (HR : ReadsInt W k A m ys) (hl : (n + m) * bytes ≤ 140737488355328)
    (h : ∀ A1 c1 w1, St w0 w1 (Asrt.row e 1 (.slice A1 (n + m) c1) (n + m) (nums k (xs ++ ys)) * R) → wpList P ops Q rest (a.put o.dst (.slice A1 (n + m) c1)) w1) :
    wpList P ops Q (o :: rest) a W := by
  obtain rfl : xs.length = n := by have := HS.row.1; simpa [nums] using this
  exact print_append_row (w0 := w0) 0 hgd s x t e k bytes ho ht hinfo hb0 v xs ys A m c hs hx (own_zero HS.row) HR (HS.below.mono (Nat.zero_le _)) (Nat.zero_le _) hl
    fun v1 w1 hown _ hg hat => by
      obtain ⟨A1, c1, rfl⟩ := own_slice hown
      have := h A1 c1 w1
      rw [show xs.length + m = (xs ++ ys).length by rw [List.length_append, HR.1]] at this
      exact this (HS.grown hg hown hat)
end
section
variable {w0 w w' : World} {r A : Asrt}
theorem St.newRow {e : TypeId} {size base : Nat} {v : Value} {n : Nat} {xs : List Value} (h : St w0 w A) (hb : Below w.heap.size w w') (ho : w'.ownsRow base e size v n xs) (hbase : w.heap.size ≤ base) : St w0 w' (Asrt.row e size v n xs * A) := by
  refine St.move (a := Asrt.emp) (h.imp (Asrt.emp_l' A)) fun F hF _ => ⟨fun k => v.ownBlock = some k, ⟨own_zero ho, fun _ => Iff.rfl⟩, hb.os, hb.tape, hb.output, hb.size, fun k hk _ => hb.block k hk, fun k hk => .inr (Nat.le_trans hbase (own_base ho k hk))⟩
theorem St.frame {B : Asrt} (h : St w0 w A) (k : St w w' B) : St w0 w' (B * A) := by
  obtain ⟨hb, F, hF, hw⟩ := h
  obtain ⟨kb, G, hG, kw⟩ := k
  refine ⟨below_then hb hb.size kb, fun j => G j ∨ F j, ⟨G, F, hG, A.loc hF (fun i hi => kb.block i (A.lt hF hi)), fun j h1 h2 => ?_, fun _ => Iff.rfl⟩, fun j hj => ?_⟩
  · have := kw j h1
    have := A.lt hF h2
    omega
  · rcases hj with hj | hj
    · exact Nat.le_trans hb.size (kw j hj)
    · exact hw j hj
theorem St.allocRow (h : St w0 w A) (e : TypeId) (k : IntKind) (xs : List Int) (hm : xs.length ≤ 9223372036854775807) : St w0 (w.alloc (.cells (nums k xs).toArray e)) (Asrt.row e 1 (.slice (some ⟨w.heap.size, 0, none⟩) xs.length xs.length) xs.length (nums k xs) * A) :=
  h.newRow (below_alloc (Below.refl _ _) _) (own_lit w w.heap.size e k xs (Nat.le_refl _) hm) (Nat.le_refl _)
theorem St.rowForm {e : TypeId} {size n c : Nat} {B : Option Addr} {xs : List Value} (h : St w0 w (Asrt.row e size (.slice B n c) n xs * r)) (hn : 0 < n) : ∃ g, B = some ⟨g, 0, none⟩ := by
  obtain ⟨g, cap, hv, _, _⟩ := h.row.form hn
  injection hv with hv
  exact ⟨g, hv⟩
theorem St.rowAt {e : TypeId} {k : IntKind} {n c g : Nat} {xs : List Int} (h : St w0 w (Asrt.row e 1 (.slice (some ⟨g, 0, none⟩) n c) n (nums k xs) * r)) (i : Int) (h0 : 0 ≤ i) (h1 : i < n) : w.cell? ⟨g, i.toNat, none⟩ = some (.int k (rd xs i)) ∧ w.frozen? ⟨g, i.toNat, none⟩ = false := own_at h.row i h0 h1
theorem rowReads {e : TypeId} {k : IntKind} {n c : Nat} {B : Option Addr} {xs : List Int} (h : St w0 w (Asrt.row e 1 (.slice B n c) n (nums k xs) * r)) : ReadsInt w k B n xs := own_reads' h.row
end
theorem C_reads {k : IntKind} {w : World} {A : Option Addr} {n : Nat} {l : List Int} (h : Kd.C (Kd.int k) w A n l) : ReadsInt w k A n l := by
  refine ⟨h.1, h.2.1, fun hn => ?_⟩
  obtain ⟨ad, e, hc⟩ := h.2.2 hn
  refine ⟨ad, e, fun i hi => ?_⟩
  have hi' : i < l.length := by rw [h.1]; exact hi
  obtain ⟨c, hl, hk, hcell⟩ := hc i _ (List.getElem?_eq_getElem hi')
  have hk' : c = [Value.int k l[i]] := hk
  have := hcell 0 (Value.int k l[i]) (by rw [hk']; rfl)
  have e2 : (Kd.int k).sz = 1 := rfl
  rw [e2, Nat.mul_one, Nat.add_zero] at this
  rw [this]
  simp [hi']
theorem C_int_at {k : IntKind} {w : World} {A : Option Addr} {l : List Int} (h : Kd.C (Kd.int k) w A l.length l) (h0 : 0 < l.length) : ∃ ad, A = some ad ∧ ∀ i : Nat, i < l.length → w.cell? (ad.add i) = some (.int k (rd l i)) := by
  obtain ⟨ad, e, hc⟩ := (C_reads h).2.2 h0
  exact ⟨ad, e, fun i hi => hc i hi⟩
theorem rd_mem {l : List Int} {i : Int} (h0 : 0 ≤ i) (h1 : i < l.length) : rd l i ∈ l := by
  have : i.toNat < l.length := by omega
  simp [rd, this]
theorem take_snoc {l : List Int} {k : Nat} (h : k < l.length) : l.take (k + 1) = l.take k ++ [rd l k] := by
  rw [List.take_succ_eq_append_getElem h]
  simp [rd, h]
structure Since (W : World) where
  w : World
  below : Below W.heap.size W w
instance (W : World) : Nonempty (Since W) := ⟨⟨W, Below.refl _ _⟩⟩
instance (W : World) : Inhabited (Since W) := ⟨⟨W, Below.refl _ _⟩⟩
theorem Since.drew (W : World) : ∃ z : Since W, W.drew = z.w := ⟨⟨W.drew, below_drew1 (Below.refl _ _)⟩, rfl⟩
theorem Since.cell {W : World} {p : Addr} {v : Value} (h : W.cell? p = some v) (z : Since W) : z.w.cell? p = some v := (cellL z.below h)
theorem Since.old {W0 W : World} (z : Since W) (h : Below W0.heap.size W0 W) : Below W0.heap.size W0 z.w := h.trans (z.below.mono h.size)
end Go.Proofs.Ythkocpcjcpohcaa.P
end
section
namespace Go.Proofs.Ythkocpcjcpohcaa.P
open Go Go.RowKit Go.Proofs.YthkocpcjcpohcaaW.PrintWords Go.Proofs.YthkocpcjcpohcaaW.PrintLast Go.Proofs.YthkocpcjcpohcaaW.PrintMore
open Asrt
theorem grown_own (w : World) (e : TypeId) (z : Value) (size : Nat) (hzs : z.cells.size = size) (xs news : List Value) (n m old : Nat) (hx : xs.length = n * size) (hl : news.length = m * size) (ho : old < n + m) (h63 : n + m ≤ maxLen) :
    (w.drew.alloc (.cells (xs.toArray ++ news.toArray ++ Builtin.zeroCells z.cells (grownCap w (n + m) old e - (n + m))) e)).ownsRow w.heap.size e size
        (.slice (some ⟨w.heap.size, 0, none⟩) (n + m) (grownCap w (n + m) old e)) (n + m) (xs ++ news) := by
  have hlen : (xs ++ news).length = (n + m) * size := by rw [List.length_append, hx, hl, Nat.add_mul]
  have hge := grownCap_ge w (n + m) old e
  have hcm : grownCap w (n + m) old e ≤ maxLen := grownCap_le_maxLen w (n + m) old e h63
  refine ⟨hlen, .inr ⟨w.heap.size, _, _, rfl, Nat.le_refl _, heap_alloc_new w.drew _, hge, hcm, ?_, ?_⟩⟩
  · simp only [Array.size_append, List.size_toArray, size_zeroCells, hzs, hx, hl, ← Nat.add_mul]
    congr 1
    omega
  · simp only [Array.toList_append, List.append_assoc]
    rw [← List.append_assoc, ← hlen]
    exact List.take_left
def Asrt.mrow (e : TypeId) (xs : List Int) (g : Nat) : Asrt where
  holds w F := w.heap[g]? = some (.cells (nums .u8 xs).toArray e (xs.length, xs.length + 1)) ∧ ∀ k, F k ↔ k = g
  loc := fun ⟨h, hF⟩ hm => ⟨(hm g ((hF g).2 rfl)).trans h, hF⟩
  lt := fun ⟨h, hF⟩ hk => by rw [(hF _).1 hk]; exact blk_lt h
theorem St.allocMark {w0 W : World} {A : Asrt} (h : St w0 W A) (xs : List Int) (e : TypeId) : St w0 (W.alloc (.cells (nums .u8 xs).toArray e (xs.length, xs.length + 1))) (Asrt.mrow e xs W.heap.size * A) := by
  refine St.move (a := emp) (h.imp (emp_l' A)) fun F hF _ => ⟨fun k => k = W.heap.size, ⟨?_, fun _ => Iff.rfl⟩, rfl, rfl, rfl, ?_, fun k hk _ => Below.heap_alloc W _ k hk, fun k hk => .inr (by omega)⟩
  · show (W.heap.push _)[W.heap.size]? = _
    simp
  · simp
theorem St.mrow {w0 W : World} {e : TypeId} {xs : List Int} {g : Nat} {R : Asrt} (h : St w0 W (Asrt.mrow e xs g * R)) : W.heap[g]? = some (.cells (nums .u8 xs).toArray e (xs.length, xs.length + 1)) := by
  obtain ⟨hb, F, ⟨G, H, ha, hr, hd, hF⟩, hw⟩ := h
  exact ha.1
section
variable {P : Program} {ops : Array Oper} {rest : List Oper} {o : Oper} {a : Act} {Q : Exit → Act → World → Prop} {w0 W : World} {R : Asrt}
theorem St.append_marked (hgd : o.guard = none) (s x : Operand) (t e : TypeId)
    (ho : o.op = .call { callee := .builtin .append, args := #[s, x], argTypes := #[t, t] })
    (ht : P.underlying t = some (.slice e)) (hinfo : (P.info? e).map (fun i => (i.zero, i.size, i.bytes)) = some (some (.int .u8 0), 1, 1))
    (xs ys : List Int) (g : Nat) (A : Option Addr) (m c : Nat) (hs : a.eval s = .slice (some ⟨g, 0, none⟩) xs.length xs.length) (hx : a.eval x = .slice A m c)
    (HS : St w0 W (Asrt.mrow e xs g * R)) (HR : ReadsInt W .u8 A m ys) (hm : 0 < m) (hl : xs.length + m ≤ 140737488355328)
    (h : ∀ A1 c1 w1, St w0 w1 (Asrt.row e 1 (.slice A1 (xs.length + m) c1) (xs.length + m) (nums .u8 (xs ++ ys)) * R) → wpList P ops Q rest (a.put o.dst (.slice A1 (xs.length + m) c1)) w1) :
    wpList P ops Q (o :: rest) a W := by
  obtain ⟨i0, hi, hzz⟩ := Option.map_eq_some_iff.1 hinfo
  simp only [Prod.mk.injEq] at hzz
  obtain ⟨hz0, hz1, hz2⟩ := hzz
  obtain ⟨ad, rfl, hc⟩ := HR.2.2 hm
  have holds : ∀ j v, (nums .u8 xs)[j]? = some v → W.cell? ((⟨g, 0, none⟩ : Addr).add j) = some v := by
    intro j v hv
    have hadd : (⟨g, 0, none⟩ : Addr).add j = ⟨g, j, none⟩ := by unfold Addr.add; split <;> simp_all
    rw [hadd, cell_of_row _ _ _ _ _ _ HS.mrow]
    simpa using hv
  have hyl : ys.length = m := HR.1
  have hnl : (nums .u8 ys).length = m * i0.size := by rw [hz1, Nat.mul_one]; simp [nums, hyl]
  have hxl : (nums .u8 xs).length = xs.length * i0.size := by rw [hz1, Nat.mul_one]; simp [nums]
  have hnews : ∀ j v, (nums .u8 ys)[j]? = some v → W.cell? (ad.add j) = some v := by
    intro j v hv
    have hj : j < ys.length := by
      have := (List.getElem?_eq_some_iff.1 hv).1
      simpa [nums] using this
    have h1 := hc j (by omega)
    simp only [nums, List.getElem?_map, List.getElem?_eq_getElem hj, Option.map_some] at hv
    rw [h1]
    rw [← hv]
    simp [hj]
  have h63 : xs.length + m ≤ maxLen := by simp only [maxLen]; omega
  have hr := run_append_grow (P := P) W t o.type e i0 (.int .u8 0) ht hi hz0 ⟨g, 0, none⟩ xs.length xs.length (nums .u8 xs) hxl holds ad m c (nums .u8 ys) hnl hnews (by omega) (by omega) (growslice_fits (by omega) (by rw [hz2]; omega))
  have hown := grown_own W e (.int .u8 0) i0.size (by rw [hz1]; rfl) (nums .u8 xs) (nums .u8 ys) xs.length m xs.length hxl hnl (by omega) h63
  rw [hz1, ← nums_append] at hown
  refine wpList_plain hgd fun K hK => ?_
  unfold Oper.wp execOp
  simp only [ho, resolve, invoke, builtin, Sem.run_bind, Sem.run_pure, Result.andThen_ok, List.map_toArray, List.map_cons, List.map_nil, hs, hx, hr]
  refine hK _ _ (h _ _ _ ?_)
  exact St.newRow HS.drop (below_alloc (below_drew1 (Below.refl _ _)) _) hown (Nat.le_refl _)
theorem St.append_str (hgd : o.guard = none) (s x : Operand) (t u e : TypeId)
    (ho : o.op = .call { callee := .builtin .append, args := #[s, x], argTypes := #[t, u] })
    (ht : P.underlying t = some (.slice e)) (hu : P.underlying u = some .string) (hinfo : (P.info? e).map (fun i => (i.zero, i.size, i.bytes)) = some (some (.int .u8 0), 1, 1))
    (v : Value) (n : Nat) (xs : List Int) (y : ByteArray) (hs : a.eval s = v) (hx : a.eval x = .string y)
    (HS : St w0 W (Asrt.row e 1 v n (nums .u8 xs) * R)) (hl : n + y.size ≤ 140737488355328)
    (h : ∀ A1 c1 w1, St w0 w1 (Asrt.row e 1 (.slice A1 (n + y.size) c1) (n + y.size) (nums .u8 (xs ++ bytesOf y)) * R) → wpList P ops Q rest (a.put o.dst (.slice A1 (n + y.size) c1)) w1) :
    wpList P ops Q (o :: rest) a W := by
  have hxn : xs.length = n := by have := HS.row.1; simpa [nums] using this
  subst hxn
  refine print_append_str_at (w0 := w0) w0.heap.size hgd s x t u e ho ht hu hinfo v xs y (fun _ => True) hs hx (Kd.R_of_own (h1 := fun _ => rfl) HS.row (fun _ _ => trivial)) (fun _ _ => trivial) HS.below HS.size hl
    fun v1 w1 hR _ hg hat => by
      have hown := Kd.own_of_R hR
      have hl2 : (xs ++ bytesOf y).length = xs.length + y.size := by rw [List.length_append, bytesOf_length]
      rw [hl2] at hown
      obtain ⟨A1, c1, rfl⟩ := own_slice hown
      exact h A1 c1 w1 (HS.grown hg hown hat)
theorem St.toR {w w1 : World} {R : Asrt} {e : TypeId} {k : IntKind} {v : Value} {n : Nat} {xs : List Int} (h : St w w1 (Asrt.row e 1 v n (nums k xs) * R)) : Kd.R (Kd.int k) e w1 w.heap.size (fun _ => True) v xs := by
  have hr := h.row
  have hn : xs.length = n := by have := hr.1; simpa [nums] using this
  subst hn
  exact Kd.R_of_own (h1 := fun _ => rfl) hr (fun _ _ => trivial)
end
end Go.Proofs.Ythkocpcjcpohcaa.P
end
section
namespace Go.Proofs.Ythkocpcjcpohcaa.P
open Go.RowKit Go.Proofs.YthkocpcjcpohcaaW.PrintWords Go.Proofs.YthkocpcjcpohcaaW.PrintLast Go.Proofs.YthkocpcjcpohcaaW.PrintMore
attribute [local go_sem] max2_int min2_int max_two min_two max_three min_three max_four min_four   -- for this text's walks alone
def errW : Option Int → Value
  | none => .nilIface
  | some c => .iface 0 (.int .i64 c)
theorem errW_none : errW none = .nilIface := rfl
theorem errW_some (c : Int) : errW (some c) = .iface 0 (.int .i64 c) := rfl
theorem info5 : (Try.prog.info? 5).map (fun i => (i.zero, i.size, i.bytes)) = some (some (.int .u8 0), 1, 1) := by kernel_rfl
theorem info42 : (Try.prog.info? 42).map (fun i => (i.zero, i.size, i.bytes)) = some (some (.agg #[(.string ⟨#[]⟩), (.slice none 0 0)]), 2, 40) := by kernel_rfl
structure S42 where
  f0 : ByteArray
  f1 : (List Int)
def z42 : S42 := ⟨(⟨#[]⟩ : ByteArray), ([] : List Int)⟩
def k42 : Kd S42 := Kd.iso (Kd.pair Kd.string (Kd.slice 5 (Kd.int .u8))) (fun x : S42 => (x.f0, x.f1))
theorem k42_open {w : World} {x : S42} {cs : List Value} (h : k42.K w x cs) : ∃ A1 c1, cs = [.string x.f0, .slice A1 x.f1.length c1] ∧ x.f1.length ≤ c1 ∧ (Kd.int .u8).C w A1 x.f1.length x.f1 := by
  obtain ⟨_, _, rfl, rfl, ⟨A1, c1, rfl, l1, g1⟩⟩ := h
  exact ⟨A1, c1, rfl, l1, g1⟩
theorem k42_mk (w : World) (x : S42) {A1 : Option Addr} {c1 : Nat} (l1 : x.f1.length ≤ c1) (g1 : (Kd.int .u8).C w A1 x.f1.length x.f1) : k42.K w x [.string x.f0, .slice A1 x.f1.length c1] := ⟨[.string x.f0], [.slice A1 x.f1.length c1], rfl, rfl, ⟨A1, c1, rfl, l1, g1⟩⟩
theorem k42_mkM (w : World) (base : Nat) (ok : Nat → Prop) (x : S42) {v1 : Value} (g1 : (Kd.int .u8).R 5 w base ok v1 x.f1) : k42.M w base ok x [.string x.f0, v1] := ⟨[.string x.f0], [v1], rfl, rfl, ⟨v1, rfl, g1⟩⟩
def rd_T42 (xs : List S42) (i : Int) : S42 := xs.getD i.toNat z42
theorem at_T42 {w : World} {A : Option Addr} {n : Nat} {xs : List S42} (h : Kd.C k42 w A n xs) (i : Int) (h0 : 0 ≤ i) (h1 : i < n) : ∃ ad A1 c1, A = some ad ∧ w.cell? (ad.add (i.toNat * 2)) = some (.string (rd_T42 xs i).f0) ∧ w.cell? ⟨(ad.add (i.toNat * 2)).block, (ad.add (i.toNat * 2)).off + 1, none⟩ = some (.slice A1 (rd_T42 xs i).f1.length c1) ∧ (rd_T42 xs i).f1.length ≤ c1 ∧ (Kd.int .u8).C w A1 (rd_T42 xs i).f1.length (rd_T42 xs i).f1 := by
  obtain ⟨ad, c, e, _, hK, hc0⟩ := Kd.C_get h z42 i h0 h1
  have hc : ∀ j u, c[j]? = some u → w.cell? (ad.add (i.toNat * 2 + j)) = some u := hc0
  obtain ⟨A1, c1, rfl, l1, g1⟩ := k42_open hK
  exact ⟨ad, A1, c1, e, hc 0 _ rfl, by rw [← add_field _ _ 1 (by omega)]; exact hc 1 _ rfl, l1, g1⟩
structure S44 where
  f0 : Int
  f1 : Int
  f2 : Int
  f3 : Int
  f4 : Int
  f5 : Bool
  f6 : Bool
  f7 : Int
  f8 : (List Int)
  f9 : (List Int)
  f10 : (List S42)
def z44 : S44 := ⟨(0 : Int), (0 : Int), (0 : Int), (0 : Int), (0 : Int), false, false, (0 : Int), ([] : List Int), ([] : List Int), ([] : List S42)⟩
def k44 : Kd S44 := Kd.iso (Kd.pair (Kd.int .i64) (Kd.pair (Kd.int .i64) (Kd.pair (Kd.int .i64) (Kd.pair (Kd.int .i64) (Kd.pair (Kd.int .i64) (Kd.pair Kd.bool (Kd.pair Kd.bool (Kd.pair (Kd.int .i64) (Kd.pair (Kd.slice 5 (Kd.int .u8)) (Kd.pair (Kd.slice 5 (Kd.int .u8)) (Kd.slice 42 k42))))))))))) (fun x : S44 => (x.f0, x.f1, x.f2, x.f3, x.f4, x.f5, x.f6, x.f7, x.f8, x.f9, x.f10))
theorem k44_open {w : World} {x : S44} {cs : List Value} (h : k44.K w x cs) : ∃ A8 c8 A9 c9 A10 c10, cs = [.int .i64 x.f0, .int .i64 x.f1, .int .i64 x.f2, .int .i64 x.f3, .int .i64 x.f4, .bool x.f5, .bool x.f6, .int .i64 x.f7, .slice A8 x.f8.length c8, .slice A9 x.f9.length c9, .slice A10 x.f10.length c10] ∧ x.f8.length ≤ c8 ∧ (Kd.int .u8).C w A8 x.f8.length x.f8 ∧ x.f9.length ≤ c9 ∧ (Kd.int .u8).C w A9 x.f9.length x.f9 ∧ x.f10.length ≤ c10 ∧ k42.C w A10 x.f10.length x.f10 := by
  obtain ⟨_, _, rfl, rfl, ⟨_, _, rfl, rfl, ⟨_, _, rfl, rfl, ⟨_, _, rfl, rfl, ⟨_, _, rfl, rfl, ⟨_, _, rfl, rfl, ⟨_, _, rfl, rfl, ⟨_, _, rfl, rfl, ⟨_, _, rfl, ⟨A8, c8, rfl, l8, g8⟩, ⟨_, _, rfl, ⟨A9, c9, rfl, l9, g9⟩, ⟨A10, c10, rfl, l10, g10⟩⟩⟩⟩⟩⟩⟩⟩⟩⟩⟩ := h
  exact ⟨A8, c8, A9, c9, A10, c10, rfl, l8, g8, l9, g9, l10, g10⟩
theorem k44_mk (w : World) (x : S44) {A8 : Option Addr} {c8 : Nat} (l8 : x.f8.length ≤ c8) (g8 : (Kd.int .u8).C w A8 x.f8.length x.f8) {A9 : Option Addr} {c9 : Nat} (l9 : x.f9.length ≤ c9) (g9 : (Kd.int .u8).C w A9 x.f9.length x.f9) {A10 : Option Addr} {c10 : Nat} (l10 : x.f10.length ≤ c10) (g10 : k42.C w A10 x.f10.length x.f10) : k44.K w x [.int .i64 x.f0, .int .i64 x.f1, .int .i64 x.f2, .int .i64 x.f3, .int .i64 x.f4, .bool x.f5, .bool x.f6, .int .i64 x.f7, .slice A8 x.f8.length c8, .slice A9 x.f9.length c9, .slice A10 x.f10.length c10] := ⟨[.int .i64 x.f0], [.int .i64 x.f1, .int .i64 x.f2, .int .i64 x.f3, .int .i64 x.f4, .bool x.f5, .bool x.f6, .int .i64 x.f7, .slice A8 x.f8.length c8, .slice A9 x.f9.length c9, .slice A10 x.f10.length c10], rfl, rfl, ⟨[.int .i64 x.f1], [.int .i64 x.f2, .int .i64 x.f3, .int .i64 x.f4, .bool x.f5, .bool x.f6, .int .i64 x.f7, .slice A8 x.f8.length c8, .slice A9 x.f9.length c9, .slice A10 x.f10.length c10], rfl, rfl, ⟨[.int .i64 x.f2], [.int .i64 x.f3, .int .i64 x.f4, .bool x.f5, .bool x.f6, .int .i64 x.f7, .slice A8 x.f8.length c8, .slice A9 x.f9.length c9, .slice A10 x.f10.length c10], rfl, rfl, ⟨[.int .i64 x.f3], [.int .i64 x.f4, .bool x.f5, .bool x.f6, .int .i64 x.f7, .slice A8 x.f8.length c8, .slice A9 x.f9.length c9, .slice A10 x.f10.length c10], rfl, rfl, ⟨[.int .i64 x.f4], [.bool x.f5, .bool x.f6, .int .i64 x.f7, .slice A8 x.f8.length c8, .slice A9 x.f9.length c9, .slice A10 x.f10.length c10], rfl, rfl, ⟨[.bool x.f5], [.bool x.f6, .int .i64 x.f7, .slice A8 x.f8.length c8, .slice A9 x.f9.length c9, .slice A10 x.f10.length c10], rfl, rfl, ⟨[.bool x.f6], [.int .i64 x.f7, .slice A8 x.f8.length c8, .slice A9 x.f9.length c9, .slice A10 x.f10.length c10], rfl, rfl, ⟨[.int .i64 x.f7], [.slice A8 x.f8.length c8, .slice A9 x.f9.length c9, .slice A10 x.f10.length c10], rfl, rfl, ⟨[.slice A8 x.f8.length c8], [.slice A9 x.f9.length c9, .slice A10 x.f10.length c10], rfl, ⟨A8, c8, rfl, l8, g8⟩, ⟨[.slice A9 x.f9.length c9], [.slice A10 x.f10.length c10], rfl, ⟨A9, c9, rfl, l9, g9⟩, ⟨A10, c10, rfl, l10, g10⟩⟩⟩⟩⟩⟩⟩⟩⟩⟩⟩
def rd_T44 (xs : List S44) (i : Int) : S44 := xs.getD i.toNat z44
theorem at_T44 {w : World} {A : Option Addr} {n : Nat} {xs : List S44} (h : Kd.C k44 w A n xs) (i : Int) (h0 : 0 ≤ i) (h1 : i < n) : ∃ ad A8 c8 A9 c9 A10 c10, A = some ad ∧ w.cell? (ad.add (i.toNat * 11)) = some (.int .i64 (rd_T44 xs i).f0) ∧ w.cell? ⟨(ad.add (i.toNat * 11)).block, (ad.add (i.toNat * 11)).off + 1, none⟩ = some (.int .i64 (rd_T44 xs i).f1) ∧ w.cell? ⟨(ad.add (i.toNat * 11)).block, (ad.add (i.toNat * 11)).off + 2, none⟩ = some (.int .i64 (rd_T44 xs i).f2) ∧ w.cell? ⟨(ad.add (i.toNat * 11)).block, (ad.add (i.toNat * 11)).off + 3, none⟩ = some (.int .i64 (rd_T44 xs i).f3) ∧ w.cell? ⟨(ad.add (i.toNat * 11)).block, (ad.add (i.toNat * 11)).off + 4, none⟩ = some (.int .i64 (rd_T44 xs i).f4) ∧ w.cell? ⟨(ad.add (i.toNat * 11)).block, (ad.add (i.toNat * 11)).off + 5, none⟩ = some (.bool (rd_T44 xs i).f5) ∧ w.cell? ⟨(ad.add (i.toNat * 11)).block, (ad.add (i.toNat * 11)).off + 6, none⟩ = some (.bool (rd_T44 xs i).f6) ∧ w.cell? ⟨(ad.add (i.toNat * 11)).block, (ad.add (i.toNat * 11)).off + 7, none⟩ = some (.int .i64 (rd_T44 xs i).f7) ∧ w.cell? ⟨(ad.add (i.toNat * 11)).block, (ad.add (i.toNat * 11)).off + 8, none⟩ = some (.slice A8 (rd_T44 xs i).f8.length c8) ∧ w.cell? ⟨(ad.add (i.toNat * 11)).block, (ad.add (i.toNat * 11)).off + 9, none⟩ = some (.slice A9 (rd_T44 xs i).f9.length c9) ∧ w.cell? ⟨(ad.add (i.toNat * 11)).block, (ad.add (i.toNat * 11)).off + 10, none⟩ = some (.slice A10 (rd_T44 xs i).f10.length c10) ∧ (rd_T44 xs i).f8.length ≤ c8 ∧ (Kd.int .u8).C w A8 (rd_T44 xs i).f8.length (rd_T44 xs i).f8 ∧ (rd_T44 xs i).f9.length ≤ c9 ∧ (Kd.int .u8).C w A9 (rd_T44 xs i).f9.length (rd_T44 xs i).f9 ∧ (rd_T44 xs i).f10.length ≤ c10 ∧ k42.C w A10 (rd_T44 xs i).f10.length (rd_T44 xs i).f10 := by
  obtain ⟨ad, c, e, _, hK, hc0⟩ := Kd.C_get h z44 i h0 h1
  have hc : ∀ j u, c[j]? = some u → w.cell? (ad.add (i.toNat * 11 + j)) = some u := hc0
  obtain ⟨A8, c8, A9, c9, A10, c10, rfl, l8, g8, l9, g9, l10, g10⟩ := k44_open hK
  exact ⟨ad, A8, c8, A9, c9, A10, c10, e, hc 0 _ rfl, by rw [← add_field _ _ 1 (by omega)]; exact hc 1 _ rfl, by rw [← add_field _ _ 2 (by omega)]; exact hc 2 _ rfl, by rw [← add_field _ _ 3 (by omega)]; exact hc 3 _ rfl, by rw [← add_field _ _ 4 (by omega)]; exact hc 4 _ rfl, by rw [← add_field _ _ 5 (by omega)]; exact hc 5 _ rfl, by rw [← add_field _ _ 6 (by omega)]; exact hc 6 _ rfl, by rw [← add_field _ _ 7 (by omega)]; exact hc 7 _ rfl, by rw [← add_field _ _ 8 (by omega)]; exact hc 8 _ rfl, by rw [← add_field _ _ 9 (by omega)]; exact hc 9 _ rfl, by rw [← add_field _ _ 10 (by omega)]; exact hc 10 _ rfl, l8, g8, l9, g9, l10, g10⟩
structure S85 where
  f0 : Int
  f1 : Int
def z85 : S85 := ⟨(0 : Int), (0 : Int)⟩
def k85 : Kd S85 := Kd.iso (Kd.pair (Kd.int .i64) (Kd.int .i64)) (fun x : S85 => (x.f0, x.f1))
theorem k85_open {w : World} {x : S85} {cs : List Value} (h : k85.K w x cs) : cs = [.int .i64 x.f0, .int .i64 x.f1] := by
  obtain ⟨_, _, rfl, rfl, rfl⟩ := h
  exact rfl
theorem k85_mk (w : World) (x : S85)  : k85.K w x [.int .i64 x.f0, .int .i64 x.f1] := ⟨[.int .i64 x.f0], [.int .i64 x.f1], rfl, rfl, rfl⟩
def rd_T85 (xs : List S85) (i : Int) : S85 := xs.getD i.toNat z85
theorem at_T85 {w : World} {A : Option Addr} {n : Nat} {xs : List S85} (h : Kd.C k85 w A n xs) (i : Int) (h0 : 0 ≤ i) (h1 : i < n) : ∃ ad , A = some ad ∧ w.cell? (ad.add (i.toNat * 2)) = some (.int .i64 (rd_T85 xs i).f0) ∧ w.cell? ⟨(ad.add (i.toNat * 2)).block, (ad.add (i.toNat * 2)).off + 1, none⟩ = some (.int .i64 (rd_T85 xs i).f1) := by
  obtain ⟨ad, c, e, _, hK, hc0⟩ := Kd.C_get h z85 i h0 h1
  have hc : ∀ j u, c[j]? = some u → w.cell? (ad.add (i.toNat * 2 + j)) = some u := hc0
  obtain rfl := k85_open hK
  exact ⟨ad, e, hc 0 _ rfl, by rw [← add_field _ _ 1 (by omega)]; exact hc 1 _ rfl⟩
structure S27 where
  f0 : Bool
  f1 : Int
  f2 : Int
  f3 : Bool
  f4 : Bool
  f5 : Int
  f6 : Int
  f7 : (List Int)
  f8 : (List Int)
  f9 : (List Int)
  f10 : Bool
  f11 : Bool
  f12 : Bool
  f13 : (List S44)
  f14 : (List S42)
def z27 : S27 := ⟨false, (0 : Int), (0 : Int), false, false, (0 : Int), (0 : Int), ([] : List Int), ([] : List Int), ([] : List Int), false, false, false, ([] : List S44), ([] : List S42)⟩
def k27 : Kd S27 := Kd.iso (Kd.pair Kd.bool (Kd.pair (Kd.int .i64) (Kd.pair (Kd.int .i64) (Kd.pair Kd.bool (Kd.pair Kd.bool (Kd.pair (Kd.int .u32) (Kd.pair (Kd.int .i64) (Kd.pair (Kd.slice 5 (Kd.int .u8)) (Kd.pair (Kd.slice 5 (Kd.int .u8)) (Kd.pair (Kd.slice 5 (Kd.int .u8)) (Kd.pair Kd.bool (Kd.pair Kd.bool (Kd.pair Kd.bool (Kd.pair (Kd.slice 44 k44) (Kd.slice 42 k42))))))))))))))) (fun x : S27 => (x.f0, x.f1, x.f2, x.f3, x.f4, x.f5, x.f6, x.f7, x.f8, x.f9, x.f10, x.f11, x.f12, x.f13, x.f14))
theorem k27_open {w : World} {x : S27} {cs : List Value} (h : k27.K w x cs) : ∃ A7 c7 A8 c8 A9 c9 A13 c13 A14 c14, cs = [.bool x.f0, .int .i64 x.f1, .int .i64 x.f2, .bool x.f3, .bool x.f4, .int .u32 x.f5, .int .i64 x.f6, .slice A7 x.f7.length c7, .slice A8 x.f8.length c8, .slice A9 x.f9.length c9, .bool x.f10, .bool x.f11, .bool x.f12, .slice A13 x.f13.length c13, .slice A14 x.f14.length c14] ∧ x.f7.length ≤ c7 ∧ (Kd.int .u8).C w A7 x.f7.length x.f7 ∧ x.f8.length ≤ c8 ∧ (Kd.int .u8).C w A8 x.f8.length x.f8 ∧ x.f9.length ≤ c9 ∧ (Kd.int .u8).C w A9 x.f9.length x.f9 ∧ x.f13.length ≤ c13 ∧ k44.C w A13 x.f13.length x.f13 ∧ x.f14.length ≤ c14 ∧ k42.C w A14 x.f14.length x.f14 := by
  obtain ⟨_, _, rfl, rfl, ⟨_, _, rfl, rfl, ⟨_, _, rfl, rfl, ⟨_, _, rfl, rfl, ⟨_, _, rfl, rfl, ⟨_, _, rfl, rfl, ⟨_, _, rfl, rfl, ⟨_, _, rfl, ⟨A7, c7, rfl, l7, g7⟩, ⟨_, _, rfl, ⟨A8, c8, rfl, l8, g8⟩, ⟨_, _, rfl, ⟨A9, c9, rfl, l9, g9⟩, ⟨_, _, rfl, rfl, ⟨_, _, rfl, rfl, ⟨_, _, rfl, rfl, ⟨_, _, rfl, ⟨A13, c13, rfl, l13, g13⟩, ⟨A14, c14, rfl, l14, g14⟩⟩⟩⟩⟩⟩⟩⟩⟩⟩⟩⟩⟩⟩⟩ := h
  exact ⟨A7, c7, A8, c8, A9, c9, A13, c13, A14, c14, rfl, l7, g7, l8, g8, l9, g9, l13, g13, l14, g14⟩
theorem k27_mk (w : World) (x : S27) {A7 : Option Addr} {c7 : Nat} (l7 : x.f7.length ≤ c7) (g7 : (Kd.int .u8).C w A7 x.f7.length x.f7) {A8 : Option Addr} {c8 : Nat} (l8 : x.f8.length ≤ c8) (g8 : (Kd.int .u8).C w A8 x.f8.length x.f8) {A9 : Option Addr} {c9 : Nat} (l9 : x.f9.length ≤ c9) (g9 : (Kd.int .u8).C w A9 x.f9.length x.f9) {A13 : Option Addr} {c13 : Nat} (l13 : x.f13.length ≤ c13) (g13 : k44.C w A13 x.f13.length x.f13) {A14 : Option Addr} {c14 : Nat} (l14 : x.f14.length ≤ c14) (g14 : k42.C w A14 x.f14.length x.f14) : k27.K w x [.bool x.f0, .int .i64 x.f1, .int .i64 x.f2, .bool x.f3, .bool x.f4, .int .u32 x.f5, .int .i64 x.f6, .slice A7 x.f7.length c7, .slice A8 x.f8.length c8, .slice A9 x.f9.length c9, .bool x.f10, .bool x.f11, .bool x.f12, .slice A13 x.f13.length c13, .slice A14 x.f14.length c14] := ⟨[.bool x.f0], [.int .i64 x.f1, .int .i64 x.f2, .bool x.f3, .bool x.f4, .int .u32 x.f5, .int .i64 x.f6, .slice A7 x.f7.length c7, .slice A8 x.f8.length c8, .slice A9 x.f9.length c9, .bool x.f10, .bool x.f11, .bool x.f12, .slice A13 x.f13.length c13, .slice A14 x.f14.length c14], rfl, rfl, ⟨[.int .i64 x.f1], [.int .i64 x.f2, .bool x.f3, .bool x.f4, .int .u32 x.f5, .int .i64 x.f6, .slice A7 x.f7.length c7, .slice A8 x.f8.length c8, .slice A9 x.f9.length c9, .bool x.f10, .bool x.f11, .bool x.f12, .slice A13 x.f13.length c13, .slice A14 x.f14.length c14], rfl, rfl, ⟨[.int .i64 x.f2], [.bool x.f3, .bool x.f4, .int .u32 x.f5, .int .i64 x.f6, .slice A7 x.f7.length c7, .slice A8 x.f8.length c8, .slice A9 x.f9.length c9, .bool x.f10, .bool x.f11, .bool x.f12, .slice A13 x.f13.length c13, .slice A14 x.f14.length c14], rfl, rfl, ⟨[.bool x.f3], [.bool x.f4, .int .u32 x.f5, .int .i64 x.f6, .slice A7 x.f7.length c7, .slice A8 x.f8.length c8, .slice A9 x.f9.length c9, .bool x.f10, .bool x.f11, .bool x.f12, .slice A13 x.f13.length c13, .slice A14 x.f14.length c14], rfl, rfl, ⟨[.bool x.f4], [.int .u32 x.f5, .int .i64 x.f6, .slice A7 x.f7.length c7, .slice A8 x.f8.length c8, .slice A9 x.f9.length c9, .bool x.f10, .bool x.f11, .bool x.f12, .slice A13 x.f13.length c13, .slice A14 x.f14.length c14], rfl, rfl, ⟨[.int .u32 x.f5], [.int .i64 x.f6, .slice A7 x.f7.length c7, .slice A8 x.f8.length c8, .slice A9 x.f9.length c9, .bool x.f10, .bool x.f11, .bool x.f12, .slice A13 x.f13.length c13, .slice A14 x.f14.length c14], rfl, rfl, ⟨[.int .i64 x.f6], [.slice A7 x.f7.length c7, .slice A8 x.f8.length c8, .slice A9 x.f9.length c9, .bool x.f10, .bool x.f11, .bool x.f12, .slice A13 x.f13.length c13, .slice A14 x.f14.length c14], rfl, rfl, ⟨[.slice A7 x.f7.length c7], [.slice A8 x.f8.length c8, .slice A9 x.f9.length c9, .bool x.f10, .bool x.f11, .bool x.f12, .slice A13 x.f13.length c13, .slice A14 x.f14.length c14], rfl, ⟨A7, c7, rfl, l7, g7⟩, ⟨[.slice A8 x.f8.length c8], [.slice A9 x.f9.length c9, .bool x.f10, .bool x.f11, .bool x.f12, .slice A13 x.f13.length c13, .slice A14 x.f14.length c14], rfl, ⟨A8, c8, rfl, l8, g8⟩, ⟨[.slice A9 x.f9.length c9], [.bool x.f10, .bool x.f11, .bool x.f12, .slice A13 x.f13.length c13, .slice A14 x.f14.length c14], rfl, ⟨A9, c9, rfl, l9, g9⟩, ⟨[.bool x.f10], [.bool x.f11, .bool x.f12, .slice A13 x.f13.length c13, .slice A14 x.f14.length c14], rfl, rfl, ⟨[.bool x.f11], [.bool x.f12, .slice A13 x.f13.length c13, .slice A14 x.f14.length c14], rfl, rfl, ⟨[.bool x.f12], [.slice A13 x.f13.length c13, .slice A14 x.f14.length c14], rfl, rfl, ⟨[.slice A13 x.f13.length c13], [.slice A14 x.f14.length c14], rfl, ⟨A13, c13, rfl, l13, g13⟩, ⟨A14, c14, rfl, l14, g14⟩⟩⟩⟩⟩⟩⟩⟩⟩⟩⟩⟩⟩⟩⟩
instance : Inhabited S42 := ⟨z42⟩
def q42 (x : S42) : Prop := ((x.f0.size ≤ 140737488351232) ∧ (x.f1.length ≤ maxLen ∧ x.f1.length * 1 ≤ 140737488351232 ∧ ∀ y0 ∈ x.f1, ((Lit.int .u8 y0).wf = true)))
theorem o42 : O.Opens k42 q42 Try.prog 42 :=
  O.opens_struct (fun p => (⟨p.1, p.2⟩ : S42)) (fun _ => rfl) Try.underlying42 (by kernel_rfl)
    (O.opensF_cons rfl (by kernel_rfl) (O.opens_string Try.underlying9) (O.opensF_one rfl (by kernel_rfl) (O.opens_slice (B := 1) Try.underlying23 (by kernel_rfl) (by kernel_rfl) (O.opens_int Try.underlying5))))
instance : Inhabited S44 := ⟨z44⟩
def q44 (x : S44) : Prop := (((Lit.int .i64 x.f0).wf = true) ∧ (((Lit.int .i64 x.f1).wf = true) ∧ (((Lit.int .i64 x.f2).wf = true) ∧ (((Lit.int .i64 x.f3).wf = true) ∧ (((Lit.int .i64 x.f4).wf = true) ∧ (True ∧ (True ∧ (((Lit.int .i64 x.f7).wf = true) ∧ ((x.f8.length ≤ maxLen ∧ x.f8.length * 1 ≤ 140737488351232 ∧ ∀ y0 ∈ x.f8, ((Lit.int .u8 y0).wf = true)) ∧ ((x.f9.length ≤ maxLen ∧ x.f9.length * 1 ≤ 140737488351232 ∧ ∀ y0 ∈ x.f9, ((Lit.int .u8 y0).wf = true)) ∧ (x.f10.length ≤ maxLen ∧ x.f10.length * 40 ≤ 140737488351232 ∧ ∀ y0 ∈ x.f10, ((y0.f0.size ≤ 140737488351232) ∧ (y0.f1.length ≤ maxLen ∧ y0.f1.length * 1 ≤ 140737488351232 ∧ ∀ y1 ∈ y0.f1, ((Lit.int .u8 y1).wf = true))))))))))))))
theorem o44 : O.Opens k44 q44 Try.prog 44 :=
  O.opens_struct (fun p => (⟨p.1, p.2.1, p.2.2.1, p.2.2.2.1, p.2.2.2.2.1, p.2.2.2.2.2.1, p.2.2.2.2.2.2.1, p.2.2.2.2.2.2.2.1, p.2.2.2.2.2.2.2.2.1, p.2.2.2.2.2.2.2.2.2.1, p.2.2.2.2.2.2.2.2.2.2⟩ : S44)) (fun _ => rfl) Try.underlying44 (by kernel_rfl)
    (O.opensF_cons rfl (by kernel_rfl) (O.opens_int Try.underlying3) (O.opensF_cons rfl (by kernel_rfl) (O.opens_int Try.underlying3) (O.opensF_cons rfl (by kernel_rfl) (O.opens_int Try.underlying3) (O.opensF_cons rfl (by kernel_rfl) (O.opens_int Try.underlying3) (O.opensF_cons rfl (by kernel_rfl) (O.opens_int Try.underlying3) (O.opensF_cons rfl (by kernel_rfl) (O.opens_bool Try.underlying4) (O.opensF_cons rfl (by kernel_rfl) (O.opens_bool Try.underlying4) (O.opensF_cons rfl (by kernel_rfl) (O.opens_int Try.underlying3) (O.opensF_cons rfl (by kernel_rfl) (O.opens_slice (B := 1) Try.underlying23 (by kernel_rfl) (by kernel_rfl) (O.opens_int Try.underlying5)) (O.opensF_cons rfl (by kernel_rfl) (O.opens_slice (B := 1) Try.underlying23 (by kernel_rfl) (by kernel_rfl) (O.opens_int Try.underlying5)) (O.opensF_one rfl (by kernel_rfl) (O.opens_slice (B := 40) Try.underlying25 (by kernel_rfl) (by kernel_rfl) o42))))))))))))
instance : Inhabited S27 := ⟨z27⟩
def q27 (x : S27) : Prop := (True ∧ (((Lit.int .i64 x.f1).wf = true) ∧ (((Lit.int .i64 x.f2).wf = true) ∧ (True ∧ (True ∧ (((Lit.int .u32 x.f5).wf = true) ∧ (((Lit.int .i64 x.f6).wf = true) ∧ ((x.f7.length ≤ maxLen ∧ x.f7.length * 1 ≤ 140737488351232 ∧ ∀ y0 ∈ x.f7, ((Lit.int .u8 y0).wf = true)) ∧ ((x.f8.length ≤ maxLen ∧ x.f8.length * 1 ≤ 140737488351232 ∧ ∀ y0 ∈ x.f8, ((Lit.int .u8 y0).wf = true)) ∧ ((x.f9.length ≤ maxLen ∧ x.f9.length * 1 ≤ 140737488351232 ∧ ∀ y0 ∈ x.f9, ((Lit.int .u8 y0).wf = true)) ∧ (True ∧ (True ∧ (True ∧ ((x.f13.length ≤ maxLen ∧ x.f13.length * 128 ≤ 140737488351232 ∧ ∀ y0 ∈ x.f13, (((Lit.int .i64 y0.f0).wf = true) ∧ (((Lit.int .i64 y0.f1).wf = true) ∧ (((Lit.int .i64 y0.f2).wf = true) ∧ (((Lit.int .i64 y0.f3).wf = true) ∧ (((Lit.int .i64 y0.f4).wf = true) ∧ (True ∧ (True ∧ (((Lit.int .i64 y0.f7).wf = true) ∧ ((y0.f8.length ≤ maxLen ∧ y0.f8.length * 1 ≤ 140737488351232 ∧ ∀ y1 ∈ y0.f8, ((Lit.int .u8 y1).wf = true)) ∧ ((y0.f9.length ≤ maxLen ∧ y0.f9.length * 1 ≤ 140737488351232 ∧ ∀ y1 ∈ y0.f9, ((Lit.int .u8 y1).wf = true)) ∧ (y0.f10.length ≤ maxLen ∧ y0.f10.length * 40 ≤ 140737488351232 ∧ ∀ y1 ∈ y0.f10, ((y1.f0.size ≤ 140737488351232) ∧ (y1.f1.length ≤ maxLen ∧ y1.f1.length * 1 ≤ 140737488351232 ∧ ∀ y2 ∈ y1.f1, ((Lit.int .u8 y2).wf = true))))))))))))))) ∧ (x.f14.length ≤ maxLen ∧ x.f14.length * 40 ≤ 140737488351232 ∧ ∀ y0 ∈ x.f14, ((y0.f0.size ≤ 140737488351232) ∧ (y0.f1.length ≤ maxLen ∧ y0.f1.length * 1 ≤ 140737488351232 ∧ ∀ y1 ∈ y0.f1, ((Lit.int .u8 y1).wf = true))))))))))))))))))
theorem o27 : O.Opens k27 q27 Try.prog 27 :=
  O.opens_struct (fun p => (⟨p.1, p.2.1, p.2.2.1, p.2.2.2.1, p.2.2.2.2.1, p.2.2.2.2.2.1, p.2.2.2.2.2.2.1, p.2.2.2.2.2.2.2.1, p.2.2.2.2.2.2.2.2.1, p.2.2.2.2.2.2.2.2.2.1, p.2.2.2.2.2.2.2.2.2.2.1, p.2.2.2.2.2.2.2.2.2.2.2.1, p.2.2.2.2.2.2.2.2.2.2.2.2.1, p.2.2.2.2.2.2.2.2.2.2.2.2.2.1, p.2.2.2.2.2.2.2.2.2.2.2.2.2.2⟩ : S27)) (fun _ => rfl) Try.underlying27 (by kernel_rfl)
    (O.opensF_cons rfl (by kernel_rfl) (O.opens_bool Try.underlying4) (O.opensF_cons rfl (by kernel_rfl) (O.opens_int Try.underlying3) (O.opensF_cons rfl (by kernel_rfl) (O.opens_int Try.underlying3) (O.opensF_cons rfl (by kernel_rfl) (O.opens_bool Try.underlying4) (O.opensF_cons rfl (by kernel_rfl) (O.opens_bool Try.underlying4) (O.opensF_cons rfl (by kernel_rfl) (O.opens_int Try.underlying22) (O.opensF_cons rfl (by kernel_rfl) (O.opens_int Try.underlying3) (O.opensF_cons rfl (by kernel_rfl) (O.opens_slice (B := 1) Try.underlying23 (by kernel_rfl) (by kernel_rfl) (O.opens_int Try.underlying5)) (O.opensF_cons rfl (by kernel_rfl) (O.opens_slice (B := 1) Try.underlying23 (by kernel_rfl) (by kernel_rfl) (O.opens_int Try.underlying5)) (O.opensF_cons rfl (by kernel_rfl) (O.opens_slice (B := 1) Try.underlying23 (by kernel_rfl) (by kernel_rfl) (O.opens_int Try.underlying5)) (O.opensF_cons rfl (by kernel_rfl) (O.opens_bool Try.underlying4) (O.opensF_cons rfl (by kernel_rfl) (O.opens_bool Try.underlying4) (O.opensF_cons rfl (by kernel_rfl) (O.opens_bool Try.underlying4) (O.opensF_cons rfl (by kernel_rfl) (O.opens_slice (B := 128) Try.underlying24 (by kernel_rfl) (by kernel_rfl) o44) (O.opensF_one rfl (by kernel_rfl) (O.opens_slice (B := 40) Try.underlying25 (by kernel_rfl) (by kernel_rfl) o42))))))))))))))))
end Go.Proofs.Ythkocpcjcpohcaa.P
end
