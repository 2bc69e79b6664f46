/- What came in, read as the printer's kinds: a datum of a type that is read gives the plain value that its cells hold, and what is known of it. -/
import Derived.Test.YtnpmnfhmlnhepaaWMore
import Derived.Deep.Slices
import Derived.ChangeSlices
import Derived.ChangeSame
import Derived.SizedLaws
import Derived.Lib.SmallJoins
namespace Go.Proofs.Ytnpmnfhmlnhepaa.O
open Go Go.RowKit Go.ChangeShapes Go.WideShapes Go.Deep Go.Proofs.YtnpmnfhmlnhepaaW.PrintWords

/-- Each weight of a datum is within the reach. -/
def Light {H : Type} (P : Program) (t : TypeId) (d : DataW H) : Prop := ∀ n ∈ d.weights P t, n ≤ 140737488351232

/-- A kind is what is read of a type; Q: what is known of what is read. -/
def Opens {α : Type} (d : Kd α) (Q : α → Prop) (P : Program) (t : TypeId) : Prop :=
  ∀ {H : Type} {enc : TypeId × Value → H} {W : World} {fuel : Nat} {cs : List Value} {x : DataW H × List MemPlace},
    DataW.trod enc P W 0 (fun _ => true) true fuel t cs = some x → Light P t x.1 → ∃ v, d.K W v cs ∧ Q v

theorem opens_int {P : Program} {t : TypeId} {k : IntKind} (ht : P.underlying t = some (.int k)) : Opens (Kd.int k) (fun n => (Lit.int k n).wf = true) P t := by
  intro H enc W fuel cs x h _
  obtain ⟨n, rfl, _, hw⟩ := DataW.trod_int ht h
  exact ⟨n, rfl, hw⟩
theorem opens_bool {P : Program} {t : TypeId} (ht : P.underlying t = some .bool) : Opens Kd.bool (fun _ => True) P t := by
  intro H enc W fuel cs x h _
  obtain ⟨b, rfl, _⟩ := DataW.trod_bool ht h
  exact ⟨b, rfl, trivial⟩
theorem opens_string {P : Program} {t : TypeId} (ht : P.underlying t = some .string) : Opens Kd.string (fun s => s.size ≤ 140737488351232) P t := by
  intro H enc W fuel cs x h hl
  obtain ⟨s, rfl, rfl, _⟩ := DataW.trod_string ht h
  refine ⟨s, rfl, ?_⟩
  have := hl s.data.toList.length (by simp [DataW.weights])
  simpa using this

theorem light_slice {H : Type} {P : Program} {t e : TypeId} {elems spare : List (DataW H)} (ht : P.underlying t = some (.slice e)) (h : Light P t (.slice elems spare)) :
    (elems.length + spare.length) * P.bytesOf e ≤ 140737488351232 ∧ ∀ d ∈ elems, Light P e d := by
  refine ⟨h _ (by simp [DataW.weights, ht]), fun d hd n hn => h n ?_⟩
  have : ∀ (l : List (DataW H)), d ∈ l → n ∈ DataW.weightsAll P e l := by
    intro l
    induction l with
    | nil => intro h; cases h
    | cons a r ih =>
      intro h
      simp only [DataW.weightsAll, List.mem_append]
      rcases List.mem_cons.1 h with rfl | h
      · exact .inl hn
      · exact .inr (ih h)
  simp only [DataW.weights, ht, List.mem_cons, List.mem_append]
  exact .inr (.inl (this _ hd))

theorem opens_slice {α : Type} [Inhabited α] {d : Kd α} {Q : α → Prop} {P : Program} {t e : TypeId} {B : Nat} (ht : P.underlying t = some (.slice e)) (hs : P.cellsOf e = d.sz) (hB : P.bytesOf e = B) (ho : Opens d Q P e) :
    Opens (Kd.slice e d) (fun l => l.length ≤ maxLen ∧ l.length * B ≤ 140737488351232 ∧ ∀ x ∈ l, Q x) P t := by
  intro H enc W fuel cs x h hl
  rcases open_slice ht h with ⟨rfl, rfl⟩ | ⟨a, len, cap, m, n, D, Pl, rfl, hb, hlc, hmx, hm, rfl, hi⟩
  · exact ⟨[], ⟨none, 0, rfl, by simp, rfl, by simp, fun h => absurd h (by simp)⟩, by simp, by simp, by simp⟩
  · obtain ⟨hw, hel⟩ := light_slice ht hl
    simp only [if_true] at hm
    subst hm
    have hx : ∀ i, ∃ v, i < len → ∃ cs', W.cells? 0 (a.add (i * P.cellsOf e)) (P.cellsOf e) = some cs' ∧ d.K W v cs' ∧ Q v := by
      intro i
      by_cases c : i < len
      · obtain ⟨cs', hc, ht'⟩ := hi i (by omega)
        obtain ⟨v, hk, hq⟩ := ho ht' (hel _ (by simp; exact ⟨i, c, rfl⟩))
        exact ⟨v, fun _ => ⟨cs', hc, hk, hq⟩⟩
      · exact ⟨default, fun h => absurd h c⟩
    have hf := fun i => (hx i).choose_spec
    generalize hg : (fun i => (hx i).choose) = f at *
    have hf' : ∀ i, i < len → ∃ cs', W.cells? 0 (a.add (i * P.cellsOf e)) (P.cellsOf e) = some cs' ∧ d.K W (f i) cs' ∧ Q (f i) := by
      intro i hlt
      have := hf i hlt
      rw [← hg]
      exact this
    refine ⟨(List.range len).map f, ⟨some a, m, by simp, by simpa using hlc, by simp, ?_, fun h0 => ⟨a, rfl, ?_⟩⟩, ?_, ?_, ?_⟩
    · have := hmx; unfold maxLen at this; simp; omega
    · intro j p hp
      obtain ⟨hj, rfl⟩ : j < len ∧ f j = p := by
        rw [List.getElem?_map] at hp
        rcases Nat.lt_or_ge j len with h | h
        · rw [List.getElem?_range h] at hp; exact ⟨h, Option.some.inj hp⟩
        · rw [List.getElem?_eq_none (by simpa using h)] at hp; cases hp
      obtain ⟨cs', hc, hk, _⟩ := hf' j hj
      obtain ⟨_, hcl, hat⟩ := World.cells?_some hc
      refine ⟨cs', d.K_len hk, hk, fun i u hu => ?_⟩
      have hlt : i < P.cellsOf e := by
        have := (List.getElem?_eq_some_iff.1 hu).1
        omega
      have h2 := hat i hlt
      rw [hu, hs] at h2
      rw [← Go.Deep.add_add]
      exact h2
    · have := hmx; simp; omega
    · simp only [List.length_map, List.length_range, hB] at hw ⊢
      exact Nat.le_trans (Nat.mul_le_mul_right _ (by omega)) hw
    · intro z hz
      obtain ⟨i, hi', rfl⟩ := List.mem_map.1 hz
      obtain ⟨_, _, _, hq⟩ := hf' i (List.mem_range.1 hi')
      exact hq

/-- A struct's fields from one on, that lie one behind the other. -/
def OpensF {α : Type} (d : Kd α) (Q : α → Prop) (P : Program) (fs : List Field) (off : Nat) : Prop :=
  ∀ {H : Type} {enc : TypeId × Value → H} {W : World} {n : Nat} {cs : List Value} {xs : List (DataW H × List MemPlace)}, xs.length = fs.length → off + d.sz ≤ cs.length →
    (∀ (i : Nat) (f : Field), fs[i]? = some f → DataW.trod enc P W 0 (fun _ => true) true n f.type ((cs.drop f.offset).take (P.cellsOf f.type)) = xs[i]?) →
    (∀ (i : Nat) (f : Field) (x : DataW H × List MemPlace), fs[i]? = some f → xs[i]? = some x → Light P f.type x.1) → ∃ v, d.K W v ((cs.drop off).take d.sz) ∧ Q v
theorem opensF_one {α : Type} {d : Kd α} {Q : α → Prop} {P : Program} {f : Field} {off : Nat} (hoff : f.offset = off) (hs : P.cellsOf f.type = d.sz) (ho : Opens d Q P f.type) : OpensF d Q P [f] off := by
  intro H enc W n cs xs hl hlen ht hw
  obtain ⟨x, rfl⟩ : ∃ x, xs = [x] := by
    match xs, hl with
    | [x], _ => exact ⟨x, rfl⟩
  have h0 := ht 0 f rfl
  rw [hoff, hs] at h0
  exact ho h0 (hw 0 f x rfl rfl)
theorem opensF_cons {α β : Type} {a : Kd α} {b : Kd β} {Qa : α → Prop} {Qb : β → Prop} {P : Program} {f : Field} {fs : List Field} {off : Nat} (hoff : f.offset = off) (hs : P.cellsOf f.type = a.sz)
    (ha : Opens a Qa P f.type) (hb : OpensF b Qb P fs (off + a.sz)) : OpensF (Kd.pair a b) (fun x => Qa x.1 ∧ Qb x.2) P (f :: fs) off := by
  intro H enc W n cs xs hl hlen ht hw
  obtain ⟨x, r, rfl⟩ : ∃ x r, xs = x :: r := by
    match xs, hl with
    | x :: r, _ => exact ⟨x, r, rfl⟩
  have hlen' : off + (a.sz + b.sz) ≤ cs.length := hlen
  have h0 := ht 0 f rfl
  rw [hoff, hs] at h0
  obtain ⟨v, hk, hq⟩ := ha h0 (hw 0 f x rfl rfl)
  obtain ⟨u, hk2, hq2⟩ := hb (xs := r) (n := n) (cs := cs) (by simpa using hl) (by omega) (fun i g hg => ht (i + 1) g hg) (fun i g y hg hy => hw (i + 1) g y hg hy)
  refine ⟨(v, u), ⟨(cs.drop off).take a.sz, (cs.drop (off + a.sz)).take b.sz, ?_, hk, hk2⟩, hq, hq2⟩
  show (cs.drop off).take (a.sz + b.sz) = _
  rw [List.take_add, List.drop_drop]
theorem light_agg {H : Type} {P : Program} {t : TypeId} {fs : Array Field} {ds : List (DataW H)} (ht : P.underlying t = some (.struct fs)) (h : Light P t (.agg ds)) :
    ∀ (i : Nat) (f : Field) (d : DataW H), fs.toList[i]? = some f → ds[i]? = some d → Light P f.type d := by
  intro i f d hf hd n hn
  refine h n ?_
  simp only [DataW.weights, ht]
  exact DataW.weights_mem_each (j := i) (by rw [List.getElem?_map, hf]; rfl) hd n hn
theorem opens_struct {α β : Type} {d : Kd β} {Q : β → Prop} {P : Program} {t : TypeId} {fs : Array Field} {pr : α → β} (mk : β → α) (hmk : ∀ x, pr (mk x) = x) (ht : P.underlying t = some (.struct fs)) (hs : P.cellsOf t = d.sz)
    (ho : OpensF d Q P fs.toList 0) : Opens (Kd.iso d pr) (fun x => Q (pr x)) P t := by
  intro H enc W fuel cs x h hl
  obtain ⟨xs, n, rfl, rfl, hcl, hxl, hf⟩ := DataW.trod_struct ht h
  have hw := light_agg ht hl
  obtain ⟨v, hk, hq⟩ := ho (W := W) (n := n) (cs := cs) (xs := xs) (by simpa using hxl) (by omega) (fun i f hg => hf i f (by simpa using hg)) (fun i f y hg hy => hw i f y.1 hg (by rw [List.getElem?_map, hy]; rfl))
  refine ⟨mk v, ?_, by show Q (pr (mk v)); rw [hmk]; exact hq⟩
  show d.K W (pr (mk v)) cs
  rw [hmk]
  have e : (cs.drop 0).take d.sz = cs := by rw [List.drop_zero, List.take_of_length_le (by omega)]
  rw [e] at hk
  exact hk
theorem light_of {H : Type} {P : Program} {ts : List TypeId} {ds : List (DataW H)} (hsz : (DataW.weightsEach P ts ds).all (· ≤ reachBytes) = true) {j : Nat} {t : TypeId} {d : DataW H} (ht : ts[j]? = some t) (hd : ds[j]? = some d) : Light P t d := by
  intro n hn
  have := List.all_eq_true.1 hsz _ (DataW.weights_mem_each ht hd n hn)
  have h2 : reachBytes = 140737488351232 := by decide
  simpa [h2] using this
end Go.Proofs.Ytnpmnfhmlnhepaa.O
