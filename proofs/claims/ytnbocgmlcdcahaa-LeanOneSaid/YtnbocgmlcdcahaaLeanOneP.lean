/- One mode for all blocks. -/
import Derived.Test.YtnbocgmlcdcahaaLeanFlatP
namespace Go.Proofs.Ytnbocgmlcdcahaa.Pure
open Go Go.RowKit Go.Proofs.Ytnbocgmlcdcahaa.P Go.Proofs.YtnbocgmlcdcahaaW.PrintWords Go.Proofs.YtnbocgmlcdcahaaW.PrintLast Go.Proofs.YtnbocgmlcdcahaaW.PrintMore Go.Proofs.Ytnbocgmlcdcahaa.U

def one13 (w m : Int) (p : List Int) : List Int := (List.range p.length).map fun (j : Nat) => each4 fSub (rd p (j : Int)) (at12 w p m ((j : Int) % w) ((j : Int) / w)) 0
theorem one13_len (w m : Int) (p : List Int) : (one13 w m p).length = p.length := by simp [one13]
theorem lean_one {w h b mm : Int} {p : List Int} {n2 : Nat} (hs : sound w h p b (List.replicate n2 mm)) : lean13 false w b (List.replicate n2 mm) p p.length = one13 w mm p := by
  have hg := hs.1
  refine rd_ext13 (by rw [lean13_len, one13_len]) fun j hj => ?_
  rw [lean13_len] at hj
  obtain ⟨hx, hy⟩ := place hg (k := j) hj
  have hm : mo w b (List.replicate n2 mm) ((j : Int) % w) ((j : Int) / w) = mm := by
    obtain ⟨⟨w0, w1, k0, k1, e⟩, b0, b1, hn, _⟩ := hs
    obtain ⟨c0, c1, c2, c3, c4⟩ := block_in w0 w1 k0 k1 b0 b1 hx hy
    rw [List.length_replicate] at hn
    exact rd_rep c0 (by omega)
  rw [lean_rd false w b _ p p.length (Nat.le_refl _) j, if_pos hj]
  unfold step13
  rw [if_neg (by decide), hm]
  have hj' : j < (one13 w mm p).length := by rw [one13_len]; exact hj
  rw [show rd (one13 w mm p) (j : Int) = (one13 w mm p)[j] by unfold rd; rw [Int.toNat_natCast, List.getD_eq_getElem?_getD, List.getElem?_eq_getElem hj']; rfl]
  simp [one13]
theorem one_sound {w h b mm : Int} {p : List Int} {n2 : Nat} (hg : good w h p) (b0 : 2 ≤ b) (b1 : b ≤ 9) (hn2 : (n2 : Int) = blocks w b * blocks h b) (h0 : 0 ≤ mm) (h1 : mm ≤ 15) : sound w h p b (List.replicate n2 mm) :=
  ⟨hg, b0, b1, by rw [List.length_replicate]; exact hn2, fun m hm => by rw [(List.mem_replicate.1 hm).2]; exact ⟨h0, h1⟩⟩
end Go.Proofs.Ytnbocgmlcdcahaa.Pure
