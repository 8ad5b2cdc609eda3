/- DrrFair: for every input the law returns true and its arguments read as before. No condition. -/
import Derived.Test.YtoebhifnfomkhaaFair
import Derived.Test.YtoebhifnfomkhaaClamped
namespace Go.Proofs.Ytoebhifnfomkhaa
open Go.RowKit Go.Lo

/-- The law's loop: what the two were served, by their visits. -/
structure FairRel (w0 : World) (bd bg bl n a b k : Nat) (q : Int) (wt : Nat → Int) (x y : Int) (d : D) (w : World) : Prop where
  dr : IsDrr w bd bg bl d
  ok : d.Ok
  n : d.n = n
  g : d.g = fun i => q * wt i
  quiet : Quiet w0 w
  paid : ∃ R, Paid a R x d ∧ Paid b R y d
  x0 : 0 ≤ x
  x1 : x ≤ 64 * k
  y0 : 0 ≤ y
  y1 : y ≤ 64 * k

/-- What the law holds of it. -/
theorem FairRel.bound {w0 w : World} {bd bg bl n a b k : Nat} {q x y : Int} {wt : Nat → Int} {d : D} (h : FairRel w0 bd bg bl n a b k q wt x y d w) (ha : a < n) (hb : b < n) (hq : 1 ≤ q) (hwa : 1 ≤ wt a) (hwb : 1 ≤ wt b) :
    x * wt b - y * wt a ≤ 2 * q * wt a * wt b + 63 * wt a ∧ y * wt a - x * wt b ≤ 2 * q * wt a * wt b + 63 * wt b := by
  obtain ⟨R, pa, pb⟩ := h.paid
  unfold Paid at pa pb
  rw [h.g] at pa pb
  have fa0 := h.ok.f0 a (by rw [h.n]; exact ha)
  have fb0 := h.ok.f0 b (by rw [h.n]; exact hb)
  have fa1 := h.ok.f1 a (by rw [h.n]; exact ha)
  have fb1 := h.ok.f1 b (by rw [h.n]; exact hb)
  rw [h.g] at fa1 fb1
  simp only at pa pb fa1 fb1
  have ga : 0 ≤ q * wt a := Int.mul_nonneg (by omega) (by omega)
  have gb : 0 ≤ q * wt b := Int.mul_nonneg (by omega) (by omega)
  have fa2 : d.f a ≤ 63 + q * wt a := by split at fa1 <;> omega
  have fb2 : d.f b ≤ 63 + q * wt b := by split at fb1 <;> omega
  refine ⟨fair_bound q (wt a) (wt b) x y R _ _ _ _ pa pb hq hwa hwb (ind_le _ _ _ _ _ _) fa0 fb2, ?_⟩
  have := fair_bound q (wt b) (wt a) y x R _ _ _ _ pb pa hq hwb hwa (ind_le _ _ _ _ _ _) fb0 fa2
  have e : 2 * q * wt b * wt a = 2 * q * wt a * wt b := by grind
  omega

/-- One more is served. -/
theorem FairRel.next {w0 w w' : World} {bd bg bl n a b k s : Nat} {q x y : Int} {wt c : Nat → Int} {d d' : D} (h : FairRel w0 bd bg bl n a b k q wt x y d w) (ha : a < n) (hb : b < n) (hr : Runs c d d' s) (ca : 0 < c a) (cb : 0 < c b)
    (hc : ∀ i, i < n → c i ≤ 64) (hI : IsDrr w' bd bg bl d') (hQ : Quiet w0 w') :
    FairRel w0 bd bg bl n a b (k + 1) q wt (x + if s = a then c s else 0) (y + if s = b then c s else 0) d' w' := by
  obtain ⟨R, pa, pb⟩ := h.paid
  obtain ⟨ok', k1, k2, k3, k4, _, _⟩ := hr.ok h.ok
  have e : cl (c s) = c s := by
    have := hc s (by rw [← h.n]; exact k1)
    unfold cl; split <;> omega
  have c64 := hc s (by rw [← h.n]; exact k1)
  obtain ⟨R', pa', pb'⟩ := hr.paid ca cb R x y h.ok (by rw [h.n]; exact ha) (by rw [h.n]; exact hb) pa pb
  rw [e] at pa' pb'
  have := h.x0; have := h.x1; have := h.y0; have := h.y1
  exact ⟨hI, ok', k3.trans h.n, k4.trans h.g, hQ, ⟨R', pa', pb'⟩, by split <;> omega, by split <;> omega, by split <;> omega, by split <;> omega⟩
end Go.Proofs.Ytoebhifnfomkhaa
