/- Pairs of lists of formulas that are still to be compared. No condition. -/
import Derived.Test.YtnpcakakjhiboaaDoorNodes8
namespace Go.Proofs.YtnpcakakjhiboaaDoor
open Go.RowKit Go.Lo Go.WideShapes

/-- Two lists that lie somewhere: where, how long, the room, the formulas. -/
structure Pr where
  a : Option Addr
  ca : Nat
  xs : List Ft
  b : Option Addr
  cb : Nat
  ys : List Ft

def Pr.cells (p : Pr) : List Value := [.slice p.a p.xs.length p.ca, .slice p.b p.ys.length p.cb]

/-- A pair as it may stand: both as long, both lie. -/
structure Pr.Ok (D : Nat → Prop) (w : World) (p : Pr) : Prop where
  len : p.xs.length = p.ys.length
  max : p.xs.length ≤ maxLen
  fa : FsAt D w p.a p.xs
  fb : FsAt D w p.b p.ys
  ia : ∀ t, t ∈ p.xs → In D w t
  ib : ∀ t, t ∈ p.ys → In D w t

theorem Pr.Ok.keep {D p : Nat → Prop} {w w' : World} {q : Pr} (h : q.Ok D w) (hA : Alters p w w') (hp : ∀ k, D k → k < w.heap.size → ¬ p k) : q.Ok D w' :=
  ⟨h.len, h.max, h.fa.keep hA hp, h.fb.keep hA hp, fun t ht => (h.ia t ht).keep hA hp, fun t ht => (h.ib t ht).keep hA hp⟩

/-- Are they the same? -/
def Pr.eq (p : Pr) : Bool := sameL (p.xs.map Ft.pl) (p.ys.map Ft.pl)

def Pr.size (p : Pr) : Nat := Tr.sizeL p.xs

theorem pr_flat_length (P : List Pr) : (P.flatMap Pr.cells).length = P.length * 2 := by
  induction P with
  | nil => rfl
  | cons t T ih => simp only [List.flatMap_cons, List.length_append, ih, List.length_cons]; simp [Pr.cells]; omega

theorem pr_flat_at (P : List Pr) : ∀ (i : Nat) (t : Pr) (j : Nat) (u : Value), P[i]? = some t → (Pr.cells t)[j]? = some u → (P.flatMap Pr.cells)[i * 2 + j]? = some u := by
  induction P with
  | nil => intro i t j u h; simp at h
  | cons x T ih =>
    intro i t j u h hu
    rw [List.flatMap_cons]
    cases i with
    | zero =>
      simp at h
      subst h
      have hj : j < 2 := by
        rcases Nat.lt_or_ge j 2 with h | h
        · exact h
        · rw [List.getElem?_eq_none (by simpa [Pr.cells] using h)] at hu; cases hu
      rw [List.getElem?_append_left (by simp [Pr.cells]; omega), Nat.zero_mul, Nat.zero_add]
      exact hu
    | succ i =>
      rw [List.getElem?_append_right (by simp [Pr.cells]; omega)]
      simp only [Pr.cells, List.length_cons, List.length_nil]
      rw [show (i + 1) * 2 + j - (0 + 1 + 1) = i * 2 + j by omega]
      exact ih i t j u (by simpa using h) hu

end Go.Proofs.YtnpcakakjhiboaaDoor
