/- A formula built anew from its parts: plain. No condition. -/
import Derived.Test.YtnpcakakjhiboaaDoorOnceP
namespace Go.Proofs.YtnpcakakjhiboaaDoor
open Go Go.RowKit Go.Lo Go.WideShapes

/-- A list of steps tells a list of formulas, each of which has its kids ahead of it. -/
structure Backs (Y : List Stp) (U : List Fm) : Prop where
  eq : Y = U.map (stepOf U)
  closed : Closed U
  kids : ∀ t, t ∈ U → t.kids.length ≤ 2

theorem backs_of {f : Fm} (h : sound f) : Backs (planOf f) (partsOf (normOf f)) :=
  ⟨planOf_parts h, parts_closed _, fun t ht => by rw [parts_kids h ht]; exact kids_le2 _⟩

theorem Backs.len {Y : List Stp} {U : List Fm} (h : Backs Y U) : Y.length = U.length := by rw [h.eq, List.length_map]

theorem Backs.kid {Y : List Stp} {U : List Fm} (h : Backs Y U) {i : Nat} {t k : Fm} (ht : U[i]? = some t) {j : Nat} (hj : t.kids[j]? = some k) : ∃ p : Nat, kidAt U t j = (p : Int) ∧ p < i ∧ U[p]? = some k := by
  have hk : k ∈ t.kids := List.mem_of_getElem? hj
  obtain ⟨h1, h2⟩ := h.closed.ahead ht hk
  have hm : k ∈ U := List.mem_of_mem_take (h.closed.kids i t ht k hk)
  obtain ⟨h3, -⟩ := place_mem hm
  exact ⟨U.idxOf k, by rw [kidAt_some hj, h3], by omega, place_get hm⟩

theorem Backs.cases {Y : List Stp} {U : List Fm} (h : Backs Y U) {i : Nat} {x : Stp} (hx : Y[i]? = some x) : ∃ t, U[i]? = some t ∧ x.n = t.top ∧
    ((t.kids = [] ∧ x.a = -1 ∧ x.b = -1) ∨ (∃ (k : Fm) (p : Nat), t.kids = [k] ∧ x.a = (p : Int) ∧ p < i ∧ U[p]? = some k ∧ x.b = -1) ∨
      ∃ (k l : Fm) (p q : Nat), t.kids = [k, l] ∧ x.a = (p : Int) ∧ p < i ∧ U[p]? = some k ∧ x.b = (q : Int) ∧ q < i ∧ U[q]? = some l) := by
  rw [h.eq, List.getElem?_map] at hx
  obtain ⟨t, ht, rfl⟩ := Option.map_eq_some_iff.1 hx
  refine ⟨t, ht, rfl, ?_⟩
  have h2 := h.kids t (List.mem_of_getElem? ht)
  have hk := fun (j : Nat) (k : Fm) (hj : t.kids[j]? = some k) => h.kid ht hj
  rcases e : t.kids with _ | ⟨k, _ | ⟨l, _ | ⟨m, r⟩⟩⟩
  · exact .inl ⟨rfl, kidAt_none (by rw [e]; simp), kidAt_none (by rw [e]; simp)⟩
  · obtain ⟨p, h3, h4, h5⟩ := hk 0 k (by rw [e]; rfl)
    exact .inr (.inl ⟨k, p, rfl, h3, h4, h5, kidAt_none (by rw [e]; simp)⟩)
  · obtain ⟨p, h3, h4, h5⟩ := hk 0 k (by rw [e]; rfl)
    obtain ⟨q, h6, h7, h8⟩ := hk 1 l (by rw [e]; rfl)
    exact .inr (.inr ⟨k, l, p, q, rfl, h3, h4, h5, h6, h7, h8⟩)
  · rw [e] at h2
    simp at h2

theorem size_1 {t k : Fm} (h : t.kids = [k]) : (t.size : Int) = 1 + (k.size : Int) := by
  cases t; simp only [Tr.kids] at h; subst h; simp [Tr.size, Tr.sizeL]
theorem size_0 {t : Fm} (h : t.kids = []) : (t.size : Int) = 1 := by
  cases t; simp only [Tr.kids] at h; subst h; simp [Tr.size, Tr.sizeL]
theorem size_2 {t k l : Fm} (h : t.kids = [k, l]) : (t.size : Int) = 1 + (k.size : Int) + (l.size : Int) := by
  cases t; simp only [Tr.kids] at h; subst h; simp [Tr.size, Tr.sizeL]; omega

theorem parts_size {f u : Fm} (hu : u ∈ partsOf f) : u.size ≤ f.size := Tr.pre_size ((parts_mem _ _).1 hu)

theorem back_last {f : Fm} (h : sound f) : (partsOf (normOf f))[(planOf f).length - 1]? = some (normOf f) := by
  rw [planOf_parts h, List.length_map]
  exact parts_at_last _

theorem top_nd (t : Fm) : t = .nd t.top t.kids := by cases t; rfl

end Go.Proofs.YtnpcakakjhiboaaDoor
