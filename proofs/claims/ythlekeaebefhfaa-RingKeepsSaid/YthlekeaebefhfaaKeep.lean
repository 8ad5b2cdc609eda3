/- What RingKeeps's loop holds, in plain Lean: which numbers wait, which were seen. No condition. -/
namespace Go.Proofs.Ythlekeaebefhfaa

def mark (S : Nat → Bool) (x : Nat) : Nat → Bool := fun j => if j = x then true else S j

/-- m numbers were put in; xs wait, in order, above the last one that was taken; all others were seen. -/
structure Keep (m : Nat) (last : Int) (xs : List Int) (S : Nat → Bool) : Prop where
  asc : xs.Pairwise (· < ·)
  bd : ∀ x ∈ xs, last < x ∧ 0 ≤ x ∧ x < m
  seen : ∀ j : Nat, S j = true ↔ (j < m ∧ (j : Int) ∉ xs)
  l0 : -1 ≤ last
  l1 : last < m

theorem Keep.start : Keep 0 (-1) [] (fun _ => false) := ⟨List.Pairwise.nil, by simp, by simp, by omega, by omega⟩

/-- The first one goes: it may be marked. -/
theorem Keep.gone {m : Nat} {last l' : Int} {x : Nat} {xs : List Int} {S : Nat → Bool} (h : Keep m last ((x : Int) :: xs) S) (h1 : last ≤ l') (h2 : l' ≤ x) : S x = false ∧ Keep m l' xs (mark S x) := by
  have ha := List.pairwise_cons.1 h.asc
  have hx := h.bd x (by simp)
  have h0 := h.l0
  refine ⟨?_, ha.2, fun y hy => ?_, fun j => ?_, by omega, by omega⟩
  · cases hs : S x with
    | false => rfl
    | true => have := ((h.seen x).1 hs).2; simp at this
  · have := ha.1 y hy
    have := h.bd y (by simp [hy])
    omega
  · unfold mark
    by_cases e : j = x
    · subst e
      simp only [if_true, true_iff]
      exact ⟨by omega, fun hm => by have := ha.1 _ hm; omega⟩
    · rw [if_neg e, h.seen j]
      have : (j : Int) ≠ x := by omega
      simp [this]

/-- One more is put in behind. -/
theorem Keep.more {m : Nat} {last : Int} {xs : List Int} {S : Nat → Bool} (h : Keep m last xs S) : Keep (m + 1) last (xs ++ [(m : Int)]) S := by
  have hb := h.bd
  have h1 := h.l1
  have h0 := h.l0
  refine ⟨List.pairwise_append.2 ⟨h.asc, List.pairwise_singleton _ _, fun a ha b hb' => ?_⟩, fun x hx => ?_, fun j => ?_, h0, by omega⟩
  · simp at hb'
    subst hb'
    exact (hb a ha).2.2
  · rcases List.mem_append.1 hx with hx | hx
    · have := hb x hx; omega
    · simp at hx; omega
  · rw [h.seen j]
    simp only [List.mem_append, List.mem_singleton, not_or]
    constructor
    · rintro ⟨h1, h2⟩
      exact ⟨by omega, h2, by omega⟩
    · rintro ⟨h1, h2, h3⟩
      exact ⟨by omega, h2⟩

/-- One more is put in, and shed at once. -/
theorem Keep.past {m : Nat} {last : Int} {xs : List Int} {S : Nat → Bool} (h : Keep m last xs S) : S m = false ∧ Keep (m + 1) last xs (mark S m) := by
  have hb := h.bd
  have h1 := h.l1
  have h0 := h.l0
  have hm : (m : Int) ∉ xs := fun hx => by have := hb _ hx; omega
  refine ⟨?_, h.asc, fun x hx => by have := hb x hx; omega, fun j => ?_, h0, by omega⟩
  · cases hs : S m with
    | false => rfl
    | true => have := ((h.seen m).1 hs).1; omega
  · unfold mark
    by_cases e : j = m
    · subst e
      simp [hm]
    · rw [if_neg e, h.seen j]
      constructor
      · rintro ⟨h1, h2⟩; exact ⟨by omega, h2⟩
      · rintro ⟨h1, h2⟩; exact ⟨by omega, h2⟩

theorem Keep.nat {m : Nat} {last x : Int} {xs : List Int} {S : Nat → Bool} (h : Keep m last (x :: xs) S) : ∃ k : Nat, x = k ∧ k < m ∧ last < x := by
  have := h.bd x (by simp)
  exact ⟨x.toNat, by omega, by omega, by omega⟩

theorem Keep.all {m : Nat} {last : Int} {S : Nat → Bool} (h : Keep m last [] S) {j : Nat} (hj : j < m) : S j = true := (h.seen j).2 ⟨hj, by simp⟩
end Go.Proofs.Ythlekeaebefhfaa
