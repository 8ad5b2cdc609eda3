/- A formula's horizon, or what is wrong with it: plain. No condition. -/
import Derived.Test.YtnpcakakjhiboaaDoorNamP
namespace Go.Proofs.YtnpcakakjhiboaaDoor
open Go

/-- What is wrong with a formula: 23 too big, 22 too deep. -/
def checkF (f : Fm) : Int := if 48 < f.size then 23 else if 12 < f.deep then 22 else first f

/-- Horizon and what is wrong. -/
def horOf (f : Fm) : Int × Int := if checkF f ≠ 0 then (0, checkF f) else if (far f).2 = true then (0, 25) else ((far f).1, 0)

/-- How deep spans are nested, of a sound one. -/
def nestOf (f : Fm) : Int := if first f = 0 then nested f else 0

theorem checkF_sound {f : Fm} (h : checkF f = 0) : sound f ∧ f.size ≤ 48 ∧ f.deep ≤ 12 := by
  unfold checkF at h
  split at h
  · omega
  split at h
  · omega
  exact ⟨(first_zero f).1 h, by omega, by omega⟩

theorem checkF_zero {f : Fm} (h1 : sound f) (h2 : f.size ≤ 48) (h3 : f.deep ≤ 12) : checkF f = 0 := by
  unfold checkF
  rw [if_neg (by omega), if_neg (by omega), (first_zero f).2 h1]

theorem deep_kid {n : Nd} {ks : List Fm} {k : Fm} (hk : k ∈ ks) : k.deep + 1 ≤ (Tr.nd n ks : Fm).deep := by
  simp only [Tr.deep]
  have : k.deep ≤ Tr.deepL ks := by
    clear n
    induction ks with
    | nil => cases hk
    | cons a r ih =>
      simp only [Tr.deepL]
      rcases List.mem_cons.1 hk with rfl | hk
      · omega
      · have := ih hk; omega
  omega

theorem checkF_kid {n : Nd} {ks : List Fm} {k : Fm} (h : checkF (.nd n ks) = 0) (hk : k ∈ ks) : checkF k = 0 := by
  obtain ⟨h1, h2, h3⟩ := checkF_sound h
  have := deep_kid (n := n) hk
  have := Tr.size_kid hk
  simp only [Tr.size] at h2
  exact checkF_zero (sound_kid h1 hk) (by omega) (by omega)

/-- The horizon by what it comes to. -/
theorem horOf_eq (f : Fm) : horOf f = if checkF f ≠ 0 then (0, checkF f) else if top63 < hz f then (0, 25) else (hz f, 0) := by
  unfold horOf
  split
  · rfl
  · rename_i h
    obtain ⟨h1, -, -⟩ := checkF_sound (f := f) (by omega)
    rw [far_eq f h1]
    by_cases h2 : top63 < hz f
    · simp [h2]
    · simp [h2]; omega

theorem horOf_ok {f : Fm} (h : (horOf f).2 = 0) : checkF f = 0 ∧ hz f ≤ top63 ∧ (horOf f).1 = hz f := by
  rw [horOf_eq] at h ⊢
  split at h
  · rename_i h1; exact absurd h h1
  split at h
  · simp at h
  · rename_i h1 h2
    rw [if_neg h1, if_neg h2]
    exact ⟨by omega, by omega, rfl⟩

theorem horOf_no {f : Fm} (h : (horOf f).2 ≠ 0) : (horOf f).1 = 0 := by
  rw [horOf_eq] at h ⊢
  split
  · rfl
  split
  · rfl
  · rename_i h1 h2
    rw [if_neg h1, if_neg h2] at h
    exact absurd rfl h

theorem horOf_mk {f : Fm} (h : checkF f = 0) (h2 : hz f ≤ top63) : horOf f = (hz f, 0) := by
  rw [horOf_eq, if_neg (by omega), if_neg (by omega)]

theorem horOf_past {f : Fm} (h : checkF f = 0) (h2 : top63 < hz f) : horOf f = (0, 25) := by
  rw [horOf_eq, if_neg (by omega), if_pos h2]

theorem horOf_range (f : Fm) : 0 ≤ (horOf f).1 ∧ (horOf f).1 ≤ top63 := by
  rw [horOf_eq]
  have t0 : (0 : Int) ≤ top63 := by decide
  split
  · exact ⟨Int.le_refl _, t0⟩
  split
  · exact ⟨Int.le_refl _, t0⟩
  · rename_i h1 h2
    have := hz_nonneg f (checkF_sound (f := f) (by omega)).1
    exact ⟨this, by show hz f ≤ top63; omega⟩

/-- Kids of a formula with a horizon. -/
theorem kids_hor {n : Nd} {ks : List Fm} (h : (horOf (.nd n ks)).2 = 0) : (∀ k, k ∈ ks → horOf k = (hz k, 0) ∧ hz k ≤ (horOf (.nd n ks)).1) ∧ (horOf (.nd n ks)).1 = maxI (ks.map hz) + n.hi := by
  obtain ⟨h1, h2, h3⟩ := horOf_ok h
  obtain ⟨hs, -, -⟩ := checkF_sound h1
  refine ⟨fun k hk => ?_, ?_⟩
  · have := hz_kid_le (sound_top hs) hk
    exact ⟨horOf_mk (checkF_kid h1 hk) (by omega), by omega⟩
  · rw [h3, hz_nd]
    split
    · rfl
    · obtain ⟨-, -, -, -, h5⟩ := wrong_zero (sound_top hs)
      have := h5 (by omega)
      omega

theorem foldl_maxI (l : List Int) (m : Int) : l.foldl max m = max m (l.foldl max m) := by
  have := (foldl_max_le l m).1
  omega

/-- Some time within a span. -/
theorem span_hor {f : Fm} {lo hi : Int} (hg : checkF (exOne 9 lo hi f) = 0) :
    checkF f = 0 ∧ ((horOf f).2 ≠ 0 → horOf (exOne 9 lo hi f) = (0, (horOf f).2)) ∧
      ((horOf f).2 = 0 → horOf (exOne 9 lo hi f) = if top63 < (horOf f).1 + hi then (0, 25) else ((horOf f).1 + hi, 0)) := by
  unfold exOne at *
  have hc := checkF_kid hg (k := f) (by simp)
  have hz9 : hz (.nd { z0 with op := 9, lo := lo, hi := hi } [f]) = hz f + hi := by
    have := hz_nonneg f (checkF_sound hc).1
    rw [hz_nd]
    simp [maxI]
    omega
  obtain ⟨hsg, -, -⟩ := checkF_sound hg
  have hh : 0 ≤ hi := sound_hi (sound_top hsg)
  refine ⟨hc, fun h => ?_, fun h => ?_⟩
  · have h2 : top63 < hz f := by
      rcases Int.lt_or_le top63 (hz f) with h' | h'
      · exact h'
      · rw [horOf_mk hc h'] at h; exact absurd rfl h
    rw [horOf_past hc h2, horOf_past hg (by rw [hz9]; omega)]
  · obtain ⟨-, h2, h3⟩ := horOf_ok h
    rw [h3]
    split
    · rename_i h4
      rw [horOf_past hg (by rw [hz9]; exact h4)]
    · rename_i h4
      rw [horOf_mk hg (by rw [hz9]; omega), hz9]

/-- Both, one or the other .. -/
theorem two_hor {f g : Fm} {op : Int} (hop : 5 ≤ op ∧ op ≤ 8) (hx : checkF (exTwo op 0 0 f g) = 0) :
    checkF f = 0 ∧ checkF g = 0 ∧ (((horOf f).2 ≠ 0 ∨ (horOf g).2 ≠ 0) → horOf (exTwo op 0 0 f g) = (0, 25)) ∧
      ((horOf f).2 = 0 → (horOf g).2 = 0 → horOf (exTwo op 0 0 f g) = (max (horOf f).1 (horOf g).1, 0)) := by
  unfold exTwo at *
  have hc := checkF_kid hx (k := f) (by simp)
  have hd := checkF_kid hx (k := g) (by simp)
  have hf0 := hz_nonneg f (checkF_sound hc).1
  have hg0 := hz_nonneg g (checkF_sound hd).1
  have hz2 : hz (.nd { z0 with op := op, lo := 0, hi := 0 } [f, g]) = max (hz f) (hz g) := by
    rw [hz_nd, if_neg (by simp only; omega)]
    simp [maxI]
    omega
  refine ⟨hc, hd, fun h => ?_, fun h h' => ?_⟩
  · have h2 : top63 < hz f ∨ top63 < hz g := by
      rcases h with h | h
      · left
        rcases Int.lt_or_le top63 (hz f) with h' | h'
        · exact h'
        · rw [horOf_mk hc h'] at h; exact absurd rfl h
      · right
        rcases Int.lt_or_le top63 (hz g) with h' | h'
        · exact h'
        · rw [horOf_mk hd h'] at h; exact absurd rfl h
    rw [horOf_past hx (by rw [hz2]; omega)]
  · obtain ⟨-, h2, h3⟩ := horOf_ok h
    obtain ⟨-, h4, h5⟩ := horOf_ok h'
    rw [horOf_mk hx (by rw [hz2]; omega), h3, h5, hz2]

theorem two_nested {f g : Fm} {op : Int} (hop : 5 ≤ op ∧ op ≤ 8) : nested (exTwo op 0 0 f g) = max (nested f) (nested g) := by
  unfold exTwo
  have h1 := nested_nonneg f
  have h2 := nested_nonneg g
  rw [nested_nd, if_neg (by simp only; omega)]
  simp [maxI]
  omega

/-- A list without repeats whose elements all stand on another one is no longer. -/
theorem nodup_len {α : Type} [BEq α] [LawfulBEq α] : ∀ {l m : List α}, l.Nodup → (∀ x, x ∈ l → x ∈ m) → l.length ≤ m.length
  | [], m, _, _ => by simp
  | a :: l, m, hn, h => by
    obtain ⟨h1, h2⟩ := List.nodup_cons.1 hn
    have ha := h a (by simp)
    have := nodup_len (l := l) (m := m.erase a) h2 (fun x hx => by
      have hne : x ≠ a := fun e => h1 (e ▸ hx)
      exact (List.mem_erase_of_ne hne).2 (h x (by simp [hx])))
    have hl := List.length_erase_of_mem ha
    have hp := List.length_pos_of_mem ha
    simp only [List.length_cons]
    omega

/-- The names of both. -/
theorem two_names {f g : Fm} {op : Int} (hop : 5 ≤ op ∧ op ≤ 8) (hx : sound (exTwo op 0 0 f g)) (hf : sound f) (hg : sound g) :
    (∀ x, x ∈ namesOf (exTwo op 0 0 f g) → x ∈ namesOf f ∨ x ∈ namesOf g) ∧ (namesOf (exTwo op 0 0 f g)).length ≤ (namesOf f).length + (namesOf g).length ∧
      (namesOf f).length ≤ (namesOf (exTwo op 0 0 f g)).length ∧ (namesOf g).length ≤ (namesOf (exTwo op 0 0 f g)).length := by
  have hm : ∀ x, x ∈ namesOf (exTwo op 0 0 f g) ↔ x ∈ namesOf f ∨ x ∈ namesOf g := fun x => by
    rw [namesOf_mem hx, namesOf_mem hf, namesOf_mem hg]
    exact at_two (by omega)
  have h1 := rises_nodup (namesOf_rises (exTwo op 0 0 f g))
  refine ⟨fun x h => (hm x).1 h, ?_, nodup_len (rises_nodup (namesOf_rises f)) (fun x h => (hm x).2 (.inl h)), nodup_len (rises_nodup (namesOf_rises g)) (fun x h => (hm x).2 (.inr h))⟩
  rw [← List.length_append]
  exact nodup_len h1 (fun x h => by rw [List.mem_append]; exact (hm x).1 h)

theorem namesOf_len (f : Fm) : (namesOf f).length ≤ f.size := by
  have h : (namesOf f).length ≤ (f.pre.map fun n => n.top.nm.data.toList).length := nodup_len (rises_nodup (namesOf_rises f)) (fun x hx => by
    unfold namesOf at hx
    split at hx
    · obtain ⟨n, h1, -, h2⟩ := (namesL_mem _ _).1 hx
      exact List.mem_map.2 ⟨n, h1, h2⟩
    · cases hx)
  rwa [List.length_map, Tr.pre_length] at h

/-- The last line of NormSmall. -/
theorem small_hor {f : Fm} (hs : sound f) (h : (horOf f).2 = 0) : (horOf (normOf f)).2 = 23 ∨ (horOf (normOf f)).2 = 22 ∨ ((horOf (normOf f)).2 = 0 ∧ (horOf (normOf f)).1 ≤ (horOf f).1) := by
  obtain ⟨-, h2, h3⟩ := horOf_ok h
  have h4 : hz (normOf f) ≤ hz f := by rw [normOf_sound hs]; exact hz_made f hs
  have h5 : sound (normOf f) := (normOf_nf hs).sound
  by_cases hc : checkF (normOf f) = 0
  · rw [horOf_mk hc (by omega)]
    exact .inr (.inr ⟨rfl, by rw [h3]; exact h4⟩)
  · rw [horOf_eq, if_pos hc]
    have h6 : checkF (normOf f) = 23 ∨ checkF (normOf f) = 22 := by
      revert hc
      unfold checkF
      rw [(first_zero _).2 h5]
      split
      · exact fun _ => .inl rfl
      split
      · exact fun _ => .inr rfl
      · exact fun h => absurd rfl h
    rcases h6 with h6 | h6
    · exact .inl h6
    · exact .inr (.inl h6)

theorem small_nested {f : Fm} (hs : sound f) : nestOf (normOf f) ≤ nestOf f := by
  unfold nestOf
  rw [if_pos ((first_zero f).2 hs), if_pos ((first_zero _).2 (normOf_nf hs).sound), normOf_sound hs]
  exact ns_made f hs

theorem nested_le (f : Fm) : nested f ≤ f.size := by
  induction f using Tr.ind with
  | h n ks ih =>
    rw [nested_nd]
    simp only [Tr.size]
    have h : maxI (ks.map nested) ≤ (Tr.sizeL ks : Nat) := by
      rcases foldl_max_mem (ks.map nested) 0 with h | h
      · unfold maxI; rw [h]; omega
      · obtain ⟨k, hk, e⟩ := List.mem_map.1 h
        have h1 := ih k hk
        have h2 := Tr.size_kid hk
        unfold maxI
        rw [← e]
        omega
    split <;> push_cast <;> omega

end Go.Proofs.YtnpcakakjhiboaaDoor
