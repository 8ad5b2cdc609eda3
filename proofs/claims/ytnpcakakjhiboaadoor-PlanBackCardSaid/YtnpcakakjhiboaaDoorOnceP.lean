/- The parts of a formula: no two steps alike, each but the last one named, no more than nodes. No condition. -/
import Derived.Test.YtnpcakakjhiboaaDoorPlan56
import Derived.Test.YtnpcakakjhiboaaDoorPlanQ
namespace Go.Proofs.YtnpcakakjhiboaaDoor
open Go Go.RowKit Go.Lo Go.WideShapes

theorem planOf_parts {f : Fm} (h : sound f) : planOf f = (partsOf (normOf f)).map (stepOf (partsOf (normOf f))) := by
  unfold planOf
  rw [if_pos ((first_zero f).2 h)]

theorem parts_kids {f : Fm} (h : sound f) {u : Fm} (hu : u ∈ partsOf (normOf f)) : u.kids.length = kidsOf u.top.op :=
  kids_of ((normOf_nf h).sound u ((parts_mem _ _).1 hu))

theorem at_mem {α : Type} {l : List α} {i : Nat} {x : α} (h : l[i]? = some x) : x ∈ l := List.mem_of_getElem? h

theorem once_ne {f : Fm} (h : sound f) {i k : Nat} {x y : Stp} (hi : (planOf f)[i]? = some x) (hk : (planOf f)[k]? = some y) (hne : i ≠ k) : x ≠ y := by
  rintro rfl
  rw [planOf_parts h, List.getElem?_map] at hi hk
  obtain ⟨u, hu, e1⟩ := Option.map_eq_some_iff.1 hi
  obtain ⟨v, hv, e2⟩ := Option.map_eq_some_iff.1 hk
  have hc := parts_closed (normOf f)
  have := stepOf_inj (fun k hk => hc.mem (at_mem hu) hk) (fun k hk => hc.mem (at_mem hv) hk) (parts_kids h (at_mem hu)) (parts_kids h (at_mem hv)) (e1.trans e2.symm)
  subst this
  exact hne (nodup_at hc.nodup hu hv)

theorem place_at {U : List Fm} (hc : Closed U) {i : Nat} {s : Fm} (h : U[i]? = some s) : place U s = (i : Int) := by
  have hm := at_mem h
  rw [(place_mem hm).1, nodup_at hc.nodup (place_get hm) h]

theorem once_named {f : Fm} (h : sound f) {i : Nat} (hi : i + 1 < (planOf f).length) : ∃ k y, i < k ∧ (planOf f)[k]? = some y ∧ (y.a = (i : Int) ∨ y.b = (i : Int)) := by
  have hc := parts_closed (normOf f)
  rw [planOf_parts h, List.length_map] at hi
  obtain ⟨s, hs⟩ : ∃ s, (partsOf (normOf f))[i]? = some s := ⟨_, List.getElem?_eq_getElem (by omega)⟩
  obtain ⟨j, u, hj, hu, hk⟩ := parts_named (normOf f) hs hi
  refine ⟨j, stepOf (partsOf (normOf f)) u, hj, by rw [planOf_parts h, List.getElem?_map, hu]; rfl, ?_⟩
  have h2 : u.kids.length ≤ 2 := by rw [parts_kids h (at_mem hu)]; exact kids_le2 _
  obtain ⟨q, hq⟩ := List.getElem?_of_mem hk
  have hq2 : q < u.kids.length := by
    rcases Nat.lt_or_ge q u.kids.length with h' | h'
    · exact h'
    · rw [List.getElem?_eq_none h'] at hq; cases hq
  have e : kidAt (partsOf (normOf f)) u q = (i : Int) := by rw [kidAt_some hq, place_at hc hs]
  rcases q with _ | _ | q
  · exact .inl e
  · exact .inr e
  · omega

theorem once_len {f : Fm} (h : sound f) : 0 < (planOf f).length ∧ (planOf f).length ≤ (normOf f).size := by
  rw [planOf_parts h, List.length_map]
  exact ⟨List.length_pos_iff.2 (parts_ne _), parts_len _⟩

theorem step_if {α : Type} {x y : Stp} (h : x ≠ y) {A B : α} : (if x.n.op = y.n.op then if x.n.nm.toList = y.n.nm.toList then if x.n.cmp = y.n.cmp then if x.n.val = y.n.val then if x.n.lo = y.n.lo then if x.n.hi = y.n.hi then if x.a = y.a then if x.b = y.b then A else B else B else B else B else B else B else B else B) = B := by
  split
  · rename_i h1
    split
    · rename_i h2
      split
      · rename_i h3
        split
        · rename_i h4
          split
          · rename_i h5
            split
            · rename_i h6
              split
              · rename_i h7
                split
                · rename_i h8
                  exfalso
                  apply h
                  have h2' : x.n.nm = y.n.nm := by rw [ByteArray.toList_eq, ByteArray.toList_eq] at h2; exact bytes_inj h2
                  obtain ⟨⟨a1, a2, a3, a4, a5, a6⟩, a7, a8⟩ := x
                  obtain ⟨⟨b1, b2, b3, b4, b5, b6⟩, b7, b8⟩ := y
                  simp only at h1 h2' h3 h4 h5 h6 h7 h8
                  rw [h1, h2', h3, h4, h5, h6, h7, h8]
                · rfl
              · rfl
            · rfl
          · rfl
        · rfl
      · rfl
    · rfl
  · rfl

theorem named_step {Y : List Stp} {i k : Nat} {n : Prop} {c c' : Bool} {y : Stp} (hy : Y[k]? = some y) (hik : i < k)
    (hc : c = true ↔ (n ∨ ∃ (q : Nat) (y : Stp), i < q ∧ q < k ∧ Y[q]? = some y ∧ (y.a = (i : Int) ∨ y.b = (i : Int)))) (e : c' = (c || (y.a == (i : Int)) || (y.b == (i : Int)))) :
    c' = true ↔ (n ∨ ∃ (q : Nat) (y : Stp), i < q ∧ q < k + 1 ∧ Y[q]? = some y ∧ (y.a = (i : Int) ∨ y.b = (i : Int))) := by
  rw [e, Bool.or_eq_true, Bool.or_eq_true, hc, beq_iff_eq, beq_iff_eq]
  constructor
  · rintro (((h | ⟨q, z, h1, h2, h3⟩) | h) | h)
    · exact .inl h
    · exact .inr ⟨q, z, h1, by omega, h3⟩
    · exact .inr ⟨k, y, hik, by omega, hy, .inl h⟩
    · exact .inr ⟨k, y, hik, by omega, hy, .inr h⟩
  · rintro (h | ⟨q, z, h1, h2, h3, h4⟩)
    · exact .inl (.inl (.inl h))
    · rcases Nat.lt_or_ge q k with h' | h'
      · exact .inl (.inl (.inr ⟨q, z, h1, h', h3, h4⟩))
      · obtain rfl : q = k := by omega
        rw [hy] at h3
        obtain rfl := Option.some.inj h3
        rcases h4 with h4 | h4
        · exact .inl (.inr h4)
        · exact .inr h4

end Go.Proofs.YtnpcakakjhiboaaDoor
