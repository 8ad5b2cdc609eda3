/- The same parts: in plain Lean. No condition. -/
import Derived.Test.YtnpcakakjhiboaaDoorPlanP
import Derived.Test.YtnpcakakjhiboaaDoorNfP
namespace Go.Proofs.YtnpcakakjhiboaaDoor
open Go.RowKit Go.Lo Go.WideShapes

theorem Nf.and_self {f : Fm} (h : Nf f) : nAnd f f = f := by
  unfold nAnd
  split
  · rename_i hor
    have h2 : f.top.op = 2 := by rcases hor with h | h <;> exact h
    clear hor
    rcases f with ⟨x, ks⟩
    obtain ⟨hw, -⟩ := h.own
    simp only [Tr.top] at h2
    obtain ⟨rfl, l1, l2⟩ := leaf_nd hw (.inr (.inl h2))
    have hz := nd_z0 hw (by omega)
    rw [h2, l1, l2] at hz
    rw [hz]; rfl
  split
  · rfl
  split
  · rfl
  · rename_i h3
    exact absurd (.inr (same_self f)) h3

theorem made_two5 (f g : Fm) : made (exTwo 5 0 0 f g) = nAnd (made f) (made g) := by unfold exTwo; rw [made_nd]; simp [become, become2]

theorem planOf_same {f g : Fm} (h : sound f) (h' : sound g) (e : normOf f = normOf g) : planOf f = planOf g := by
  unfold planOf
  rw [if_pos ((first_zero f).2 h), if_pos ((first_zero g).2 h'), e]

theorem plan_norm {f : Fm} (h : sound f) : planOf (normOf f) = planOf f := planOf_same (normOf_nf h).sound h (normOf_twice h)
theorem plan_nn {f : Fm} (h : sound f) : planOf (exOne 4 0 0 (exOne 4 0 0 f)) = planOf f := planOf_same (sound_one4 (sound_one4 h)) h (normOf_nn h)
theorem plan_aa {f : Fm} (h : sound f) : planOf (exTwo 5 0 0 f f) = planOf f := planOf_same (sound_two (.inl rfl) h h) h (by
  rw [normOf_sound (sound_two (.inl rfl) h h), normOf_sound h, made_two5, (made_nf f h).and_self])

theorem planOf_len {f : Fm} : (planOf f).length ≤ 4 * f.size := by
  unfold planOf
  split
  · rename_i h
    have h1 := (first_zero _).1 h
    rw [List.length_map, normOf_sound h1]
    have h2 := parts_len (made f)
    have h3 := made_size _ h1
    omega
  · simp
end Go.Proofs.YtnpcakakjhiboaaDoor
