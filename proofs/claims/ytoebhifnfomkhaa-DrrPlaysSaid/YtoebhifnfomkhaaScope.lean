/- A scope with one label: the way to the label, and the passes from it, one walk for both. No condition. -/
import Derived.Test.YtoebhifnfomkhaaLo
import Derived.ScopeJumps
import Derived.WalkMore
namespace Go.Lo
open Go.RowKit
variable {P : Program} {a : Act} {w : World} {Q : Exit → Act → World → Prop}

theorem jump_mono {l : Nat} {J J' : Act → World → Prop} (h : ∀ a w, J a w → J' a w) : ∀ e a w, Exit.jump l J Q e a w → Exit.jump l J' Q e a w
  | .goto _, _, _, hq => ⟨hq.1, h _ _ hq.2⟩
  | .normal, _, _, hq => hq
  | .exit _, _, _, hq => hq
  | .ret, _, _, hq => hq
  | .panic _, _, _, hq => hq
  | .outgrown, _, _, hq => hq

theorem least {p : Nat → Prop} (h : ∃ m, p m) : ∃ m, p m ∧ ∀ k, p k → m ≤ k := by
  obtain ⟨m, hm⟩ := h
  induction m using Nat.strongRecOn with
  | _ m ih =>
    by_cases hk : ∃ k, k < m ∧ p k
    · obtain ⟨k, hlt, hp⟩ := hk
      exact ih k hlt hp
    · exact ⟨m, hm, fun k hp => Nat.le_of_not_lt fun hlt => hk ⟨k, hlt, hp⟩⟩

open Classical in
/-- The same, with a ghost that tells how many passes are left; both ways speak of what stands behind the label. -/
theorem wp_scope_ghost {β : Type} {c tail : Code} (l : Nat) (J : β → Act → World → Prop) (μ : β → Nat) (hf : findLabel c l = some (Code.seq Code.skip tail))
    (first : (∀ g a w, J g a w → tail.wp P (Exit.jump l (fun a w => ∃ g, J g a w) Q) a w) → c.wp P (Exit.jump l (fun a w => ∃ g, J g a w) Q) a w)
    (pass : ∀ g a w, J g a w → tail.wp P (Exit.jump l (fun a' w' => ∃ g', J g' a' w' ∧ μ g' < μ g) Q) a w) : (Code.scope c).wp P Q a w := by
  refine wp_scope_jumps l (fun a w => ∃ g, J g a w) (fun a w => if h : ∃ m, ∃ g, J g a w ∧ μ g = m then Classical.choose (least h) else 0) hf
    (first fun g a w h => wp_mono (pass g a w h) (jump_mono fun _ _ ⟨g', h', _⟩ => ⟨g', h'⟩)) ?_
  rintro a w ⟨g0, h0⟩
  have hex : ∃ m, ∃ g, J g a w ∧ μ g = m := ⟨_, g0, h0, rfl⟩
  obtain ⟨⟨g, hg, hm⟩, _⟩ := Classical.choose_spec (least hex)
  refine wp_seq (wp_skip ?_)
  refine wp_mono (pass g a w hg) (jump_mono ?_)
  rintro a' w' ⟨g', h', hlt⟩
  have hex' : ∃ m, ∃ g, J g a' w' ∧ μ g = m := ⟨_, g', h', rfl⟩
  refine ⟨⟨g', h'⟩, ?_⟩
  rw [dif_pos hex, dif_pos hex']
  have := (Classical.choose_spec (least hex')).2 _ ⟨g', h', rfl⟩
  omega

end Go.Lo
