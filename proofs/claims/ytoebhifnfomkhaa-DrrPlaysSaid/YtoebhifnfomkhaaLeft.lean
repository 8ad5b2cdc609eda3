/- The walk of Left: a copy of the deficits. No condition. -/
import Derived.Test.YtoebhifnfomkhaaNew
import Derived.Laws.AppendOwn
import Derived.Test.YtoebhifnfomkhaaOpen
import Derived.OwnWalk
namespace Go.Proofs.Ytoebhifnfomkhaa
open Go.RowKit Go.Lo Go.WideShapes

/-- A slice of n numbers in memory. -/
def RowAt (w : World) (v : Value) (n : Nat) (f : Nat → Int) : Prop := ∃ g cap, v = .slice (some ⟨g, 0, none⟩) n cap ∧ ∀ i, i < n → w.cell? ⟨g, i, none⟩ = some (.int .i64 (f i))

set_option maxHeartbeats 1000000 in
theorem clone_walk (b n : Nat) (f : Nat → Int) (w : World) (hn : 1 ≤ n) (h8 : n ≤ 8) (hb : b < w.heap.size) (hc : ∀ i, i < n → w.cell? ⟨b, i, none⟩ = some (.int .i64 (f i))) :
    Calls Try.prog 18 #[.slice (some ⟨b, 0, none⟩) n n] w fun e w' => ∃ v, e = .returned v ∧ RowAt w' v n f ∧ Quiet w w' := by
  have HC := Go.Lib.hid hc
  clear hc
  have hnil := fun w => Go.Lib.run_eql_slice_nil (P := Try.prog) w 22 3 (some ⟨b, 0, none⟩) n n 0 0 Try.underlying22
  obtain ⟨i0, hi, hz0, hz1, hz2⟩ := info_parts info3
  have HI := Go.Lib.hid (And.intro hi (And.intro hz0 (And.intro hz1 hz2)))
  clear hi hz0 hz1 hz2
  go_enter Try.func18, Try.ntmps18
  obtain ⟨hi, hz0, hz1, hz2⟩ := HI.out
  go_wp2_with (at_builtin; refine wpList_append_own _ rfl (.tmp 5) (.tmp 6) 22 rfl w.heap.size 3 i0 (.int .i64 0) 1 8 Try.underlying22 hi hz0 hz1 hz2 rfl (by decide) (.slice (some ⟨w.heap.size, 0, none⟩) 0 0) 0 [] rfl (World.ownsRow_made w #[] 0 (Nat.le_refl _) (by unfold maxLen; omega) rfl) ⟨b, 0, none⟩ n n ((List.range n).map fun i => .int .i64 (f i)) rfl ?c0 ?c1 ?c2 ?c4 ?c5 ?c6 ?c3)
  case c0 => simp
  case c4 => unfold maxLen; omega
  case c5 => omega
  case c6 => simp
  case c1 =>
    intro j u hu
    obtain ⟨hj, rfl⟩ : j < n ∧ u = .int .i64 (f j) := by
      have hj : j < n := by
        rcases Nat.lt_or_ge j n with h | h
        · exact h
        · rw [List.getElem?_eq_none (by simpa using h)] at hu; simp at hu
      simp [hj] at hu
      exact ⟨hj, hu.symm⟩
    rw [add_plain, Nat.zero_add, World.cell?_alloc_old _ _ _ (by simpa using Nat.ne_of_lt hb)]
    exact HC.out j hj
  case c2 =>
    intro u hu
    obtain ⟨i, _, rfl⟩ := List.mem_map.1 hu
    rfl
  case c3 =>
    intro v' w' hown hgrow hnil'
    clear hi hz0 hz1 hz2 hnil
    have HO := Go.Lib.hid hown
    have HG := Go.Lib.hid hgrow
    have HN := Go.Lib.hid hnil'
    clear hown hgrow hnil'
    go_wp2
    go_ret
    refine ⟨v', rfl, ?_, ?_⟩
    · rcases HO.out with ⟨hlen, ⟨hv, h0⟩ | ⟨g, cap', cur, rfl, hg, hh, hc1, hc2, hc3, htake⟩⟩
      · omega
      · refine ⟨g, cap', rfl, fun i hi => ?_⟩
        have := HO.out.cells (g := g) rfl i (.int .i64 (f i)) (by simp [hi])
        rw [add_plain, Nat.zero_add] at this
        exact this
    · refine ((Alters.refl w).alloc _).grown HG.out (fun k e h => ?_)
      simp [Value.ownBlock] at e
      omega

theorem left_walk (bd bg bl : Nat) (d : D) (w : World) (h : IsDrr w bd bg bl d) (n1 : 1 ≤ d.n) (n8 : d.n ≤ 8) :
    Calls Try.prog 12 #[.pointer (some ⟨bd, 0, none⟩)] w fun e w' => ∃ v, e = .returned v ∧ RowAt w' v d.n d.f ∧ Quiet w w' := by
  obtain ⟨-, h1, -, -⟩ := h.cells
  have hC := clone_walk bl d.n d.f w n1 n8 h.left.lt (fun i hi => h.left.cell i (ints_at _ _ _ hi))
  have HC := Go.Lib.hid hC
  clear hC h
  go_enter Try.func12, Try.ntmps12
  go_wp2_with (go_at_call 18; refine HC.out.mono ?_; rintro e w' ⟨v, rfl, hr, hq⟩)
  go_ret
  exact ⟨_, rfl, hr, hq⟩
end Go.Proofs.Ytoebhifnfomkhaa
