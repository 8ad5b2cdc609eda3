/- The model's own cases, told of values. No condition. -/
import Derived.Test.YtnpcakakjhiboaaDoorMem
import Derived.Test.YtnpcakakjhiboaaDoorRef14b
import Derived.Test.YtnpcakakjhiboaaDoorForm
import Derived.Test.YtnpcakakjhiboaaDoorNorm2
namespace Go.Proofs.YtnpcakakjhiboaaDoor
open Go.RowKit Go.Lo Go.WideShapes

theorem gives_of {D : Nat → Prop} {f : Fm} {w w' : World} {e : Ending} (hD : ∀ k, w.heap.size ≤ k → D k) (h : Makes (fun k => D k ∧ k < w.heap.size) f w e w') : Gives D f w e w' := by
  obtain ⟨t, rfl, h2, h3, h4⟩ := h
  exact ⟨_, rfl, ⟨t, rfl, h2, h3.mono (fun k _ hk => hk.elim (fun h => h.1) (hD k))⟩, h4⟩

theorem has4_top {t : Ft} (h : Has4 (Ft.pl t)) : t.top.n.op = 4 → t.kids ≠ [] := fun e hn => by
  have := h.own (by rw [pl_op2]; exact e)
  rw [pl_kids, hn] at this
  exact this rfl

section
variable {D : Nat → Prop} {f g : Fm} {v u : Value} {w : World} (hD : ∀ k, w.heap.size ≤ k → D k)
include hD

theorem not14_v (h : MadeIn D f v w) (h4 : Has4 f) : Calls Tryd.prog 99 #[v] w (Gives D (nNot f) w) := by
  obtain ⟨t, rfl, rfl, h3⟩ := h
  exact (not14_walk _ t w h3.cut (has4_top h4)).mono fun _ _ h => gives_of hD h

theorem and14_v (h : MadeIn D f v w) (h2 : MadeIn D g u w) : Calls Tryd.prog 101 #[v, u] w (Gives D (nAnd f g) w) := by
  obtain ⟨t, rfl, rfl, h3⟩ := h
  obtain ⟨s, rfl, rfl, h5⟩ := h2
  exact (and14_walk _ t s w h3.cut h5.cut).mono fun _ _ h => gives_of hD h

theorem iff14_v (h : MadeIn D f v w) (h2 : MadeIn D g u w) (h4 : Has4 f) (h4' : Has4 g) : Calls Tryd.prog 102 #[v, u] w (Gives D (nIff f g) w) := by
  obtain ⟨t, rfl, rfl, h3⟩ := h
  obtain ⟨s, rfl, rfl, h5⟩ := h2
  exact (iff14_walk _ t s w (fun k h => h.2) h3.cut h5.cut (has4_top h4) (has4_top h4')).mono fun _ _ h => gives_of hD h

theorem ev14_v {lo hi : Int} (h : MadeIn D f v w) : Calls Tryd.prog 100 #[.int .i64 lo, .int .i64 hi, v] w (Gives D (nEv lo hi f) w) := by
  obtain ⟨t, rfl, rfl, h3⟩ := h
  exact (ev14_walk _ t lo hi w h3.cut).mono fun _ _ h => gives_of hD h

theorem un14_v {lo hi : Int} (h : MadeIn D f v w) (h2 : MadeIn D g u w) : Calls Tryd.prog 103 #[.int .i64 lo, .int .i64 hi, v, u] w (Gives D (nUn lo hi f g) w) := by
  obtain ⟨t, rfl, rfl, h3⟩ := h
  obtain ⟨s, rfl, rfl, h5⟩ := h2
  exact (un14_walk _ t s lo hi w (fun k h => h.2) h3.cut h5.cut).mono fun _ _ h => gives_of hD h

theorem not8_v (h : MadeIn D f v w) (h4 : Has4 f) : Calls Tryd.prog 139 #[v] w (Gives D (nNot f) w) := by
  obtain ⟨t, rfl, rfl, h3⟩ := h
  exact (not8_walk _ t w h3.cut (has4_top h4)).mono fun _ _ h => gives_of hD h

theorem ev8_v {m : Ft} (h : MadeIn D f v w) : Calls Tryd.prog 145 #[m.val, v] w (Gives D (nEv m.top.n.lo m.top.n.hi f) w) := by
  obtain ⟨t, rfl, rfl, h3⟩ := h
  exact (ev8_walk _ m t w h3.cut).mono fun _ _ h => gives_of hD h

theorem un8_v {m : Ft} (h : MadeIn D f v w) (h2 : MadeIn D g u w) : Calls Tryd.prog 147 #[m.val, v, u] w (Gives D (nUn m.top.n.lo m.top.n.hi f g) w) := by
  obtain ⟨t, rfl, rfl, h3⟩ := h
  obtain ⟨s, rfl, rfl, h5⟩ := h2
  exact (un8_walk _ m t s w (fun k h => h.2) h3.cut h5.cut).mono fun _ _ h => gives_of hD h
end

end Go.Proofs.YtnpcakakjhiboaaDoor
