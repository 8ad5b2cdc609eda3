/- The model's own cases, told of values. No condition. No kids' row lies in a box that is still empty. No condition. -/
import Derived.Test.YtnpcakakjhiboaaDoorRef14b
import Derived.Test.YtnpcakakjhiboaaDoorForm
import Derived.Test.YtnpcakakjhiboaaDoorNorm2
namespace Go.Proofs.YtnpcakakjhiboaaDoor
open Go.RowKit Go.Lo Go.WideShapes

/-- A value is a formula; it lies in blocks of which D tells. -/
def MadeIn (D : Nat → Prop) (f : Fm) (v : Value) (w : World) : Prop := ∃ t, v = Ft.val t ∧ Ft.pl t = f ∧ In D w t

/-- A call gives a formula, and touches nothing that was there. -/
def Gives (D : Nat → Prop) (f : Fm) (w : World) (e : Ending) (w' : World) : Prop := ∃ v, e = .returned v ∧ MadeIn D f v w' ∧ Quiet w w'

theorem MadeIn.quiet {D : Nat → Prop} {f : Fm} {v : Value} {w w' : World} (h : MadeIn D f v w) (hq : Quiet w w') : MadeIn D f v w' := by
  obtain ⟨t, h1, h2, h3⟩ := h
  exact ⟨t, h1, h2, h3.quiet hq⟩

theorem MadeIn.mono {D D' : Nat → Prop} {f : Fm} {v : Value} {w : World} (h : MadeIn D f v w) (hd : ∀ k, k < w.heap.size → D k → D' k) : MadeIn D' f v w := by
  obtain ⟨t, h1, h2, h3⟩ := h
  exact ⟨t, h1, h2, h3.mono hd⟩

theorem In.cut {D : Nat → Prop} {w : World} {t : Ft} (h : In D w t) : In (fun k => D k ∧ k < w.heap.size) w t := h.mono (fun _ hk hd => ⟨hd, hk⟩)

theorem gives_of {D : Nat → Prop} {f : Fm} {w w' : World} {e : Ending} (hD : ∀ k, w.heap.size ≤ k → D k) (h : Makes (fun k => D k ∧ k < w.heap.size) f w e w') : Gives D f w e w' := by
  obtain ⟨t, rfl, h2, h3, h4⟩ := h
  exact ⟨_, rfl, ⟨t, rfl, h2, h3.mono (fun k _ hk => hk.elim (fun h => h.1) (hD k))⟩, h4⟩

theorem has4_top {t : Ft} (h : Has4 (Ft.pl t)) : t.top.n.op = 4 → t.kids ≠ [] := fun e hn => by
  have := h.own (by rw [pl_op2]; exact e)
  rw [pl_kids, hn] at this
  exact this rfl

section
variable {D : Nat → Prop} {f g : Fm} {v u : Value} {w : World} (hD : ∀ k, w.heap.size ≤ k → D k)
include hD

theorem not14_v (h : MadeIn D f v w) (h4 : Has4 f) : Calls Tryd.prog 99 #[v] w (Gives D (nNot f) w) := by
  obtain ⟨t, rfl, rfl, h3⟩ := h
  exact (not14_walk _ t w h3.cut (has4_top h4)).mono fun _ _ h => gives_of hD h

theorem and14_v (h : MadeIn D f v w) (h2 : MadeIn D g u w) : Calls Tryd.prog 101 #[v, u] w (Gives D (nAnd f g) w) := by
  obtain ⟨t, rfl, rfl, h3⟩ := h
  obtain ⟨s, rfl, rfl, h5⟩ := h2
  exact (and14_walk _ t s w h3.cut h5.cut).mono fun _ _ h => gives_of hD h

theorem iff14_v (h : MadeIn D f v w) (h2 : MadeIn D g u w) (h4 : Has4 f) (h4' : Has4 g) : Calls Tryd.prog 102 #[v, u] w (Gives D (nIff f g) w) := by
  obtain ⟨t, rfl, rfl, h3⟩ := h
  obtain ⟨s, rfl, rfl, h5⟩ := h2
  exact (iff14_walk _ t s w (fun k h => h.2) h3.cut h5.cut (has4_top h4) (has4_top h4')).mono fun _ _ h => gives_of hD h

theorem ev14_v {lo hi : Int} (h : MadeIn D f v w) : Calls Tryd.prog 100 #[.int .i64 lo, .int .i64 hi, v] w (Gives D (nEv lo hi f) w) := by
  obtain ⟨t, rfl, rfl, h3⟩ := h
  exact (ev14_walk _ t lo hi w h3.cut).mono fun _ _ h => gives_of hD h

theorem un14_v {lo hi : Int} (h : MadeIn D f v w) (h2 : MadeIn D g u w) : Calls Tryd.prog 103 #[.int .i64 lo, .int .i64 hi, v, u] w (Gives D (nUn lo hi f g) w) := by
  obtain ⟨t, rfl, rfl, h3⟩ := h
  obtain ⟨s, rfl, rfl, h5⟩ := h2
  exact (un14_walk _ t s lo hi w (fun k h => h.2) h3.cut h5.cut).mono fun _ _ h => gives_of hD h

theorem not8_v (h : MadeIn D f v w) (h4 : Has4 f) : Calls Tryd.prog 139 #[v] w (Gives D (nNot f) w) := by
  obtain ⟨t, rfl, rfl, h3⟩ := h
  exact (not8_walk _ t w h3.cut (has4_top h4)).mono fun _ _ h => gives_of hD h

theorem ev8_v {m : Ft} (h : MadeIn D f v w) : Calls Tryd.prog 145 #[m.val, v] w (Gives D (nEv m.top.n.lo m.top.n.hi f) w) := by
  obtain ⟨t, rfl, rfl, h3⟩ := h
  exact (ev8_walk _ m t w h3.cut).mono fun _ _ h => gives_of hD h

theorem un8_v {m : Ft} (h : MadeIn D f v w) (h2 : MadeIn D g u w) : Calls Tryd.prog 147 #[m.val, v, u] w (Gives D (nUn m.top.n.lo m.top.n.hi f g) w) := by
  obtain ⟨t, rfl, rfl, h3⟩ := h
  obtain ⟨s, rfl, rfl, h5⟩ := h2
  exact (un8_walk _ m t s w (fun k h => h.2) h3.cut h5.cut).mono fun _ _ h => gives_of hD h
end

end Go.Proofs.YtnpcakakjhiboaaDoor

namespace Go.Proofs.YtnpcakakjhiboaaDoor
open Go.RowKit Go.Lo Go.WideShapes

theorem At0 {w : World} {b b2 o : Nat} {t : Ft} {ty : TypeId} (h : AtP w b2 o t) (hb : Blk w b #[.int .i64 0, .string ⟨#[]⟩, .int .i64 0, .int .i64 0, .int .i64 0, .int .i64 0, .slice none 0 0] ty) (h0 : t.top.n.op ≠ 0) : b2 ≠ b := by
  rintro rfl
  obtain ⟨d0, -, -, -, -, -, d6⟩ := h.seven
  have e0 : w.cell? ⟨b2, o, none⟩ = (#[.int .i64 0, .string ⟨#[]⟩, .int .i64 0, .int .i64 0, .int .i64 0, .int .i64 0, .slice none 0 0] : Array Value)[o]? := by
    have hb' := hb
    unfold Blk at hb'
    simp [World.cell?, hb']
  have e6 : w.cell? ⟨b2, o + 6, none⟩ = (#[.int .i64 0, .string ⟨#[]⟩, .int .i64 0, .int .i64 0, .int .i64 0, .int .i64 0, .slice none 0 0] : Array Value)[o + 6]? := by
    have hb' := hb
    unfold Blk at hb'
    simp [World.cell?, hb']
  rw [d0] at e0
  rw [d6] at e6
  rcases o with _ | o
  · simp at e0
    exact h0 e0
  · simp at e6

theorem In.avoid {D : Nat → Prop} {w : World} {b : Nat} {ty : TypeId} {t : Ft} (h : In D w t) (hb : Blk w b #[.int .i64 0, .string ⟨#[]⟩, .int .i64 0, .int .i64 0, .int .i64 0, .int .i64 0, .slice none 0 0] ty) : (∀ n, n ∈ t.pre → n.top.n.op ≠ 0) → In (fun k => D k ∧ k ≠ b) w t := by
  induction h with
  | nd x ks hl hf _ ih =>
    intro h0
    have hk0 : ∀ k, k ∈ ks → ∀ n, n ∈ k.pre → n.top.n.op ≠ 0 := fun k hk n hn => h0 n (by
      simp only [Tr.pre, Tr.preL_eq]
      exact List.mem_cons_of_mem _ (List.mem_flatMap.2 ⟨k, hk, hn⟩))
    refine .nd _ _ hl (fun hn => ?_) (fun k hk => ih k hk (hk0 k hk))
    obtain ⟨b2, o, e, hD, hc⟩ := hf hn
    refine ⟨b2, o, e, ⟨hD, ?_⟩, hc⟩
    cases ks with
    | nil => exact absurd rfl hn
    | cons k r => exact At0 (by simpa using hc 0 k rfl) hb (hk0 k (by simp) k (by cases k; simp [Tr.pre]))
end Go.Proofs.YtnpcakakjhiboaaDoor
