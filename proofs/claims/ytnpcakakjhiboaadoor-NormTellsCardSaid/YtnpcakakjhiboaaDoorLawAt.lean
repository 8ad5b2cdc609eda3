/- Where a law stands: the formulas and the spans that it keeps in boxes. No condition. -/
import Derived.Test.YtnpcakakjhiboaaDoorCore
namespace Go.Proofs.YtnpcakakjhiboaaDoor
open Go.RowKit Go.Lo Go.WideShapes

/-- In whatever block. -/
abbrev AllD : Nat → Prop := fun _ => True

structure LawAt (w : World) (L : List (Nat × TypeId × Ft)) (N : List (Nat × Int × Int)) (W : World) : Prop where
  boxes : ∀ p, p ∈ L → Blk W p.1 (Ft.cells p.2.2).toArray p.2.1 ∧ In AllD W p.2.2
  spans : ∀ p, p ∈ N → Blk W p.1 #[.int .i64 p.2.1, .int .i64 p.2.2] 25
  shapes : Shapes W
  quiet : Quiet w W

theorem LawAt.keep {w : World} {L : List (Nat × TypeId × Ft)} {N : List (Nat × Int × Int)} {W W' : World} (h : LawAt w L N W) (hq : Quiet W W') : LawAt w L N W' :=
  ⟨fun p hp => ⟨hq.blk (h.boxes p hp).1 (by simp), (h.boxes p hp).2.quiet hq⟩, fun p hp => hq.blk (h.spans p hp) (by simp), h.shapes.keep hq (by simp), h.quiet.trans hq⟩

theorem LawAt.zero (w : World) (hS : Shapes w) : LawAt w [] [] w := ⟨by simp, by simp, hS, Alters.refl _⟩

theorem LawAt.box {w : World} {L : List (Nat × TypeId × Ft)} {N : List (Nat × Int × Int)} {W : World} (h : LawAt w L N W) (ty : TypeId) {t : Ft} (hi : In AllD W t) :
    LawAt w ((W.heap.size, ty, t) :: L) N (W.alloc (.cells #[.int .i64 t.top.n.op, .string t.top.n.nm, .int .i64 t.top.n.cmp, .int .i64 t.top.n.val, .int .i64 t.top.n.lo, .int .i64 t.top.n.hi, .slice t.top.a t.kids.length t.top.cap] ty)) := by
  have hq : Quiet W (W.alloc (.cells #[.int .i64 t.top.n.op, .string t.top.n.nm, .int .i64 t.top.n.cmp, .int .i64 t.top.n.val, .int .i64 t.top.n.lo, .int .i64 t.top.n.hi, .slice t.top.a t.kids.length t.top.cap] ty)) := (Alters.refl _).alloc _
  have hk := h.keep hq
  refine ⟨fun p hp => ?_, hk.spans, hk.shapes, hk.quiet⟩
  rcases List.mem_cons.1 hp with rfl | hp
  · exact ⟨Blk.new _ _ _, hi.quiet hq⟩
  · exact hk.boxes p hp

theorem LawAt.span {w : World} {L : List (Nat × TypeId × Ft)} {N : List (Nat × Int × Int)} {W : World} (h : LawAt w L N W) (lo hi : Int) : LawAt w L ((W.heap.size, lo, hi) :: N) (W.alloc (.cells #[.int .i64 lo, .int .i64 hi] 25)) := by
  have hq : Quiet W (W.alloc (.cells #[.int .i64 lo, .int .i64 hi] 25)) := (Alters.refl _).alloc _
  have hk := h.keep hq
  refine ⟨hk.boxes, fun p hp => ?_, hk.shapes, hk.quiet⟩
  rcases List.mem_cons.1 hp with rfl | hp
  · exact Blk.new _ _ _
  · exact hk.spans p hp

theorem LawAt.seven {w : World} {L : List (Nat × TypeId × Ft)} {N : List (Nat × Int × Int)} {W : World} (h : LawAt w L N W) (b : Nat) (ty : TypeId) (t : Ft) (hp : (b, ty, t) ∈ L) :
    W.cell? ⟨b, 0, none⟩ = some (.int .i64 t.top.n.op) ∧ W.cell? ⟨b, 1, none⟩ = some (.string t.top.n.nm) ∧ W.cell? ⟨b, 2, none⟩ = some (.int .i64 t.top.n.cmp) ∧ W.cell? ⟨b, 3, none⟩ = some (.int .i64 t.top.n.val) ∧
      W.cell? ⟨b, 4, none⟩ = some (.int .i64 t.top.n.lo) ∧ W.cell? ⟨b, 5, none⟩ = some (.int .i64 t.top.n.hi) ∧ W.cell? ⟨b, 6, none⟩ = some (.slice t.top.a t.kids.length t.top.cap) := by
  have hb := (h.boxes _ hp).1
  exact ⟨hb.cell 0 rfl, hb.cell 1 rfl, hb.cell 2 rfl, hb.cell 3 rfl, hb.cell 4 rfl, hb.cell 5 rfl, hb.cell 6 rfl⟩

theorem LawAt.two {w : World} {L : List (Nat × TypeId × Ft)} {N : List (Nat × Int × Int)} {W : World} (h : LawAt w L N W) (b : Nat) (lo hi : Int) (hp : (b, lo, hi) ∈ N) : W.cell? ⟨b, 0, none⟩ = some (.int .i64 lo) ∧ W.cell? ⟨b, 1, none⟩ = some (.int .i64 hi) := by
  have hb := h.spans _ hp
  exact ⟨hb.cell 0 rfl, hb.cell 1 rfl⟩

theorem LawAt.inn {w : World} {L : List (Nat × TypeId × Ft)} {N : List (Nat × Int × Int)} {W : World} (h : LawAt w L N W) (b : Nat) (ty : TypeId) (t : Ft) (hp : (b, ty, t) ∈ L) : In AllD W t := (h.boxes _ hp).2

theorem allD {w : World} : ∀ k, w.heap.size ≤ k → AllD k := fun _ _ => trivial

end Go.Proofs.YtnpcakakjhiboaaDoor
