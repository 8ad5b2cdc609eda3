/- Where a law stands: the formulas and the spans that it keeps in boxes. No condition. A law's box that was drawn ahead of the formula that is laid into it. No condition. -/
import Derived.Test.YtnpcakakjhiboaaDoorEach
import Derived.Test.YtnpcakakjhiboaaDoorMem
import Derived.Test.YtnpcakakjhiboaaDoorNfP
namespace Go.Proofs.YtnpcakakjhiboaaDoor
open Go.RowKit Go.Lo Go.WideShapes

/-- In whatever block. -/
abbrev AllD : Nat → Prop := fun _ => True

structure LawAt (w : World) (L : List (Nat × TypeId × Ft)) (N : List (Nat × Int × Int)) (W : World) : Prop where
  boxes : ∀ p, p ∈ L → Blk W p.1 (Ft.cells p.2.2).toArray p.2.1 ∧ In AllD W p.2.2
  spans : ∀ p, p ∈ N → Blk W p.1 #[.int .i64 p.2.1, .int .i64 p.2.2] 25
  shapes : Shapes W
  quiet : Quiet w W

theorem LawAt.keep {w : World} {L : List (Nat × TypeId × Ft)} {N : List (Nat × Int × Int)} {W W' : World} (h : LawAt w L N W) (hq : Quiet W W') : LawAt w L N W' :=
  ⟨fun p hp => ⟨hq.blk (h.boxes p hp).1 (by simp), (h.boxes p hp).2.quiet hq⟩, fun p hp => hq.blk (h.spans p hp) (by simp), h.shapes.keep hq (by simp), h.quiet.trans hq⟩

theorem LawAt.zero (w : World) (hS : Shapes w) : LawAt w [] [] w := ⟨by simp, by simp, hS, Alters.refl _⟩

theorem LawAt.box {w : World} {L : List (Nat × TypeId × Ft)} {N : List (Nat × Int × Int)} {W : World} (h : LawAt w L N W) (ty : TypeId) {t : Ft} (hi : In AllD W t) :
    LawAt w ((W.heap.size, ty, t) :: L) N (W.alloc (.cells #[.int .i64 t.top.n.op, .string t.top.n.nm, .int .i64 t.top.n.cmp, .int .i64 t.top.n.val, .int .i64 t.top.n.lo, .int .i64 t.top.n.hi, .slice t.top.a t.kids.length t.top.cap] ty)) := by
  have hq : Quiet W (W.alloc (.cells #[.int .i64 t.top.n.op, .string t.top.n.nm, .int .i64 t.top.n.cmp, .int .i64 t.top.n.val, .int .i64 t.top.n.lo, .int .i64 t.top.n.hi, .slice t.top.a t.kids.length t.top.cap] ty)) := (Alters.refl _).alloc _
  have hk := h.keep hq
  refine ⟨fun p hp => ?_, hk.spans, hk.shapes, hk.quiet⟩
  rcases List.mem_cons.1 hp with rfl | hp
  · exact ⟨Blk.new _ _ _, hi.quiet hq⟩
  · exact hk.boxes p hp

theorem LawAt.span {w : World} {L : List (Nat × TypeId × Ft)} {N : List (Nat × Int × Int)} {W : World} (h : LawAt w L N W) (lo hi : Int) : LawAt w L ((W.heap.size, lo, hi) :: N) (W.alloc (.cells #[.int .i64 lo, .int .i64 hi] 25)) := by
  have hq : Quiet W (W.alloc (.cells #[.int .i64 lo, .int .i64 hi] 25)) := (Alters.refl _).alloc _
  have hk := h.keep hq
  refine ⟨hk.boxes, fun p hp => ?_, hk.shapes, hk.quiet⟩
  rcases List.mem_cons.1 hp with rfl | hp
  · exact Blk.new _ _ _
  · exact hk.spans p hp

theorem LawAt.seven {w : World} {L : List (Nat × TypeId × Ft)} {N : List (Nat × Int × Int)} {W : World} (h : LawAt w L N W) (b : Nat) (ty : TypeId) (t : Ft) (hp : (b, ty, t) ∈ L) :
    W.cell? ⟨b, 0, none⟩ = some (.int .i64 t.top.n.op) ∧ W.cell? ⟨b, 1, none⟩ = some (.string t.top.n.nm) ∧ W.cell? ⟨b, 2, none⟩ = some (.int .i64 t.top.n.cmp) ∧ W.cell? ⟨b, 3, none⟩ = some (.int .i64 t.top.n.val) ∧
      W.cell? ⟨b, 4, none⟩ = some (.int .i64 t.top.n.lo) ∧ W.cell? ⟨b, 5, none⟩ = some (.int .i64 t.top.n.hi) ∧ W.cell? ⟨b, 6, none⟩ = some (.slice t.top.a t.kids.length t.top.cap) := by
  have hb := (h.boxes _ hp).1
  exact ⟨hb.cell 0 rfl, hb.cell 1 rfl, hb.cell 2 rfl, hb.cell 3 rfl, hb.cell 4 rfl, hb.cell 5 rfl, hb.cell 6 rfl⟩

theorem LawAt.two {w : World} {L : List (Nat × TypeId × Ft)} {N : List (Nat × Int × Int)} {W : World} (h : LawAt w L N W) (b : Nat) (lo hi : Int) (hp : (b, lo, hi) ∈ N) : W.cell? ⟨b, 0, none⟩ = some (.int .i64 lo) ∧ W.cell? ⟨b, 1, none⟩ = some (.int .i64 hi) := by
  have hb := h.spans _ hp
  exact ⟨hb.cell 0 rfl, hb.cell 1 rfl⟩

theorem LawAt.inn {w : World} {L : List (Nat × TypeId × Ft)} {N : List (Nat × Int × Int)} {W : World} (h : LawAt w L N W) (b : Nat) (ty : TypeId) (t : Ft) (hp : (b, ty, t) ∈ L) : In AllD W t := (h.boxes _ hp).2

theorem allD {w : World} : ∀ k, w.heap.size ≤ k → AllD k := fun _ _ => trivial

end Go.Proofs.YtnpcakakjhiboaaDoor

namespace Go.Proofs.YtnpcakakjhiboaaDoor
open Go.RowKit Go.Lo Go.WideShapes

theorem ops_of {t : Ft} {f : Fm} (hp : Ft.pl t = f) (hs : sound f) : ∀ n, n ∈ t.pre → n.top.n.op ≠ 0 :=
  pl_ops hp fun n hn h => by
    have := hs n hn
    simp [wrong, h] at this

theorem exOne_size (op lo hi : Int) (f : Fm) : (exOne op lo hi f).size = 1 + f.size := nd1_size _ _
theorem exTwo_size (op lo hi : Int) (f g : Fm) : (exTwo op lo hi f g).size = 1 + f.size + g.size := nd2_size _ _ _
theorem pl_size (t : Ft) : (Ft.pl t).size = t.size := Tr.map_size _ _

/-- Behind the store into a box that is still empty. -/
theorem LawAt.store {w : World} {L : List (Nat × TypeId × Ft)} {N : List (Nat × Int × Int)} {W : World} {b : Nat} {ty : TypeId} {t : Ft} (h : LawAt w L N W) (hS : 0 < w.heap.size) (h0 : w.heap.size ≤ b) (hb : Blk W b #[.int .i64 0, .string ⟨#[]⟩, .int .i64 0, .int .i64 0, .int .i64 0, .int .i64 0, .slice none 0 0] ty) (hi : In AllD W t) (ht : ∀ n, n ∈ t.pre → n.top.n.op ≠ 0) (hL : ∀ p, p ∈ L → ∀ n, n ∈ p.2.2.pre → n.top.n.op ≠ 0) :
    LawAt w ((b, ty, t) :: L) N (((((((W.setCell ⟨b, 0, none⟩ (.int .i64 t.top.n.op)).setCell ⟨b, 1, none⟩ (.string t.top.n.nm)).setCell ⟨b, 2, none⟩ (.int .i64 t.top.n.cmp)).setCell ⟨b, 3, none⟩ (.int .i64 t.top.n.val)).setCell ⟨b, 4, none⟩ (.int .i64 t.top.n.lo)).setCell ⟨b, 5, none⟩ (.int .i64 t.top.n.hi)).setCell ⟨b, 6, none⟩ (.slice t.top.a t.kids.length t.top.cap)) := by
  have hs7 := set7 W b (.int .i64 t.top.n.op) (.string t.top.n.nm) (.int .i64 t.top.n.cmp) (.int .i64 t.top.n.val) (.int .i64 t.top.n.lo) (.int .i64 t.top.n.hi) (.slice t.top.a t.kids.length t.top.cap)
  refine ⟨fun p hq => ?_, fun p hq => ?_, h.shapes.keep hs7 (fun e => by omega), h.quiet.then hs7 (fun i hi e => by omega)⟩
  · rcases List.mem_cons.1 hq with rfl | hq
    · exact ⟨blk7 hb _ _ _ _ _ _ _, ((hi.avoid hb ht).keep hs7 (fun k hk _ e => hk.2 e)).mono (fun k _ hk => hk.1)⟩
    · obtain ⟨g1, g3⟩ := h.boxes p hq
      have hn := hL p hq
      have hne : p.1 ≠ b := At0 (boxed_at g1) hb (hn _ (by cases p.2.2; simp [Tr.pre]))
      exact ⟨hs7.blk g1 hne, ((g3.avoid hb hn).keep hs7 (fun k hk _ e => hk.2 e)).mono (fun k _ hk => hk.1)⟩
  · have g1 := h.spans p hq
    have hne : p.1 ≠ b := by
      rintro rfl
      unfold Blk at g1 hb
      rw [hb] at g1
      simp at g1
    exact hs7.blk g1 hne

end Go.Proofs.YtnpcakakjhiboaaDoor
