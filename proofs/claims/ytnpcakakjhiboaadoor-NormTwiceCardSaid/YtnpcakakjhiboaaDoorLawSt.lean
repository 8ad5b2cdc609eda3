/- A law's box that was drawn ahead of the formula that is laid into it. No condition. -/
import Derived.Test.YtnpcakakjhiboaaDoorLawAt
import Derived.Test.YtnpcakakjhiboaaDoorAwake14
namespace Go.Proofs.YtnpcakakjhiboaaDoor
open Go.RowKit Go.Lo Go.WideShapes

theorem ops_of {t : Ft} {f : Fm} (hp : Ft.pl t = f) (hs : sound f) : ∀ n, n ∈ t.pre → n.top.n.op ≠ 0 :=
  pl_ops hp fun n hn h => by
    have := hs n hn
    simp [wrong, h] at this

theorem exOne_size (op lo hi : Int) (f : Fm) : (exOne op lo hi f).size = 1 + f.size := nd1_size _ _
theorem exTwo_size (op lo hi : Int) (f g : Fm) : (exTwo op lo hi f g).size = 1 + f.size + g.size := nd2_size _ _ _
theorem pl_size (t : Ft) : (Ft.pl t).size = t.size := Tr.map_size _ _

/-- Behind the store into a box that is still empty. -/
theorem LawAt.store {w : World} {L : List (Nat × TypeId × Ft)} {N : List (Nat × Int × Int)} {W : World} {b : Nat} {ty : TypeId} {t : Ft} (h : LawAt w L N W) (hS : 0 < w.heap.size) (h0 : w.heap.size ≤ b) (hb : Blk W b #[.int .i64 0, .string ⟨#[]⟩, .int .i64 0, .int .i64 0, .int .i64 0, .int .i64 0, .slice none 0 0] ty) (hi : In AllD W t) (ht : ∀ n, n ∈ t.pre → n.top.n.op ≠ 0) (hL : ∀ p, p ∈ L → ∀ n, n ∈ p.2.2.pre → n.top.n.op ≠ 0) :
    LawAt w ((b, ty, t) :: L) N (((((((W.setCell ⟨b, 0, none⟩ (.int .i64 t.top.n.op)).setCell ⟨b, 1, none⟩ (.string t.top.n.nm)).setCell ⟨b, 2, none⟩ (.int .i64 t.top.n.cmp)).setCell ⟨b, 3, none⟩ (.int .i64 t.top.n.val)).setCell ⟨b, 4, none⟩ (.int .i64 t.top.n.lo)).setCell ⟨b, 5, none⟩ (.int .i64 t.top.n.hi)).setCell ⟨b, 6, none⟩ (.slice t.top.a t.kids.length t.top.cap)) := by
  have hs7 := set7 W b (.int .i64 t.top.n.op) (.string t.top.n.nm) (.int .i64 t.top.n.cmp) (.int .i64 t.top.n.val) (.int .i64 t.top.n.lo) (.int .i64 t.top.n.hi) (.slice t.top.a t.kids.length t.top.cap)
  refine ⟨fun p hq => ?_, fun p hq => ?_, h.shapes.keep hs7 (fun e => by omega), h.quiet.then hs7 (fun i hi e => by omega)⟩
  · rcases List.mem_cons.1 hq with rfl | hq
    · exact ⟨blk7 hb _ _ _ _ _ _ _, ((hi.avoid hb ht).keep hs7 (fun k hk _ e => hk.2 e)).mono (fun k _ hk => hk.1)⟩
    · obtain ⟨g1, g3⟩ := h.boxes p hq
      have hn := hL p hq
      have hne : p.1 ≠ b := At0 (boxed_at g1) hb (hn _ (by cases p.2.2; simp [Tr.pre]))
      exact ⟨hs7.blk g1 hne, ((g3.avoid hb hn).keep hs7 (fun k hk _ e => hk.2 e)).mono (fun k _ hk => hk.1)⟩
  · have g1 := h.spans p hq
    have hne : p.1 ≠ b := by
      rintro rfl
      unfold Blk at g1 hb
      rw [hb] at g1
      simp at g1
    exact hs7.blk g1 hne

end Go.Proofs.YtnpcakakjhiboaaDoor
