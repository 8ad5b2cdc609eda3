/- Where a law on truth stands: its formulas, spans and rows. No condition. -/
import Derived.Test.YtnpcakakjhiboaaDoorLaw13
import Derived.Test.YtnpcakakjhiboaaDoorRowP
namespace Go.Proofs.YtnpcakakjhiboaaDoor
open Go.RowKit Go.Lo Go.WideShapes

structure LawR (w : World) (L : List (Nat × TypeId × Ft)) (N : List (Nat × Int × Int)) (R : List (Option Addr × List Bool)) (W : World) : Prop where
  law : LawAt w L N W
  rows : ∀ p, p ∈ R → BlAt W p.1 p.2

section
variable {w W W' : World} {L : List (Nat × TypeId × Ft)} {N : List (Nat × Int × Int)} {R : List (Option Addr × List Bool)}

theorem LawR.keep (h : LawR w L N R W) (hq : Quiet W W') : LawR w L N R W' := ⟨h.law.keep hq, fun p hp => (h.rows p hp).quiet hq⟩
theorem LawR.zero (w : World) (hS : Shapes w) : LawR w [] [] [] w := ⟨LawAt.zero w hS, by simp⟩
theorem LawR.box (h : LawR w L N R W) (ty : TypeId) {t : Ft} (hi : In AllD W t) :
    LawR w ((W.heap.size, ty, t) :: L) N R (W.alloc (.cells #[.int .i64 t.top.n.op, .string t.top.n.nm, .int .i64 t.top.n.cmp, .int .i64 t.top.n.val, .int .i64 t.top.n.lo, .int .i64 t.top.n.hi, .slice t.top.a t.kids.length t.top.cap] ty)) :=
  ⟨h.law.box ty hi, (h.keep ((Alters.refl _).alloc _)).rows⟩
theorem LawR.span (h : LawR w L N R W) (lo hi : Int) : LawR w L ((W.heap.size, lo, hi) :: N) R (W.alloc (.cells #[.int .i64 lo, .int .i64 hi] 25)) := ⟨h.law.span lo hi, (h.keep ((Alters.refl _).alloc _)).rows⟩
theorem LawR.seven (h : LawR w L N R W) (b : Nat) (ty : TypeId) (t : Ft) (hp : (b, ty, t) ∈ L) :
    W.cell? ⟨b, 0, none⟩ = some (.int .i64 t.top.n.op) ∧ W.cell? ⟨b, 1, none⟩ = some (.string t.top.n.nm) ∧ W.cell? ⟨b, 2, none⟩ = some (.int .i64 t.top.n.cmp) ∧ W.cell? ⟨b, 3, none⟩ = some (.int .i64 t.top.n.val) ∧
      W.cell? ⟨b, 4, none⟩ = some (.int .i64 t.top.n.lo) ∧ W.cell? ⟨b, 5, none⟩ = some (.int .i64 t.top.n.hi) ∧ W.cell? ⟨b, 6, none⟩ = some (.slice t.top.a t.kids.length t.top.cap) := h.law.seven b ty t hp
theorem LawR.two (h : LawR w L N R W) (b : Nat) (lo hi : Int) (hp : (b, lo, hi) ∈ N) : W.cell? ⟨b, 0, none⟩ = some (.int .i64 lo) ∧ W.cell? ⟨b, 1, none⟩ = some (.int .i64 hi) := h.law.two b lo hi hp
theorem LawR.inn (h : LawR w L N R W) (b : Nat) (ty : TypeId) (t : Ft) (hp : (b, ty, t) ∈ L) : In AllD W t := h.law.inn b ty t hp
theorem LawR.shapes (h : LawR w L N R W) : Shapes W := h.law.shapes
theorem LawR.quiet (h : LawR w L N R W) : Quiet w W := h.law.quiet
theorem LawR.row (h : LawR w L N R W) {a : Option Addr} {l : List Bool} (hb : BlAt W a l) : LawR w L N ((a, l) :: R) W := ⟨h.law, fun p hp => by
  rcases List.mem_cons.1 hp with rfl | hp
  · exact hb
  · exact h.rows p hp⟩
theorem LawR.bl (h : LawR w L N R W) (a : Option Addr) (l : List Bool) (hp : (a, l) ∈ R) : BlAt W a l := h.rows _ hp

/-- A formula without kids. -/
def leafT (op : Int) : Ft := .nd ⟨{ z0 with op := op }, none, 0⟩ []
theorem LawR.leaf (h : LawR w L N R W) (op : Int) : LawR w ((W.heap.size, 28, leafT op) :: L) N R (W.alloc (.cells #[.int .i64 op, .string ⟨#[]⟩, .int .i64 0, .int .i64 0, .int .i64 0, .int .i64 0, .slice none 0 0] 28)) := h.box 28 (t := leafT op) (In.leaf _ _ _)
theorem LawR.leaf7 (h : LawR w L N R W) (b : Nat) (op : Int) (hp : (b, 28, leafT op) ∈ L) :
    W.cell? ⟨b, 0, none⟩ = some (.int .i64 op) ∧ W.cell? ⟨b, 1, none⟩ = some (.string ⟨#[]⟩) ∧ W.cell? ⟨b, 2, none⟩ = some (.int .i64 0) ∧ W.cell? ⟨b, 3, none⟩ = some (.int .i64 0) ∧
      W.cell? ⟨b, 4, none⟩ = some (.int .i64 0) ∧ W.cell? ⟨b, 5, none⟩ = some (.int .i64 0) ∧ W.cell? ⟨b, 6, none⟩ = some (.slice none 0 0) := h.law.seven b 28 (leafT op) hp
theorem made_leaf (op : Int) (W : World) : MadeIn AllD (leaf op) (.agg #[.int .i64 op, .string ⟨#[]⟩, .int .i64 0, .int .i64 0, .int .i64 0, .int .i64 0, .slice none 0 0]) W := ⟨leafT op, rfl, rfl, In.leaf _ _ _⟩
end

theorem same39_eq (a1 : Option Addr) (c1 : Nat) (a2 : Option Addr) (c2 : Nat) (l : List Bool) (w : World) (h1 : BlAt w a1 l) (h2 : BlAt w a2 l) (hl : l.length ≤ 10000) : Calls Tryd.prog 39 #[.slice a1 l.length c1, .slice a2 l.length c2] w (Said (.bool true) w) := by
  have := same39_walk a1 c1 l a2 c2 l w h1 h2 hl
  rwa [show decide (l = l) = true by simp] at this

theorem holds_of {W : World} {a : Option Addr} {L : List Hp} {c : Nat} {t : Ft} {f : Fm} {k : Nat} {b : Bool} (hp : Ft.pl t = f) (hi : In AllD W t) (hS : Shapes W) (hsz : f.size ≤ 10000) (hw : WdAt W a L) (hL : L.length ≤ 10000) (e : holdsF f (pts L) k = b) : Calls Tryd.prog 51 #[t.val, .slice a L.length c, .int .i64 k] W (Said (.bool b) W) := by
  subst hp e
  have := holds51_walk AllD t a c L k W hi hS (by rw [pl_size] at hsz; exact hsz) hw hL
  rw [holdsI, Int.toNat_natCast, show decide (0 ≤ (k : Int)) = true by simp, Bool.true_and] at this
  exact this

theorem rowF_full {f : Fm} {L : List Hp} (h : sound f) (hw : wordOk (pts L) = true) : (rowF f (pts L)).length = L.length := by
  unfold rowF
  rw [if_pos ⟨(first_zero f).2 h, hw⟩]
  simp [pts_len]

end Go.Proofs.YtnpcakakjhiboaaDoor
