/- Where a law on plans stands: its formulas, spans and lists of steps. No condition. -/
import Derived.Test.YtnpcakakjhiboaaDoorStps16
import Derived.Test.YtnpcakakjhiboaaDoorAwake16
import Derived.Test.YtnpcakakjhiboaaDoorPlanQ
import Derived.Test.YtnpcakakjhiboaaDoorWord
import Derived.Test.YtnpcakakjhiboaaDoorLits
namespace Go.Proofs.YtnpcakakjhiboaaDoor
open Go Go.RowKit Go.Lo Go.WideShapes

structure LawP (w : World) (L : List (Nat × TypeId × Ft)) (N : List (Nat × Int × Int)) (R : List (Option Addr × List Stp)) (W : World) : Prop where
  law : LawAt w L N W
  rows : ∀ p, p ∈ R → StpsAt W p.1 p.2

section
variable {w W W' : World} {L : List (Nat × TypeId × Ft)} {N : List (Nat × Int × Int)} {R : List (Option Addr × List Stp)}

theorem LawP.keep (h : LawP w L N R W) (hq : Quiet W W') : LawP w L N R W' := ⟨h.law.keep hq, fun p hp => (h.rows p hp).quiet hq⟩
theorem LawP.zero (w : World) (hS : Shapes w) : LawP w [] [] [] w := ⟨LawAt.zero w hS, by simp⟩
theorem LawP.box (h : LawP w L N R W) (ty : TypeId) {t : Ft} (hi : In AllD W t) :
    LawP w ((W.heap.size, ty, t) :: L) N R (W.alloc (.cells #[.int .i64 t.top.n.op, .string t.top.n.nm, .int .i64 t.top.n.cmp, .int .i64 t.top.n.val, .int .i64 t.top.n.lo, .int .i64 t.top.n.hi, .slice t.top.a t.kids.length t.top.cap] ty)) :=
  ⟨h.law.box ty hi, (h.keep ((Alters.refl _).alloc _)).rows⟩
theorem LawP.span (h : LawP w L N R W) (lo hi : Int) : LawP w L ((W.heap.size, lo, hi) :: N) R (W.alloc (.cells #[.int .i64 lo, .int .i64 hi] 25)) := ⟨h.law.span lo hi, (h.keep ((Alters.refl _).alloc _)).rows⟩
theorem LawP.seven (h : LawP w L N R W) (b : Nat) (ty : TypeId) (t : Ft) (hp : (b, ty, t) ∈ L) :
    W.cell? ⟨b, 0, none⟩ = some (.int .i64 t.top.n.op) ∧ W.cell? ⟨b, 1, none⟩ = some (.string t.top.n.nm) ∧ W.cell? ⟨b, 2, none⟩ = some (.int .i64 t.top.n.cmp) ∧ W.cell? ⟨b, 3, none⟩ = some (.int .i64 t.top.n.val) ∧
      W.cell? ⟨b, 4, none⟩ = some (.int .i64 t.top.n.lo) ∧ W.cell? ⟨b, 5, none⟩ = some (.int .i64 t.top.n.hi) ∧ W.cell? ⟨b, 6, none⟩ = some (.slice t.top.a t.kids.length t.top.cap) := h.law.seven b ty t hp
theorem LawP.two (h : LawP w L N R W) (b : Nat) (lo hi : Int) (hp : (b, lo, hi) ∈ N) : W.cell? ⟨b, 0, none⟩ = some (.int .i64 lo) ∧ W.cell? ⟨b, 1, none⟩ = some (.int .i64 hi) := h.law.two b lo hi hp
theorem LawP.inn (h : LawP w L N R W) (b : Nat) (ty : TypeId) (t : Ft) (hp : (b, ty, t) ∈ L) : In AllD W t := h.law.inn b ty t hp
theorem LawP.shapes (h : LawP w L N R W) : Shapes W := h.law.shapes
theorem LawP.quiet (h : LawP w L N R W) : Quiet w W := h.law.quiet
theorem LawP.row (h : LawP w L N R W) {a : Option Addr} {l : List Stp} (hb : StpsAt W a l) : LawP w L N ((a, l) :: R) W := ⟨h.law, fun p hp => by
  rcases List.mem_cons.1 hp with rfl | hp
  · exact hb
  · exact h.rows p hp⟩
theorem LawP.st (h : LawP w L N R W) (a : Option Addr) (l : List Stp) (hp : (a, l) ∈ R) : StpsAt W a l := h.rows _ hp
end

/-- plan.Of of a formula that was made. -/
theorem plan_of {w : World} {t : Ft} {f : Fm} {L : List Stp} (hp : Ft.pl t = f) (hi : In AllD w t) (hS : Shapes w) (hsz : f.size ≤ 1000) (hn : allNum f) (hL : planOf f = L) :
    Calls Tryd.prog 56 #[t.val] w (fun e w' => ∃ a c, e = .returned (.slice a L.length c) ∧ StpsAt w' a L ∧ Quiet w w') := by
  subst hp
  subst hL
  exact (plan56_walk t w (hi.mono (fun _ _ _ => trivial)) hS (by rw [pl_size] at hsz; exact hsz) hn).mono (by
    rintro e w' ⟨v, rfl, hr, hq⟩
    obtain ⟨a, c, rfl, h⟩ := stps_of hr
    exact ⟨a, c, rfl, h, hq⟩)

theorem StpsAt.at {w : World} {a : Option Addr} {L : List Stp} (h : StpsAt w a L) {k : Nat} {s : Stp} (hk : L[k]? = some s) : ∃ b, a = some ⟨b, 0, none⟩ ∧ ∀ (j : Nat) (u : Value), s.cells[j]? = some u → w.cell? ⟨b, k * 8 + j, none⟩ = some u := by
  obtain ⟨b, e, hc⟩ := h (by rintro rfl; simp at hk)
  exact ⟨b, e, hc k s hk⟩

theorem an_one {op : Int} {lo hi : Int} {f : Fm} (hl : I64 lo) (hh : I64 hi) (h : allNum f) : allNum (exOne op lo hi f) := allNum_nd.2 ⟨⟨i64_0, hl, hh⟩, by simpa using h⟩
theorem an_two {op : Int} {lo hi : Int} {f g : Fm} (hl : I64 lo) (hh : I64 hi) (h : allNum f) (h' : allNum g) : allNum (exTwo op lo hi f g) := allNum_nd.2 ⟨⟨i64_0, hl, hh⟩, by simp [h, h']⟩

/-- A list of steps. -/
def Want.steps (L : List Stp) : Want := ⟨fun v W => ∃ a c, v = .slice a L.length c ∧ StpsAt W a L, fun _ _ _ hq ⟨a, c, h1, h2⟩ => ⟨a, c, h1, h2.quiet hq⟩⟩

theorem normOf_size16 (f : Fm) (h : sound f) : (normOf f).size ≤ 4 * f.size := by rw [normOf_sound h]; exact made_size f h

end Go.Proofs.YtnpcakakjhiboaaDoor
