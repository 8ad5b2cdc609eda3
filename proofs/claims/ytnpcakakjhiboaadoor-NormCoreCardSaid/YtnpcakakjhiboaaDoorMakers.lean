/- The law's small makers of formulas. No condition. -/
import Derived.Test.YtnpcakakjhiboaaDoorVal14
namespace Go.Proofs.YtnpcakakjhiboaaDoor
open Go.RowKit Go.Lo Go.WideShapes

set_option maxRecDepth 100000 in
set_option maxHeartbeats 2000000 in
theorem name_v (D : Nat → Prop) (s : ByteArray) (w : World) : Calls Tryd.prog 72 #[.string s] w (Gives D (.nd { z0 with op := 3, nm := s } []) w) := by
  go_enter Tryd.func72, Tryd.ntmps72
  go_wp2
  exact bodyPost_ret (v := Ft.val (.nd ⟨{ z0 with op := 3, nm := s }, none, 0⟩ [])) (by simp [results, Tryd.results72, go_sem, Ft.val, Tr.top, Tr.kids, z0]) rfl ⟨_, rfl, ⟨_, rfl, by rw [pl_nd]; rfl, In.leaf _ _ _⟩, (Alters.refl _).alloc _⟩

set_option maxRecDepth 100000 in
set_option maxHeartbeats 2000000 in
theorem one_v {D : Nat → Prop} {f : Fm} {v : Value} {w : World} (op lo hi : Int) (hD : ∀ k, w.heap.size ≤ k → D k) (h : MadeIn D f v w) : Calls Tryd.prog 35 #[.int .i64 op, .agg #[.int .i64 lo, .int .i64 hi], v] w (Gives D (.nd { z0 with op := op, lo := lo, hi := hi } [f]) w) := by
  obtain ⟨X, rfl, hp, hi'⟩ := h
  have HX := Go.Lib.hid hi'
  unfold Ft.val
  go_enter Tryd.func35, Tryd.ntmps35
  go_wp2
  have hk : Blk ((((w.alloc (.cells #[.int .i64 lo, .int .i64 hi] 25)).alloc (.cells #[.int .i64 X.top.n.op, .string X.top.n.nm, .int .i64 X.top.n.cmp, .int .i64 X.top.n.val, .int .i64 X.top.n.lo, .int .i64 X.top.n.hi, .slice X.top.a X.kids.length X.top.cap] 28)).alloc (.cells #[.int .i64 op, .string ⟨#[]⟩, .int .i64 0, .int .i64 0, .int .i64 lo, .int .i64 hi, .slice (some ⟨w.heap.size + 1 + 1 + 1, 0, none⟩) 1 1] 28)).alloc (.cells #[.int .i64 X.top.n.op, .string X.top.n.nm, .int .i64 X.top.n.cmp, .int .i64 X.top.n.val, .int .i64 X.top.n.lo, .int .i64 X.top.n.hi, .slice X.top.a X.kids.length X.top.cap] 28)) (w.heap.size + 1 + 1 + 1) ([X].flatMap Ft.cells).toArray 28 := alloc4 _ _ _ _ _ _
  have hq : Quiet w ((((w.alloc (.cells #[.int .i64 lo, .int .i64 hi] 25)).alloc (.cells #[.int .i64 X.top.n.op, .string X.top.n.nm, .int .i64 X.top.n.cmp, .int .i64 X.top.n.val, .int .i64 X.top.n.lo, .int .i64 X.top.n.hi, .slice X.top.a X.kids.length X.top.cap] 28)).alloc (.cells #[.int .i64 op, .string ⟨#[]⟩, .int .i64 0, .int .i64 0, .int .i64 lo, .int .i64 hi, .slice (some ⟨w.heap.size + 1 + 1 + 1, 0, none⟩) 1 1] 28)).alloc (.cells #[.int .i64 X.top.n.op, .string X.top.n.nm, .int .i64 X.top.n.cmp, .int .i64 X.top.n.val, .int .i64 X.top.n.lo, .int .i64 X.top.n.hi, .slice X.top.a X.kids.length X.top.cap] 28)) := ((((Alters.refl _).alloc _).alloc _).alloc _).alloc _
  have hin := In.made (n := { z0 with op := op, lo := lo, hi := hi }) (c := 1) (T := [X]) hk (by simp [maxLen]) (fun t ht => by
    obtain rfl : t = X := by simpa using ht
    exact HX.out) hq (by omega)
  exact bodyPost_ret (v := Ft.val (.nd ⟨{ z0 with op := op, lo := lo, hi := hi }, some ⟨w.heap.size + 1 + 1 + 1, 0, none⟩, 1⟩ [X])) (by simp [results, Tryd.results35, go_sem, Ft.val, Tr.top, Tr.kids, z0]) rfl ⟨_, rfl, ⟨_, rfl, by rw [pl_nd, ← hp]; rfl, hin.mono (fun k _ h => h.elim (fun h => h) (fun h => hD k h))⟩, hq⟩

set_option maxRecDepth 100000 in
set_option maxHeartbeats 2000000 in
theorem two_v {D : Nat → Prop} {f g : Fm} {v u : Value} {w : World} (op lo hi : Int) (hD : ∀ k, w.heap.size ≤ k → D k) (h : MadeIn D f v w) (h2 : MadeIn D g u w) : Calls Tryd.prog 36 #[.int .i64 op, .agg #[.int .i64 lo, .int .i64 hi], v, u] w (Gives D (.nd { z0 with op := op, lo := lo, hi := hi } [f, g]) w) := by
  obtain ⟨X, rfl, hp, hi'⟩ := h
  obtain ⟨Y, rfl, hp2, hi2⟩ := h2
  have HX := Go.Lib.hid hi'
  have HY := Go.Lib.hid hi2
  unfold Ft.val
  go_enter Tryd.func36, Tryd.ntmps36
  go_wp2
  have hk : Blk (((((w.alloc (.cells #[.int .i64 lo, .int .i64 hi] 25)).alloc (.cells #[.int .i64 X.top.n.op, .string X.top.n.nm, .int .i64 X.top.n.cmp, .int .i64 X.top.n.val, .int .i64 X.top.n.lo, .int .i64 X.top.n.hi, .slice X.top.a X.kids.length X.top.cap] 28)).alloc (.cells #[.int .i64 Y.top.n.op, .string Y.top.n.nm, .int .i64 Y.top.n.cmp, .int .i64 Y.top.n.val, .int .i64 Y.top.n.lo, .int .i64 Y.top.n.hi, .slice Y.top.a Y.kids.length Y.top.cap] 28)).alloc (.cells #[.int .i64 op, .string ⟨#[]⟩, .int .i64 0, .int .i64 0, .int .i64 lo, .int .i64 hi, .slice (some ⟨w.heap.size + 1 + 1 + 1 + 1, 0, none⟩) 2 2] 28)).alloc (.cells #[.int .i64 X.top.n.op, .string X.top.n.nm, .int .i64 X.top.n.cmp, .int .i64 X.top.n.val, .int .i64 X.top.n.lo, .int .i64 X.top.n.hi, .slice X.top.a X.kids.length X.top.cap, .int .i64 Y.top.n.op, .string Y.top.n.nm, .int .i64 Y.top.n.cmp, .int .i64 Y.top.n.val, .int .i64 Y.top.n.lo, .int .i64 Y.top.n.hi, .slice Y.top.a Y.kids.length Y.top.cap] 28)) (w.heap.size + 1 + 1 + 1 + 1) ([X, Y].flatMap Ft.cells).toArray 28 := by
    have := Blk.new ((((w.alloc (.cells #[.int .i64 lo, .int .i64 hi] 25)).alloc (.cells #[.int .i64 X.top.n.op, .string X.top.n.nm, .int .i64 X.top.n.cmp, .int .i64 X.top.n.val, .int .i64 X.top.n.lo, .int .i64 X.top.n.hi, .slice X.top.a X.kids.length X.top.cap] 28)).alloc (.cells #[.int .i64 Y.top.n.op, .string Y.top.n.nm, .int .i64 Y.top.n.cmp, .int .i64 Y.top.n.val, .int .i64 Y.top.n.lo, .int .i64 Y.top.n.hi, .slice Y.top.a Y.kids.length Y.top.cap] 28)).alloc (.cells #[.int .i64 op, .string ⟨#[]⟩, .int .i64 0, .int .i64 0, .int .i64 lo, .int .i64 hi, .slice (some ⟨w.heap.size + 1 + 1 + 1 + 1, 0, none⟩) 2 2] 28)) #[.int .i64 X.top.n.op, .string X.top.n.nm, .int .i64 X.top.n.cmp, .int .i64 X.top.n.val, .int .i64 X.top.n.lo, .int .i64 X.top.n.hi, .slice X.top.a X.kids.length X.top.cap, .int .i64 Y.top.n.op, .string Y.top.n.nm, .int .i64 Y.top.n.cmp, .int .i64 Y.top.n.val, .int .i64 Y.top.n.lo, .int .i64 Y.top.n.hi, .slice Y.top.a Y.kids.length Y.top.cap] 28
    simp only [World.size_alloc] at this
    exact this
  have hq : Quiet w (((((w.alloc (.cells #[.int .i64 lo, .int .i64 hi] 25)).alloc (.cells #[.int .i64 X.top.n.op, .string X.top.n.nm, .int .i64 X.top.n.cmp, .int .i64 X.top.n.val, .int .i64 X.top.n.lo, .int .i64 X.top.n.hi, .slice X.top.a X.kids.length X.top.cap] 28)).alloc (.cells #[.int .i64 Y.top.n.op, .string Y.top.n.nm, .int .i64 Y.top.n.cmp, .int .i64 Y.top.n.val, .int .i64 Y.top.n.lo, .int .i64 Y.top.n.hi, .slice Y.top.a Y.kids.length Y.top.cap] 28)).alloc (.cells #[.int .i64 op, .string ⟨#[]⟩, .int .i64 0, .int .i64 0, .int .i64 lo, .int .i64 hi, .slice (some ⟨w.heap.size + 1 + 1 + 1 + 1, 0, none⟩) 2 2] 28)).alloc (.cells #[.int .i64 X.top.n.op, .string X.top.n.nm, .int .i64 X.top.n.cmp, .int .i64 X.top.n.val, .int .i64 X.top.n.lo, .int .i64 X.top.n.hi, .slice X.top.a X.kids.length X.top.cap, .int .i64 Y.top.n.op, .string Y.top.n.nm, .int .i64 Y.top.n.cmp, .int .i64 Y.top.n.val, .int .i64 Y.top.n.lo, .int .i64 Y.top.n.hi, .slice Y.top.a Y.kids.length Y.top.cap] 28)) := (((((Alters.refl _).alloc _).alloc _).alloc _).alloc _).alloc _
  have hin := In.made (n := { z0 with op := op, lo := lo, hi := hi }) (c := 2) (T := [X, Y]) hk (by simp [maxLen]) (fun t ht => by
    simp only [List.mem_cons, List.not_mem_nil, or_false] at ht
    rcases ht with rfl | rfl
    · exact HX.out
    · exact HY.out) hq (by omega)
  exact bodyPost_ret (v := Ft.val (.nd ⟨{ z0 with op := op, lo := lo, hi := hi }, some ⟨w.heap.size + 1 + 1 + 1 + 1, 0, none⟩, 2⟩ [X, Y])) (by simp [results, Tryd.results36, go_sem, Ft.val, Tr.top, Tr.kids, z0]) rfl ⟨_, rfl, ⟨_, rfl, by rw [pl_nd, ← hp, ← hp2]; rfl, hin.mono (fun k _ h => h.elim (fun h => h) (fun h => hD k h))⟩, hq⟩
end Go.Proofs.YtnpcakakjhiboaaDoor
