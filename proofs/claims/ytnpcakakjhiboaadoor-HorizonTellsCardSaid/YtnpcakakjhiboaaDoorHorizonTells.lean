/- HorizonTells: the walk of the law. No condition. -/
import Derived.Test.YtnpcakakjhiboaaDoorLaw11
import Derived.Test.YtnpcakakjhiboaaDoorClone11
import Derived.BigQuiet
namespace Go.Proofs.YtnpcakakjhiboaaDoor
open Go Go.RowKit Go.Lo Go.WideShapes

theorem of65_of {w : World} {t : Ft} {D : Nat → Prop} {f : Fm} {h e : Int} (hp : Ft.pl t = f) (hi : In D w t) (hsz : f.size ≤ 1000) (hn : allNum f) (hL : horOf f = (h, e)) :
    Calls Tryd.prog 65 #[t.val] w (Said (.tuple #[.int .i64 h, .int .i64 e]) w) := by
  subst hp
  have := of65_walk D t w hi (by rw [pl_size] at hsz; exact hsz) hn
  rwa [hL] at this

set_option maxRecDepth 100000 in
set_option maxHeartbeats 4000000 in
theorem horizonTells_walk (t : Ft) (w : World) (hint : In AllD w t) (hwt : ∀ n, n ∈ t.pre → n.top.n.wf) (hS : Shapes w) : Calls Tryd.prog 18 #[t.val] w (Said (.bool true) w) := by
  have hl := (LawAt.zero w hS).box 28 hint
  skip
  have HL := Go.Lib.hid hl
  have HNUMt := Go.Lib.hid (num_of11 hwt)
  clear hint hwt hS hl
  unfold Ft.val
  go_enter Tryd.func18, Tryd.ntmps18
  go_wp2_with fail
  generalize w.alloc _ = w1 at *
  refine (awake63_walk w1 HL.out.shapes).mono ?_
  rintro e w2 ⟨rfl, hq⟩
  replace HL := Go.Lib.hid (HL.out.keep hq)
  clear hq
  obtain ⟨x00, x01, x02, x03, x04, x05, x06⟩ := HL.out.seven (w.heap.size) 28 t (by simp)
  have HC := Go.Lib.hid (left_any11 AllD t 90 w2 (HL.out.inn (w.heap.size) 28 t (by simp)) (by decide))
  unfold Ft.val at HC
  go_wp2_with fail
  refine HC.out.mono ?_
  rintro e w3 ⟨rfl, hq⟩
  clear x00 x01 x02 x03 x04 x05 x06 HC
  replace HL := Go.Lib.hid (HL.out.keep hq)
  clear hq
  by_cases h0 : leftF (Ft.pl t) 90 ≤ 0
  · have b0 : decide (leftF (Ft.pl t) 90 ≤ 0) = true := by simpa using h0
    clear h0
    go_wp2_with fail
    go_ret
    exact ⟨rfl, HL.out.quiet⟩
  have hz0 := left_size11 h0
  have HZt : Hid (t.size ≤ 90) := Go.Lib.hid (by have := hz0; omega)
  have b0 : decide (leftF (Ft.pl t) 90 ≤ 0) = false := by simpa using h0
  clear hz0 h0
  obtain ⟨h, e, hHH⟩ : ∃ h e, horOf (Ft.pl t) = (h, e) := ⟨_, _, rfl⟩
  have HH := Go.Lib.hid hHH
  clear hHH
  obtain ⟨x00, x01, x02, x03, x04, x05, x06⟩ := HL.out.seven (w.heap.size) 28 t (by simp)
  have HC := Go.Lib.hid (of_of (f := Ft.pl t) rfl (HL.out.inn (w.heap.size) 28 t (by simp)) HL.out.shapes (by rw [pl_size]; have := HZt.out; omega) HNUMt.out HH.out)
  unfold Ft.val at HC
  go_wp2_with fail
  refine HC.out.mono ?_
  rintro e w4 ⟨rfl, hq⟩
  clear x00 x01 x02 x03 x04 x05 x06 HC
  replace HL := Go.Lib.hid (HL.out.keep hq)
  clear hq
  obtain ⟨x00, x01, x02, x03, x04, x05, x06⟩ := HL.out.seven (w.heap.size) 28 t (by simp)
  have HC := Go.Lib.hid (plain_any11 AllD t (by have := HZt.out; omega) w4 (HL.out.inn (w.heap.size) 28 t (by simp)))
  unfold Ft.val at HC
  go_wp2_with fail
  refine HC.out.mono ?_
  rintro e w5 ⟨tb, rfl, hpb, hib, hq⟩
  clear x00 x01 x02 x03 x04 x05 x06 HC
  replace HL := Go.Lib.hid (HL.out.keep hq)
  clear hq
  unfold Ft.val
  have HC := Go.Lib.hid (of65_of hpb hib (by rw [pl_size]; have := HZt.out; omega) HNUMt.out HH.out)
  unfold Ft.val at HC
  go_wp2_with fail
  refine HC.out.mono ?_
  rintro e w6 ⟨rfl, hq⟩
  clear  HC
  replace HL := Go.Lib.hid (HL.out.keep hq)
  clear hq
  clear hpb hib b0
  go_wp2_with fail
  go_ret
  exact ⟨rfl, HL.out.quiet⟩
end Go.Proofs.YtnpcakakjhiboaaDoor
