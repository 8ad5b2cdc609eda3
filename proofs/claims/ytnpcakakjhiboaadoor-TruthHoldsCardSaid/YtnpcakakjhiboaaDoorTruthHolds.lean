/- TruthHolds: the walk of the law. No condition. -/
import Derived.Test.YtnpcakakjhiboaaDoorLaw13
import Derived.Test.YtnpcakakjhiboaaDoorWord
import Derived.Test.YtnpcakakjhiboaaDoorRef13e
import Derived.Test.YtnpcakakjhiboaaDoorRowP
namespace Go.Proofs.YtnpcakakjhiboaaDoor
open Go.RowKit Go.Lo Go.WideShapes

set_option maxRecDepth 100000 in
set_option maxHeartbeats 4000000 in
theorem truthHolds_walk (t : Ft) (a : Option Addr) (cap : Nat) (P : List Hp) (i : Int) (w : World) (hint : In AllD w t) (_hwt : ∀ n, n ∈ t.pre → n.top.n.wf) (hw : WdAt w a P) (_hi : I64 i) (hS : Shapes w) : Calls Tryd.prog 9 #[t.val, .slice a P.length cap, .int .i64 i] w (Said (.bool true) w) := by
  have hl := (LawAt.zero w hS).box 28 hint
  skip
  have HL := Go.Lib.hid hl
  have HW := Go.Lib.hid hw
  clear hint hS hw hl
  unfold Ft.val
  go_enter Tryd.func9, Tryd.ntmps9
  go_wp2_with fail
  generalize w.alloc _ = w1 at *
  refine (awake13_walk w1 HL.out.shapes).mono ?_
  rintro e w2 ⟨rfl, hq⟩
  replace HL := Go.Lib.hid (HL.out.keep hq)
  clear hq
  obtain ⟨x00, x01, x02, x03, x04, x05, x06⟩ := HL.out.seven (w.heap.size) 28 t (by simp)
  have HC := Go.Lib.hid (left_any13 AllD t 60 w2 (HL.out.inn (w.heap.size) 28 t (by simp)) (by decide))
  unfold Ft.val at HC
  go_wp2_with fail
  refine HC.out.mono ?_
  rintro e w3 ⟨rfl, hq⟩
  clear x00 x01 x02 x03 x04 x05 x06 HC
  replace HL := Go.Lib.hid (HL.out.keep hq)
  clear hq
  have HC := Go.Lib.hid (few47_walk a cap P w3 (HW.out.quiet HL.out.quiet))
  go_wp2_with fail
  refine HC.out.mono ?_
  rintro e w4 ⟨rfl, hq⟩
  clear HC
  replace HL := Go.Lib.hid (HL.out.keep hq)
  clear hq
  by_cases h0 : leftF (Ft.pl t) 60 ≤ 0
  · have b0 : decide (leftF (Ft.pl t) 60 ≤ 0) = true := by simpa using h0
    clear h0
    go_wp2_with fail
    go_ret
    exact ⟨rfl, HL.out.quiet⟩
  have hz0 := left_size13 h0
  have HZt : Hid (t.size ≤ 60) := Go.Lib.hid (by have := hz0; omega)
  have b0 : decide (leftF (Ft.pl t) 60 ≤ 0) = false := by simpa using h0
  clear hz0 h0
  cases hf : fewW P
  · go_wp2_with fail
    go_ret
    exact ⟨rfl, HL.out.quiet⟩
  have HPL : Hid (P.length ≤ 10000) := Go.Lib.hid (by have := fewW_len hf; omega)
  have HRL : Hid (∀ f, (rowF f (pts P)).length ≤ 10000) := Go.Lib.hid (fun f => Nat.le_trans (rowF_len _ _) (by rw [pts_len]; exact HPL.out))
  obtain ⟨x00, x01, x02, x03, x04, x05, x06⟩ := HL.out.seven (w.heap.size) 28 t (by simp)
  have HC := Go.Lib.hid (plain_any13 AllD t (by have := HZt.out; omega) w4 (HL.out.inn (w.heap.size) 28 t (by simp)))
  unfold Ft.val at HC
  go_wp2_with fail
  refine HC.out.mono ?_
  rintro e w5 ⟨t9, rfl, hp9, hi9, hq⟩
  clear x00 x01 x02 x03 x04 x05 x06 HC
  replace HL := Go.Lib.hid (HL.out.keep hq)
  clear hq
  clear b0 hf
  have HC := Go.Lib.hid (points50_walk a cap P w5 (HW.out.quiet HL.out.quiet) HPL.out)
  go_wp2_with fail
  refine HC.out.mono ?_
  rintro e w6 ⟨pa, pc, rfl, hpw, hq⟩
  clear HC
  replace HL := Go.Lib.hid (HL.out.keep hq)
  have HC := Go.Lib.hid (row48_of (c := pc) hp9 ((hi9.mono (fun _ _ _ => trivial)).quiet hq) (by rw [pl_size]; have := HZt.out; omega) hpw HPL.out)
  clear hq hp9 hi9 hpw
  unfold Ft.val at HC
  go_wp2_with fail
  refine HC.out.mono ?_
  rintro e w7 ⟨ra, rc, rfl, hbl, hq⟩
  clear HC
  replace HL := Go.Lib.hid (HL.out.keep hq)
  have HBL := Go.Lib.hid hbl
  clear hq hbl
  obtain ⟨x00, x01, x02, x03, x04, x05, x06⟩ := HL.out.seven (w.heap.size) 28 t (by simp)
  have HC := Go.Lib.hid (holds51_walk AllD t a cap P i w7 (HL.out.inn (w.heap.size) 28 t (by simp)) HL.out.shapes (by have := HZt.out; omega) (HW.out.quiet HL.out.quiet) HPL.out)
  have HV : Hid (holdsI (Ft.pl t) (pts P) i = (decide (0 ≤ i) && (rowF (Ft.pl t) (pts P)).getD i.toNat false)) := Go.Lib.hid rfl
  unfold Ft.val at HC
  generalize rowF (Ft.pl t) (pts P) = l at *
  generalize holdsI (Ft.pl t) (pts P) i = hv at *
  go_wp2_with fail
  refine HC.out.mono ?_
  rintro e w8 ⟨rfl, hq⟩
  clear x00 x01 x02 x03 x04 x05 x06 HC
  replace HL := Go.Lib.hid (HL.out.keep hq)
  replace HBL := Go.Lib.hid (HBL.out.quiet hq)
  clear hq
  by_cases h0 : 0 ≤ i
  rotate_left
  · have g0 : decide (0 ≤ i) = false := by simpa using h0
    rw [g0] at HV
    clear h0
    obtain rfl := HV.out
    go_wp2_with fail
    go_ret
    exact ⟨rfl, HL.out.quiet⟩
  · have g0 : decide (0 ≤ i) = true := by simpa using h0
    rw [g0, Bool.true_and] at HV
    by_cases h1 : i < l.length
    · obtain ⟨n, rfl, hn, hat⟩ := bl_row_at h0 h1
      obtain ⟨b, o, rfl, hc⟩ := HBL.out (fun h => by subst h; simp at hn)
      have d0 := hc n _ hat
      have g1 : decide ((n : Int) < (l.length : Int)) = true := by rw [decide_eq_true_eq]; omega
      rw [Int.toNat_natCast] at HV
      generalize l.getD n false = x at *
      obtain rfl := HV.out
      clear hc hat h0
      go_wp2_with fail
      go_ret
      exact ⟨by simp, HL.out.quiet⟩
    · have g1 : decide (i < (l.length : Int)) = false := by simpa using h1
      have HX : Hid (l.getD i.toNat false = false) := Go.Lib.hid (by rw [List.getD, List.getElem?_eq_none (by omega)]; rfl)
      clear h0 h1
      rw [HX.out] at HV
      obtain rfl := HV.out
      go_wp2_with fail
      go_ret
      exact ⟨rfl, HL.out.quiet⟩
end Go.Proofs.YtnpcakakjhiboaaDoor
