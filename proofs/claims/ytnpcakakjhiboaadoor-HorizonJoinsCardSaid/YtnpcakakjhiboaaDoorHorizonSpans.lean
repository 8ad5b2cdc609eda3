/- HorizonSpans: the walk of the law. No condition. -/
import Derived.Test.YtnpcakakjhiboaaDoorLaw11
import Derived.Test.YtnpcakakjhiboaaDoorClone11
import Derived.Test.YtnpcakakjhiboaaDoorRef5
import Derived.BigQuiet
namespace Go.Proofs.YtnpcakakjhiboaaDoor
open Go Go.RowKit Go.Lo Go.WideShapes

theorem check_of {w : World} {t : Ft} {f : Fm} {c : Int} (hp : Ft.pl t = f) (hi : In AllD w t) (hS : Shapes w) (hsz : f.size ≤ 1000) (hL : checkF f = c) : Calls Tryd.prog 70 #[t.val] w (Said (.int .i64 c) w) := by
  subst hp hL
  exact check70_walk AllD t w hi hS (by rw [pl_size] at hsz; omega)

set_option maxRecDepth 100000 in
set_option maxHeartbeats 4000000 in
theorem horizonSpans_walk (sl sh : Int) (t : Ft) (w : World) (wl : I64 sl) (wh : I64 sh) (hint : In AllD w t) (hwt : ∀ n, n ∈ t.pre → n.top.n.wf) (hS : Shapes w) : Calls Tryd.prog 21 #[.agg #[.int .i64 sl, .int .i64 sh], t.val] w (Said (.bool true) w) := by
  have hl := ((LawAt.zero w hS).span sl sh).box 28 (hint.quiet ((Alters.refl _).alloc _))
  simp only [World.size_alloc] at hl
  have HL := Go.Lib.hid hl
  have HNUMt := Go.Lib.hid (num_of11 hwt)
  clear hint hwt hS hl
  unfold Ft.val
  go_enter Tryd.func21, Tryd.ntmps21
  go_wp2_with fail
  generalize (w.alloc _).alloc _ = w1 at *
  refine (awake63_walk w1 HL.out.shapes).mono ?_
  rintro e w2 ⟨rfl, hq⟩
  replace HL := Go.Lib.hid (HL.out.keep hq)
  clear hq
  obtain ⟨x00, x01, x02, x03, x04, x05, x06⟩ := HL.out.seven (w.heap.size + 1) 28 t (by simp)
  have HC := Go.Lib.hid (left_any11 AllD t 60 w2 (HL.out.inn (w.heap.size + 1) 28 t (by simp)) (by decide))
  unfold Ft.val at HC
  go_wp2_with fail
  refine HC.out.mono ?_
  rintro e w3 ⟨rfl, hq⟩
  clear x00 x01 x02 x03 x04 x05 x06 HC
  replace HL := Go.Lib.hid (HL.out.keep hq)
  clear hq
  by_cases h0 : leftF (Ft.pl t) 60 ≤ 0
  · have b0 : decide (leftF (Ft.pl t) 60 ≤ 0) = true := by simpa using h0
    clear h0
    go_wp2_with fail
    go_ret
    exact ⟨rfl, HL.out.quiet⟩
  have hz0 := left_size11 h0
  have HZt : Hid (t.size ≤ 60) := Go.Lib.hid (by have := hz0; omega)
  have b0 : decide (leftF (Ft.pl t) 60 ≤ 0) = false := by simpa using h0
  clear hz0 h0
  obtain ⟨x00, x01⟩ := HL.out.two (w.heap.size) (sl) (sh) (by simp)
  have HC := Go.Lib.hid (right34_walk sl sh w3)
  unfold Ft.val at HC
  go_wp2_with fail
  refine HC.out.mono ?_
  rintro e w4 ⟨rfl, hq⟩
  clear x00 x01 HC
  replace HL := Go.Lib.hid (HL.out.keep hq)
  clear hq
  by_cases hr : 0 ≤ sl ∧ sl ≤ sh
  rotate_left
  · have b1 : decide (0 ≤ sl ∧ sl ≤ sh) = false := decide_eq_false hr
    clear hr
    go_wp2_with fail
    go_ret
    exact ⟨rfl, HL.out.quiet⟩
  have b1 : decide (0 ≤ sl ∧ sl ≤ sh) = true := decide_eq_true hr
  have HR := Go.Lib.hid hr
  have HI := Go.Lib.hid wh
  have HIL := Go.Lib.hid wl
  clear hr wh wl
  obtain ⟨x00, x01⟩ := HL.out.two (w.heap.size) (sl) (sh) (by simp)
  obtain ⟨x10, x11, x12, x13, x14, x15, x16⟩ := HL.out.seven (w.heap.size + 1) 28 t (by simp)
  have HC := Go.Lib.hid (ev_v (D := AllD) (f := Ft.pl t) (v := Ft.val t) (w := w4) sl sh allD ⟨t, rfl, rfl, (HL.out.inn (w.heap.size + 1) 28 t (by simp))⟩)
  unfold Ft.val at HC
  go_wp2_with fail
  refine HC.out.mono ?_
  rintro e w5 ⟨v, rfl, ⟨tg, rfl, hpg, hig⟩, hq⟩
  clear x00 x01 x10 x11 x12 x13 x14 x15 x16 HC
  replace HL := Go.Lib.hid (HL.out.keep hq)
  clear hq
  replace HL := Go.Lib.hid (HL.out.box 28 (t := tg) (hig.mono (fun _ _ _ => trivial)))
  have HPtg : Hid (Ft.pl tg = exOne 9 sl sh (Ft.pl t)) := hpg
  clear hig hpg
  unfold Ft.val
  go_upto_region 8 with (fail)
  generalize w5.alloc _ = w6 at *
  obtain ⟨x00, x01, x02, x03, x04, x05, x06⟩ := HL.out.seven (w5.heap.size) 28 tg (by simp)
  obtain ⟨ck, hck⟩ : ∃ c, c = checkF (exOne 9 sl sh (Ft.pl t)) := ⟨_, rfl⟩
  have HCK : Hid (checkF (exOne 9 sl sh (Ft.pl t)) = ck) := Go.Lib.hid hck.symm
  clear hck
  have HC := Go.Lib.hid (check_of HPtg.out (HL.out.inn (w5.heap.size) 28 tg (by simp)) HL.out.shapes (by rw [exOne_size, pl_size]; have := HZt.out; omega) HCK.out)
  unfold Ft.val at HC
  go_wp2_with fail
  refine HC.out.mono ?_
  rintro e w7 ⟨rfl, hq⟩
  clear x00 x01 x02 x03 x04 x05 x06 HC
  replace HL := Go.Lib.hid (HL.out.keep hq)
  clear hq
  by_cases hc : ck = 0
  rotate_left
  · have b2 : (ck == 0) = false := by simpa using hc
    clear hc
    go_wp2_with fail
    go_ret
    exact ⟨rfl, HL.out.quiet⟩
  have b2 : (ck == 0) = true := by simpa using hc
  have HSP := Go.Lib.hid (span_hor (HCK.out.trans hc))
  clear hc
  obtain ⟨h, e, hHH⟩ : ∃ h e, horOf (Ft.pl t) = (h, e) := ⟨_, _, rfl⟩
  have HH := Go.Lib.hid hHH
  clear hHH
  obtain ⟨k, d, hHK⟩ : ∃ h e, horOf (exOne 9 sl sh (Ft.pl t)) = (h, e) := ⟨_, _, rfl⟩
  have HK := Go.Lib.hid hHK
  clear hHK
  rw [HH.out, HK.out] at HSP
  have HRG : Hid (0 ≤ h ∧ h ≤ 9223372036854775807) := Go.Lib.hid (by have := horOf_range (Ft.pl t); rw [HH.out] at this; exact this)
  obtain ⟨x00, x01, x02, x03, x04, x05, x06⟩ := HL.out.seven (w.heap.size + 1) 28 t (by simp)
  have HC := Go.Lib.hid (of_of (f := Ft.pl t) rfl (HL.out.inn (w.heap.size + 1) 28 t (by simp)) HL.out.shapes (by rw [pl_size]; have := HZt.out; omega) HNUMt.out HH.out)
  unfold Ft.val at HC
  go_wp2_with fail
  refine HC.out.mono ?_
  rintro e w8 ⟨rfl, hq⟩
  clear x00 x01 x02 x03 x04 x05 x06 HC
  replace HL := Go.Lib.hid (HL.out.keep hq)
  clear hq
  obtain ⟨x00, x01, x02, x03, x04, x05, x06⟩ := HL.out.seven (w5.heap.size) 28 tg (by simp)
  have HC := Go.Lib.hid (of_of HPtg.out (HL.out.inn (w5.heap.size) 28 tg (by simp)) HL.out.shapes (by rw [exOne_size, pl_size]; have := HZt.out; omega) (an_exOne HIL.out HI.out HNUMt.out) HK.out)
  unfold Ft.val at HC
  go_wp2_with fail
  refine HC.out.mono ?_
  rintro e w9 ⟨rfl, hq⟩
  clear x00 x01 x02 x03 x04 x05 x06 HC
  replace HL := Go.Lib.hid (HL.out.keep hq)
  clear hq
  by_cases he : e = 0
  rotate_left
  · have h9 := HSP.out.2.1 he
    simp only [Prod.mk.injEq] at h9
    obtain ⟨rfl, rfl⟩ := h9
    have b3 : (d == 0) = false := by simpa using he
    clear he
    go_wp2_with fail
    go_ret
    exact ⟨rfl, HL.out.quiet⟩
  have b3 : (e == 0) = true := by simpa using he
  have h9 := HSP.out.2.2 he
  have HSP9 := Go.Lib.hid h9
  clear he h9 HSP
  have HC := fun w => Go.Lib.hid (add71_walk h sh w HRG.out.1 HRG.out.2 (by have := HR.out; omega) (by have := HI.out; unfold I64 at this; omega))
  obtain ⟨x00, x01⟩ := HL.out.two (w.heap.size) (sl) (sh) (by simp)
  go_wp2_with fail
  refine (HC _).out.mono ?_
  rintro e9 w10 ⟨rfl, hq⟩
  clear x00 x01 HC
  replace HL := Go.Lib.hid (HL.out.keep hq)
  clear hq
  by_cases hcut : top63 < h + sh
  · have h9 := HSP9.out
    rw [if_pos hcut] at h9
    simp only [Prod.mk.injEq] at h9
    obtain ⟨rfl, rfl⟩ := h9
    have ec : addCut h sh = (9223372036854775807, true) := by rw [addCut, if_pos hcut]; rfl
    simp only [ec]
    clear hcut ec HSP9
    go_wp2_with fail
    go_ret
    exact ⟨rfl, HL.out.quiet⟩
  · have h9 := HSP9.out
    rw [if_neg hcut] at h9
    simp only [Prod.mk.injEq] at h9
    obtain ⟨rfl, rfl⟩ := h9
    have ec : addCut h sh = (h + sh, false) := by rw [addCut, if_neg hcut]
    simp only [ec]
    clear hcut ec HSP9
    go_wp2_with fail
    go_ret
    exact ⟨rfl, HL.out.quiet⟩
end Go.Proofs.YtnpcakakjhiboaaDoor
