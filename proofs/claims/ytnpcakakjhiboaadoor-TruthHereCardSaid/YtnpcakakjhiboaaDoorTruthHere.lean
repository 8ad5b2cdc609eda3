/- TruthHere: the walk of the law. No condition. -/
import Derived.Test.YtnpcakakjhiboaaDoorLawR
import Derived.Test.YtnpcakakjhiboaaDoorWord
import Derived.Test.YtnpcakakjhiboaaDoorOpenF
namespace Go.Proofs.YtnpcakakjhiboaaDoor
open Go.RowKit Go.Lo Go.WideShapes

set_option maxRecDepth 100000 in
set_option maxHeartbeats 4000000 in
theorem truthHere_walk (t y : Ft) (sl sh : Int) (a : Option Addr) (cap : Nat) (P : List Hp) (w : World) (hint : In AllD w t) (_hwt : ∀ n, n ∈ t.pre → n.top.n.wf) (hiny : In AllD w y) (_hwy : ∀ n, n ∈ y.pre → n.top.n.wf) (_wl : I64 sl) (_wh : I64 sh) (hw : WdAt w a P) (hS : Shapes w) : Calls Tryd.prog 12 #[t.val, y.val, .agg #[.int .i64 sl, .int .i64 sh], .slice a P.length cap] w (Said (.bool true) w) := by
  have hl := (((LawR.zero w hS).box 28 hint).box 28 (hiny.quiet ((Alters.refl _).alloc _))).span sl sh
  simp only [World.size_alloc] at hl
  have HL := Go.Lib.hid hl
  have HW := Go.Lib.hid hw
  clear hint hiny hS hw hl
  unfold Ft.val
  go_enter Tryd.func12, Tryd.ntmps12
  go_wp2_with fail
  generalize ((w.alloc _).alloc _).alloc _ = w1 at *
  refine (awake13_walk w1 HL.out.shapes).mono ?_
  rintro e w2 ⟨rfl, hq⟩
  replace HL := Go.Lib.hid (HL.out.keep hq)
  clear hq
  obtain ⟨x00, x01, x02, x03, x04, x05, x06⟩ := HL.out.seven (w.heap.size) 28 t (by simp)
  have HC := Go.Lib.hid (left_any13 AllD t 30 w2 (HL.out.inn (w.heap.size) 28 t (by simp)) (by decide))
  unfold Ft.val at HC
  go_wp2_with fail
  refine HC.out.mono ?_
  rintro e w3 ⟨rfl, hq⟩
  clear x00 x01 x02 x03 x04 x05 x06 HC
  replace HL := Go.Lib.hid (HL.out.keep hq)
  clear hq
  obtain ⟨x00, x01, x02, x03, x04, x05, x06⟩ := HL.out.seven (w.heap.size + 1) 28 y (by simp)
  have HC := Go.Lib.hid (left_any13 AllD y 30 w3 (HL.out.inn (w.heap.size + 1) 28 y (by simp)) (by decide))
  unfold Ft.val at HC
  go_wp2_with fail
  refine HC.out.mono ?_
  rintro e w4 ⟨rfl, hq⟩
  clear x00 x01 x02 x03 x04 x05 x06 HC
  replace HL := Go.Lib.hid (HL.out.keep hq)
  clear hq
  have HC := Go.Lib.hid (few47_walk a cap P w4 (HW.out.quiet HL.out.quiet))
  go_wp2_with fail
  refine HC.out.mono ?_
  rintro e w5 ⟨rfl, hq⟩
  clear HC
  replace HL := Go.Lib.hid (HL.out.keep hq)
  clear hq
  by_cases h0 : leftF (Ft.pl t) 30 ≤ 0
  · have b0 : decide (leftF (Ft.pl t) 30 ≤ 0) = true := by simpa using h0
    clear h0
    go_wp2_with fail
    go_ret
    exact ⟨rfl, HL.out.quiet⟩
  by_cases h1 : leftF (Ft.pl y) 30 ≤ 0
  · have b0 : decide (leftF (Ft.pl y) 30 ≤ 0) = true := by simpa using h1
    clear h1
    go_wp2_with fail
    go_ret
    exact ⟨rfl, HL.out.quiet⟩
  have hz0 := left_size13 h0
  have HZt : Hid (t.size ≤ 30) := Go.Lib.hid (by have := hz0; omega)
  have b0 : decide (leftF (Ft.pl t) 30 ≤ 0) = false := by simpa using h0
  clear hz0 h0
  have hz1 := left_size13 h1
  have HZy : Hid (y.size ≤ 30) := Go.Lib.hid (by have := hz1; omega)
  have b1 : decide (leftF (Ft.pl y) 30 ≤ 0) = false := by simpa using h1
  clear hz1 h1
  cases hf : fewW P
  · go_wp2_with fail
    go_ret
    exact ⟨rfl, HL.out.quiet⟩
  have HPL : Hid (P.length ≤ 10000) := Go.Lib.hid (by have := fewW_len hf; omega)
  have HRL : Hid (∀ f, (rowF f (pts P)).length ≤ 10000) := Go.Lib.hid (fun f => Nat.le_trans (rowF_len _ _) (by rw [pts_len]; exact HPL.out))
  obtain ⟨x00, x01⟩ := HL.out.two (w.heap.size + 1 + 1) (sl) (sh) (by simp)
  have HC := Go.Lib.hid (right34_walk sl sh w5)
  by_cases hf : 0 ≤ sl ∧ sl ≤ sh
  rotate_left
  · rw [show decide (0 ≤ sl ∧ sl ≤ sh) = false by simpa using hf] at HC
    try unfold Ft.val at HC
    clear hf
    go_wp2_with fail
    refine HC.out.mono ?_
    rintro e w6 ⟨rfl, hq⟩
    clear x00 x01 HC
    replace HL := Go.Lib.hid (HL.out.keep hq)
    clear hq
    go_wp2_with fail
    go_ret
    exact ⟨rfl, HL.out.quiet⟩
  rw [show decide (0 ≤ sl ∧ sl ≤ sh) = true by simpa using hf] at HC
  try unfold Ft.val at HC
  have HLH := Go.Lib.hid hf
  clear hf
  go_wp2_with fail
  refine HC.out.mono ?_
  rintro e w6 ⟨rfl, hq⟩
  clear x00 x01 HC
  replace HL := Go.Lib.hid (HL.out.keep hq)
  clear hq
  clear b0 b1
  go_upto_region 10 with (fail)
  replace HL := Go.Lib.hid (HL.out.span 0 0)
  generalize w6.alloc _ = w7 at *
  go_upto_region 11 with (fail)
  replace HL := Go.Lib.hid (HL.out.leaf 1)
  generalize w7.alloc _ = w8 at *
  go_upto_region 12 with (fail)
  replace HL := Go.Lib.hid (HL.out.leaf 2)
  generalize w8.alloc _ = w9 at *
  obtain ⟨K, hK⟩ : ∃ l, l = rowF (Ft.pl t) (pts P) := ⟨_, rfl⟩
  have HK : Hid (rowF (Ft.pl t) (pts P) = K) := Go.Lib.hid hK.symm
  have HKL : Hid (K.length ≤ 10000) := Go.Lib.hid (by rw [hK]; exact HRL.out _)
  clear hK
  obtain ⟨x00, x01, x02, x03, x04, x05, x06⟩ := HL.out.seven (w.heap.size) 28 t (by simp)
  have HC := Go.Lib.hid (row_of (c := cap) (f := Ft.pl t) rfl (HL.out.inn (w.heap.size) 28 t (by simp)) HL.out.shapes (by (repeat first | rw [exOne_size] | rw [exTwo_size] | rw [pl_size] | rw [leaf_size]); have := HZt.out; have := HZy.out; omega) (HW.out.quiet HL.out.quiet) HPL.out HK.out)
  unfold Ft.val at HC
  go_wp2_with fail
  refine HC.out.mono ?_
  rintro e w10 ⟨rl, cl, rfl, hl, hq⟩
  clear x00 x01 x02 x03 x04 x05 x06 HC
  replace HL := Go.Lib.hid ((HL.out.keep hq).row hl)
  clear hl
  clear hq
  obtain ⟨x00, x01⟩ := HL.out.two (w6.heap.size) (0) (0) (by simp)
  obtain ⟨x10, x11, x12, x13, x14, x15, x16⟩ := HL.out.seven (w.heap.size) 28 t (by simp)
  have HC := Go.Lib.hid (one_v13 (D := AllD) (f := Ft.pl t) 9 0 0 allD ⟨t, rfl, rfl, (HL.out.inn (w.heap.size) 28 t (by simp))⟩)
  unfold Ft.val at HC
  go_wp2_with fail
  refine HC.out.mono ?_
  rintro e w11 ⟨v, rfl, ⟨ta, rfl, hpa, hia⟩, hq⟩
  clear x00 x01 x10 x11 x12 x13 x14 x15 x16 HC
  replace HL := Go.Lib.hid (HL.out.keep hq)
  clear hq
  unfold Ft.val
  have HC := Go.Lib.hid (row_of (c := cap) (f := exOne 9 0 0 (Ft.pl t)) hpa hia HL.out.shapes (by (repeat first | rw [exOne_size] | rw [exTwo_size] | rw [pl_size] | rw [leaf_size]); have := HZt.out; have := HZy.out; omega) (HW.out.quiet HL.out.quiet) HPL.out (row_ev0.trans HK.out))
  unfold Ft.val at HC
  go_wp2_with fail
  refine HC.out.mono ?_
  rintro e w12 ⟨ra, ca, rfl, ha, hq⟩
  clear  HC
  clear hpa hia
  replace HL := Go.Lib.hid ((HL.out.keep hq).row ha)
  clear ha
  clear hq
  obtain ⟨x00, x01⟩ := HL.out.two (w6.heap.size) (0) (0) (by simp)
  obtain ⟨x10, x11, x12, x13, x14, x15, x16⟩ := HL.out.seven (w.heap.size) 28 t (by simp)
  have HC := Go.Lib.hid (one_v13 (D := AllD) (f := Ft.pl t) 10 0 0 allD ⟨t, rfl, rfl, (HL.out.inn (w.heap.size) 28 t (by simp))⟩)
  unfold Ft.val at HC
  go_wp2_with fail
  refine HC.out.mono ?_
  rintro e w13 ⟨v, rfl, ⟨ta, rfl, hpa, hia⟩, hq⟩
  clear x00 x01 x10 x11 x12 x13 x14 x15 x16 HC
  replace HL := Go.Lib.hid (HL.out.keep hq)
  clear hq
  unfold Ft.val
  have HC := Go.Lib.hid (row_of (c := cap) (f := exOne 10 0 0 (Ft.pl t)) hpa hia HL.out.shapes (by (repeat first | rw [exOne_size] | rw [exTwo_size] | rw [pl_size] | rw [leaf_size]); have := HZt.out; have := HZy.out; omega) (HW.out.quiet HL.out.quiet) HPL.out (row_al0.trans HK.out))
  unfold Ft.val at HC
  go_wp2_with fail
  refine HC.out.mono ?_
  rintro e w14 ⟨rb, cb, rfl, hb, hq⟩
  clear  HC
  clear hpa hia
  replace HL := Go.Lib.hid ((HL.out.keep hq).row hb)
  clear hb
  clear hq
  have HC := Go.Lib.hid (same39_eq ra ca rl cl K _ (HL.out.bl ra K (by simp)) (HL.out.bl rl K (by simp)) HKL.out)
  go_wp2_with fail
  refine HC.out.mono ?_
  rintro e w15 ⟨rfl, hq⟩
  clear HC
  replace HL := Go.Lib.hid (HL.out.keep hq)
  clear hq
  have HC := Go.Lib.hid (same39_eq rb cb rl cl K _ (HL.out.bl rb K (by simp)) (HL.out.bl rl K (by simp)) HKL.out)
  go_wp2_with fail
  refine HC.out.mono ?_
  rintro e w16 ⟨rfl, hq⟩
  clear HC
  replace HL := Go.Lib.hid (HL.out.keep hq)
  clear hq
  obtain ⟨E, hE⟩ : ∃ l, l = rowF (exOne 9 sl sh (Ft.pl t)) (pts P) := ⟨_, rfl⟩
  have HE : Hid (rowF (exOne 9 sl sh (Ft.pl t)) (pts P) = E) := Go.Lib.hid hE.symm
  have HEL : Hid (E.length ≤ 10000) := Go.Lib.hid (by rw [hE]; exact HRL.out _)
  clear hE
  obtain ⟨H, hH⟩ : ∃ l, l = rowF (exOne 10 sl sh (Ft.pl t)) (pts P) := ⟨_, rfl⟩
  have HH : Hid (rowF (exOne 10 sl sh (Ft.pl t)) (pts P) = H) := Go.Lib.hid hH.symm
  have HHL : Hid (H.length ≤ 10000) := Go.Lib.hid (by rw [hH]; exact HRL.out _)
  clear hH
  obtain ⟨x00, x01, x02, x03, x04, x05, x06⟩ := HL.out.seven (w.heap.size + 1) 28 y (by simp)
  have HC := Go.Lib.hid (sound_walk AllD y w16 (HL.out.inn (w.heap.size + 1) 28 y (by simp)) HL.out.shapes (by have := HZy.out; omega))
  unfold Ft.val at HC
  by_cases hf : first (Ft.pl y) = 0
  · rw [show decide (first (Ft.pl y) = 0) = true by simpa using hf] at HC
    have HSy := Go.Lib.hid ((first_zero _).1 hf)
    clear hf
    go_wp2_with fail
    refine HC.out.mono ?_
    rintro e w17 ⟨rfl, hq⟩
    clear x00 x01 x02 x03 x04 x05 x06 HC
    replace HL := Go.Lib.hid (HL.out.keep hq)
    clear hq
    obtain ⟨x00, x01⟩ := HL.out.two (w6.heap.size) (0) (0) (by simp)
    obtain ⟨x10, x11, x12, x13, x14, x15, x16⟩ := HL.out.seven (w.heap.size + 1) 28 y (by simp)
    obtain ⟨x20, x21, x22, x23, x24, x25, x26⟩ := HL.out.seven (w.heap.size) 28 t (by simp)
    have HC := Go.Lib.hid (two_v13 (D := AllD) (f := Ft.pl y) (g := Ft.pl t) 11 0 0 allD ⟨y, rfl, rfl, (HL.out.inn (w.heap.size + 1) 28 y (by simp))⟩ ⟨t, rfl, rfl, (HL.out.inn (w.heap.size) 28 t (by simp))⟩)
    unfold Ft.val at HC
    go_wp2_with fail
    refine HC.out.mono ?_
    rintro e w18 ⟨v, rfl, ⟨ta, rfl, hpa, hia⟩, hq⟩
    clear x00 x01 x10 x11 x12 x13 x14 x15 x16 x20 x21 x22 x23 x24 x25 x26 HC
    replace HL := Go.Lib.hid (HL.out.keep hq)
    clear hq
    unfold Ft.val
    have HC := Go.Lib.hid (row_of (c := cap) (f := exTwo 11 0 0 (Ft.pl y) (Ft.pl t)) hpa hia HL.out.shapes (by (repeat first | rw [exOne_size] | rw [exTwo_size] | rw [pl_size] | rw [leaf_size]); have := HZt.out; have := HZy.out; omega) (HW.out.quiet HL.out.quiet) HPL.out ((row_un0 HSy.out).trans HK.out))
    unfold Ft.val at HC
    go_wp2_with fail
    refine HC.out.mono ?_
    rintro e w19 ⟨rc, cc, rfl, hc, hq⟩
    clear  HC
    clear hpa hia
    replace HL := Go.Lib.hid ((HL.out.keep hq).row hc)
    clear hc
    clear hq
    obtain ⟨x00, x01⟩ := HL.out.two (w6.heap.size) (0) (0) (by simp)
    obtain ⟨x10, x11, x12, x13, x14, x15, x16⟩ := HL.out.seven (w.heap.size + 1) 28 y (by simp)
    obtain ⟨x20, x21, x22, x23, x24, x25, x26⟩ := HL.out.seven (w.heap.size) 28 t (by simp)
    have HC := Go.Lib.hid (two_v13 (D := AllD) (f := Ft.pl y) (g := Ft.pl t) 12 0 0 allD ⟨y, rfl, rfl, (HL.out.inn (w.heap.size + 1) 28 y (by simp))⟩ ⟨t, rfl, rfl, (HL.out.inn (w.heap.size) 28 t (by simp))⟩)
    unfold Ft.val at HC
    go_wp2_with fail
    refine HC.out.mono ?_
    rintro e w20 ⟨v, rfl, ⟨ta, rfl, hpa, hia⟩, hq⟩
    clear x00 x01 x10 x11 x12 x13 x14 x15 x16 x20 x21 x22 x23 x24 x25 x26 HC
    replace HL := Go.Lib.hid (HL.out.keep hq)
    clear hq
    unfold Ft.val
    have HC := Go.Lib.hid (row_of (c := cap) (f := exTwo 12 0 0 (Ft.pl y) (Ft.pl t)) hpa hia HL.out.shapes (by (repeat first | rw [exOne_size] | rw [exTwo_size] | rw [pl_size] | rw [leaf_size]); have := HZt.out; have := HZy.out; omega) (HW.out.quiet HL.out.quiet) HPL.out ((row_re0 HSy.out).trans HK.out))
    unfold Ft.val at HC
    go_wp2_with fail
    refine HC.out.mono ?_
    rintro e w21 ⟨rd, cd, rfl, hd, hq⟩
    clear  HC
    clear hpa hia
    replace HL := Go.Lib.hid ((HL.out.keep hq).row hd)
    clear hd
    clear hq
    have HC := Go.Lib.hid (same39_eq rc cc rl cl K _ (HL.out.bl rc K (by simp)) (HL.out.bl rl K (by simp)) HKL.out)
    go_wp2_with fail
    refine HC.out.mono ?_
    rintro e w22 ⟨rfl, hq⟩
    clear HC
    replace HL := Go.Lib.hid (HL.out.keep hq)
    clear hq
    have HC := Go.Lib.hid (same39_eq rd cd rl cl K _ (HL.out.bl rd K (by simp)) (HL.out.bl rl K (by simp)) HKL.out)
    go_wp2_with fail
    refine HC.out.mono ?_
    rintro e w23 ⟨rfl, hq⟩
    clear HC
    replace HL := Go.Lib.hid (HL.out.keep hq)
    clear hq
    obtain ⟨x00, x01⟩ := HL.out.two (w.heap.size + 1 + 1) (sl) (sh) (by simp)
    obtain ⟨x10, x11, x12, x13, x14, x15, x16⟩ := HL.out.leaf7 (w7.heap.size) 1 (by simp)
    obtain ⟨x20, x21, x22, x23, x24, x25, x26⟩ := HL.out.seven (w.heap.size) 28 t (by simp)
    have HC := Go.Lib.hid (two_v13 (D := AllD) (f := leaf 1) (g := Ft.pl t) 11 sl sh allD (made_leaf 1 _) ⟨t, rfl, rfl, (HL.out.inn (w.heap.size) 28 t (by simp))⟩)
    unfold Ft.val at HC
    go_wp2_with fail
    refine HC.out.mono ?_
    rintro e w24 ⟨v, rfl, ⟨ta, rfl, hpa, hia⟩, hq⟩
    clear x00 x01 x10 x11 x12 x13 x14 x15 x16 x20 x21 x22 x23 x24 x25 x26 HC
    replace HL := Go.Lib.hid (HL.out.keep hq)
    clear hq
    unfold Ft.val
    have HC := Go.Lib.hid (row_of (c := cap) (f := exTwo 11 sl sh (leaf 1) (Ft.pl t)) hpa hia HL.out.shapes (by (repeat first | rw [exOne_size] | rw [exTwo_size] | rw [pl_size] | rw [leaf_size]); have := HZt.out; have := HZy.out; omega) (HW.out.quiet HL.out.quiet) HPL.out ((row_un1 HLH.out.1 HLH.out.2).trans HE.out))
    unfold Ft.val at HC
    go_wp2_with fail
    refine HC.out.mono ?_
    rintro e w25 ⟨re, ce, rfl, he, hq⟩
    clear  HC
    clear hpa hia
    replace HL := Go.Lib.hid ((HL.out.keep hq).row he)
    clear he
    clear hq
    obtain ⟨x00, x01⟩ := HL.out.two (w.heap.size + 1 + 1) (sl) (sh) (by simp)
    obtain ⟨x10, x11, x12, x13, x14, x15, x16⟩ := HL.out.leaf7 (w8.heap.size) 2 (by simp)
    obtain ⟨x20, x21, x22, x23, x24, x25, x26⟩ := HL.out.seven (w.heap.size) 28 t (by simp)
    have HC := Go.Lib.hid (two_v13 (D := AllD) (f := leaf 2) (g := Ft.pl t) 12 sl sh allD (made_leaf 2 _) ⟨t, rfl, rfl, (HL.out.inn (w.heap.size) 28 t (by simp))⟩)
    unfold Ft.val at HC
    go_wp2_with fail
    refine HC.out.mono ?_
    rintro e w26 ⟨v, rfl, ⟨ta, rfl, hpa, hia⟩, hq⟩
    clear x00 x01 x10 x11 x12 x13 x14 x15 x16 x20 x21 x22 x23 x24 x25 x26 HC
    replace HL := Go.Lib.hid (HL.out.keep hq)
    clear hq
    unfold Ft.val
    have HC := Go.Lib.hid (row_of (c := cap) (f := exTwo 12 sl sh (leaf 2) (Ft.pl t)) hpa hia HL.out.shapes (by (repeat first | rw [exOne_size] | rw [exTwo_size] | rw [pl_size] | rw [leaf_size]); have := HZt.out; have := HZy.out; omega) (HW.out.quiet HL.out.quiet) HPL.out ((row_re2 HLH.out.1 HLH.out.2).trans HH.out))
    unfold Ft.val at HC
    go_wp2_with fail
    refine HC.out.mono ?_
    rintro e w27 ⟨rh, ch, rfl, hh, hq⟩
    clear  HC
    clear hpa hia
    replace HL := Go.Lib.hid ((HL.out.keep hq).row hh)
    clear hh
    clear hq
    obtain ⟨x00, x01⟩ := HL.out.two (w.heap.size + 1 + 1) (sl) (sh) (by simp)
    obtain ⟨x10, x11, x12, x13, x14, x15, x16⟩ := HL.out.seven (w.heap.size) 28 t (by simp)
    have HC := Go.Lib.hid (one_v13 (D := AllD) (f := Ft.pl t) 9 sl sh allD ⟨t, rfl, rfl, (HL.out.inn (w.heap.size) 28 t (by simp))⟩)
    unfold Ft.val at HC
    go_wp2_with fail
    refine HC.out.mono ?_
    rintro e w28 ⟨v, rfl, ⟨ta, rfl, hpa, hia⟩, hq⟩
    clear x00 x01 x10 x11 x12 x13 x14 x15 x16 HC
    replace HL := Go.Lib.hid (HL.out.keep hq)
    clear hq
    unfold Ft.val
    have HC := Go.Lib.hid (row_of (c := cap) (f := exOne 9 sl sh (Ft.pl t)) hpa hia HL.out.shapes (by (repeat first | rw [exOne_size] | rw [exTwo_size] | rw [pl_size] | rw [leaf_size]); have := HZt.out; have := HZy.out; omega) (HW.out.quiet HL.out.quiet) HPL.out HE.out)
    unfold Ft.val at HC
    go_wp2_with fail
    refine HC.out.mono ?_
    rintro e w29 ⟨rm, cm, rfl, hm, hq⟩
    clear  HC
    clear hpa hia
    replace HL := Go.Lib.hid ((HL.out.keep hq).row hm)
    clear hm
    clear hq
    have HC := Go.Lib.hid (same39_eq re ce rm cm E _ (HL.out.bl re E (by simp)) (HL.out.bl rm E (by simp)) HEL.out)
    go_wp2_with fail
    refine HC.out.mono ?_
    rintro e w30 ⟨rfl, hq⟩
    clear HC
    replace HL := Go.Lib.hid (HL.out.keep hq)
    clear hq
    obtain ⟨x00, x01⟩ := HL.out.two (w.heap.size + 1 + 1) (sl) (sh) (by simp)
    obtain ⟨x10, x11, x12, x13, x14, x15, x16⟩ := HL.out.seven (w.heap.size) 28 t (by simp)
    have HC := Go.Lib.hid (one_v13 (D := AllD) (f := Ft.pl t) 10 sl sh allD ⟨t, rfl, rfl, (HL.out.inn (w.heap.size) 28 t (by simp))⟩)
    unfold Ft.val at HC
    go_wp2_with fail
    refine HC.out.mono ?_
    rintro e w31 ⟨v, rfl, ⟨ta, rfl, hpa, hia⟩, hq⟩
    clear x00 x01 x10 x11 x12 x13 x14 x15 x16 HC
    replace HL := Go.Lib.hid (HL.out.keep hq)
    clear hq
    unfold Ft.val
    have HC := Go.Lib.hid (row_of (c := cap) (f := exOne 10 sl sh (Ft.pl t)) hpa hia HL.out.shapes (by (repeat first | rw [exOne_size] | rw [exTwo_size] | rw [pl_size] | rw [leaf_size]); have := HZt.out; have := HZy.out; omega) (HW.out.quiet HL.out.quiet) HPL.out HH.out)
    unfold Ft.val at HC
    go_wp2_with fail
    refine HC.out.mono ?_
    rintro e w32 ⟨rn, cn, rfl, hn, hq⟩
    clear  HC
    clear hpa hia
    replace HL := Go.Lib.hid ((HL.out.keep hq).row hn)
    clear hn
    clear hq
    have HC := Go.Lib.hid (same39_eq rh ch rn cn H _ (HL.out.bl rh H (by simp)) (HL.out.bl rn H (by simp)) HHL.out)
    go_wp2_with fail
    refine HC.out.mono ?_
    rintro e w33 ⟨rfl, hq⟩
    clear HC
    replace HL := Go.Lib.hid (HL.out.keep hq)
    clear hq
    go_wp2_with fail
    go_ret
    exact ⟨rfl, HL.out.quiet⟩
  · rw [show decide (first (Ft.pl y) = 0) = false by simpa using hf] at HC
    clear hf
    go_wp2_with fail
    refine HC.out.mono ?_
    rintro e w17 ⟨rfl, hq⟩
    clear x00 x01 x02 x03 x04 x05 x06 HC
    replace HL := Go.Lib.hid (HL.out.keep hq)
    clear hq
    obtain ⟨x00, x01⟩ := HL.out.two (w.heap.size + 1 + 1) (sl) (sh) (by simp)
    obtain ⟨x10, x11, x12, x13, x14, x15, x16⟩ := HL.out.leaf7 (w7.heap.size) 1 (by simp)
    obtain ⟨x20, x21, x22, x23, x24, x25, x26⟩ := HL.out.seven (w.heap.size) 28 t (by simp)
    have HC := Go.Lib.hid (two_v13 (D := AllD) (f := leaf 1) (g := Ft.pl t) 11 sl sh allD (made_leaf 1 _) ⟨t, rfl, rfl, (HL.out.inn (w.heap.size) 28 t (by simp))⟩)
    unfold Ft.val at HC
    go_wp2_with fail
    refine HC.out.mono ?_
    rintro e w18 ⟨v, rfl, ⟨ta, rfl, hpa, hia⟩, hq⟩
    clear x00 x01 x10 x11 x12 x13 x14 x15 x16 x20 x21 x22 x23 x24 x25 x26 HC
    replace HL := Go.Lib.hid (HL.out.keep hq)
    clear hq
    unfold Ft.val
    have HC := Go.Lib.hid (row_of (c := cap) (f := exTwo 11 sl sh (leaf 1) (Ft.pl t)) hpa hia HL.out.shapes (by (repeat first | rw [exOne_size] | rw [exTwo_size] | rw [pl_size] | rw [leaf_size]); have := HZt.out; have := HZy.out; omega) (HW.out.quiet HL.out.quiet) HPL.out ((row_un1 HLH.out.1 HLH.out.2).trans HE.out))
    unfold Ft.val at HC
    go_wp2_with fail
    refine HC.out.mono ?_
    rintro e w19 ⟨re, ce, rfl, he, hq⟩
    clear  HC
    clear hpa hia
    replace HL := Go.Lib.hid ((HL.out.keep hq).row he)
    clear he
    clear hq
    obtain ⟨x00, x01⟩ := HL.out.two (w.heap.size + 1 + 1) (sl) (sh) (by simp)
    obtain ⟨x10, x11, x12, x13, x14, x15, x16⟩ := HL.out.leaf7 (w8.heap.size) 2 (by simp)
    obtain ⟨x20, x21, x22, x23, x24, x25, x26⟩ := HL.out.seven (w.heap.size) 28 t (by simp)
    have HC := Go.Lib.hid (two_v13 (D := AllD) (f := leaf 2) (g := Ft.pl t) 12 sl sh allD (made_leaf 2 _) ⟨t, rfl, rfl, (HL.out.inn (w.heap.size) 28 t (by simp))⟩)
    unfold Ft.val at HC
    go_wp2_with fail
    refine HC.out.mono ?_
    rintro e w20 ⟨v, rfl, ⟨ta, rfl, hpa, hia⟩, hq⟩
    clear x00 x01 x10 x11 x12 x13 x14 x15 x16 x20 x21 x22 x23 x24 x25 x26 HC
    replace HL := Go.Lib.hid (HL.out.keep hq)
    clear hq
    unfold Ft.val
    have HC := Go.Lib.hid (row_of (c := cap) (f := exTwo 12 sl sh (leaf 2) (Ft.pl t)) hpa hia HL.out.shapes (by (repeat first | rw [exOne_size] | rw [exTwo_size] | rw [pl_size] | rw [leaf_size]); have := HZt.out; have := HZy.out; omega) (HW.out.quiet HL.out.quiet) HPL.out ((row_re2 HLH.out.1 HLH.out.2).trans HH.out))
    unfold Ft.val at HC
    go_wp2_with fail
    refine HC.out.mono ?_
    rintro e w21 ⟨rh, ch, rfl, hh, hq⟩
    clear  HC
    clear hpa hia
    replace HL := Go.Lib.hid ((HL.out.keep hq).row hh)
    clear hh
    clear hq
    obtain ⟨x00, x01⟩ := HL.out.two (w.heap.size + 1 + 1) (sl) (sh) (by simp)
    obtain ⟨x10, x11, x12, x13, x14, x15, x16⟩ := HL.out.seven (w.heap.size) 28 t (by simp)
    have HC := Go.Lib.hid (one_v13 (D := AllD) (f := Ft.pl t) 9 sl sh allD ⟨t, rfl, rfl, (HL.out.inn (w.heap.size) 28 t (by simp))⟩)
    unfold Ft.val at HC
    go_wp2_with fail
    refine HC.out.mono ?_
    rintro e w22 ⟨v, rfl, ⟨ta, rfl, hpa, hia⟩, hq⟩
    clear x00 x01 x10 x11 x12 x13 x14 x15 x16 HC
    replace HL := Go.Lib.hid (HL.out.keep hq)
    clear hq
    unfold Ft.val
    have HC := Go.Lib.hid (row_of (c := cap) (f := exOne 9 sl sh (Ft.pl t)) hpa hia HL.out.shapes (by (repeat first | rw [exOne_size] | rw [exTwo_size] | rw [pl_size] | rw [leaf_size]); have := HZt.out; have := HZy.out; omega) (HW.out.quiet HL.out.quiet) HPL.out HE.out)
    unfold Ft.val at HC
    go_wp2_with fail
    refine HC.out.mono ?_
    rintro e w23 ⟨rm, cm, rfl, hm, hq⟩
    clear  HC
    clear hpa hia
    replace HL := Go.Lib.hid ((HL.out.keep hq).row hm)
    clear hm
    clear hq
    have HC := Go.Lib.hid (same39_eq re ce rm cm E _ (HL.out.bl re E (by simp)) (HL.out.bl rm E (by simp)) HEL.out)
    go_wp2_with fail
    refine HC.out.mono ?_
    rintro e w24 ⟨rfl, hq⟩
    clear HC
    replace HL := Go.Lib.hid (HL.out.keep hq)
    clear hq
    obtain ⟨x00, x01⟩ := HL.out.two (w.heap.size + 1 + 1) (sl) (sh) (by simp)
    obtain ⟨x10, x11, x12, x13, x14, x15, x16⟩ := HL.out.seven (w.heap.size) 28 t (by simp)
    have HC := Go.Lib.hid (one_v13 (D := AllD) (f := Ft.pl t) 10 sl sh allD ⟨t, rfl, rfl, (HL.out.inn (w.heap.size) 28 t (by simp))⟩)
    unfold Ft.val at HC
    go_wp2_with fail
    refine HC.out.mono ?_
    rintro e w25 ⟨v, rfl, ⟨ta, rfl, hpa, hia⟩, hq⟩
    clear x00 x01 x10 x11 x12 x13 x14 x15 x16 HC
    replace HL := Go.Lib.hid (HL.out.keep hq)
    clear hq
    unfold Ft.val
    have HC := Go.Lib.hid (row_of (c := cap) (f := exOne 10 sl sh (Ft.pl t)) hpa hia HL.out.shapes (by (repeat first | rw [exOne_size] | rw [exTwo_size] | rw [pl_size] | rw [leaf_size]); have := HZt.out; have := HZy.out; omega) (HW.out.quiet HL.out.quiet) HPL.out HH.out)
    unfold Ft.val at HC
    go_wp2_with fail
    refine HC.out.mono ?_
    rintro e w26 ⟨rn, cn, rfl, hn, hq⟩
    clear  HC
    clear hpa hia
    replace HL := Go.Lib.hid ((HL.out.keep hq).row hn)
    clear hn
    clear hq
    have HC := Go.Lib.hid (same39_eq rh ch rn cn H _ (HL.out.bl rh H (by simp)) (HL.out.bl rn H (by simp)) HHL.out)
    go_wp2_with fail
    refine HC.out.mono ?_
    rintro e w27 ⟨rfl, hq⟩
    clear HC
    replace HL := Go.Lib.hid (HL.out.keep hq)
    clear hq
    go_wp2_with fail
    go_ret
    exact ⟨rfl, HL.out.quiet⟩
end Go.Proofs.YtnpcakakjhiboaaDoor
