/- TruthWider: the walk of the law. No condition. -/
import Derived.Test.YtnpcakakjhiboaaDoorLawR
import Derived.Test.YtnpcakakjhiboaaDoorWord
import Derived.Test.YtnpcakakjhiboaaDoorOpenF
namespace Go.Proofs.YtnpcakakjhiboaaDoor
open Go.RowKit Go.Lo Go.WideShapes

set_option maxRecDepth 100000 in
set_option maxHeartbeats 4000000 in
theorem truthWider_walk (t y : Ft) (sl sh ol oh : Int) (a : Option Addr) (cap : Nat) (P : List Hp) (w : World) (hint : In AllD w t) (_hwt : ∀ n, n ∈ t.pre → n.top.n.wf) (hiny : In AllD w y) (_hwy : ∀ n, n ∈ y.pre → n.top.n.wf) (_wl : I64 sl) (_wh : I64 sh) (_vl : I64 ol) (_vh : I64 oh) (hw : WdAt w a P) (hS : Shapes w) : Calls Tryd.prog 11 #[t.val, y.val, .agg #[.int .i64 sl, .int .i64 sh], .agg #[.int .i64 ol, .int .i64 oh], .slice a P.length cap] w (Said (.bool true) w) := by
  have hl := ((((LawR.zero w hS).box 28 hint).box 28 (hiny.quiet ((Alters.refl _).alloc _))).span sl sh).span ol oh
  simp only [World.size_alloc] at hl
  have HL := Go.Lib.hid hl
  have HW := Go.Lib.hid hw
  clear hint hiny hS hw hl
  unfold Ft.val
  go_enter Tryd.func11, Tryd.ntmps11
  go_wp2_with fail
  generalize (((w.alloc _).alloc _).alloc _).alloc _ = w1 at *
  refine (awake13_walk w1 HL.out.shapes).mono ?_
  rintro e w2 ⟨rfl, hq⟩
  replace HL := Go.Lib.hid (HL.out.keep hq)
  clear hq
  obtain ⟨x00, x01, x02, x03, x04, x05, x06⟩ := HL.out.seven (w.heap.size) 28 t (by simp)
  have HC := Go.Lib.hid (left_any13 AllD t 30 w2 (HL.out.inn (w.heap.size) 28 t (by simp)) (by decide))
  unfold Ft.val at HC
  go_wp2_with fail
  refine HC.out.mono ?_
  rintro e w3 ⟨rfl, hq⟩
  clear x00 x01 x02 x03 x04 x05 x06 HC
  replace HL := Go.Lib.hid (HL.out.keep hq)
  clear hq
  obtain ⟨x00, x01, x02, x03, x04, x05, x06⟩ := HL.out.seven (w.heap.size + 1) 28 y (by simp)
  have HC := Go.Lib.hid (left_any13 AllD y 30 w3 (HL.out.inn (w.heap.size + 1) 28 y (by simp)) (by decide))
  unfold Ft.val at HC
  go_wp2_with fail
  refine HC.out.mono ?_
  rintro e w4 ⟨rfl, hq⟩
  clear x00 x01 x02 x03 x04 x05 x06 HC
  replace HL := Go.Lib.hid (HL.out.keep hq)
  clear hq
  have HC := Go.Lib.hid (few47_walk a cap P w4 (HW.out.quiet HL.out.quiet))
  go_wp2_with fail
  refine HC.out.mono ?_
  rintro e w5 ⟨rfl, hq⟩
  clear HC
  replace HL := Go.Lib.hid (HL.out.keep hq)
  clear hq
  by_cases h0 : leftF (Ft.pl t) 30 ≤ 0
  · have b0 : decide (leftF (Ft.pl t) 30 ≤ 0) = true := by simpa using h0
    clear h0
    go_wp2_with fail
    go_ret
    exact ⟨rfl, HL.out.quiet⟩
  by_cases h1 : leftF (Ft.pl y) 30 ≤ 0
  · have b0 : decide (leftF (Ft.pl y) 30 ≤ 0) = true := by simpa using h1
    clear h1
    go_wp2_with fail
    go_ret
    exact ⟨rfl, HL.out.quiet⟩
  have hz0 := left_size13 h0
  have HZt : Hid (t.size ≤ 30) := Go.Lib.hid (by have := hz0; omega)
  have b0 : decide (leftF (Ft.pl t) 30 ≤ 0) = false := by simpa using h0
  clear hz0 h0
  have hz1 := left_size13 h1
  have HZy : Hid (y.size ≤ 30) := Go.Lib.hid (by have := hz1; omega)
  have b1 : decide (leftF (Ft.pl y) 30 ≤ 0) = false := by simpa using h1
  clear hz1 h1
  cases hf : fewW P
  · go_wp2_with fail
    go_ret
    exact ⟨rfl, HL.out.quiet⟩
  have HPL : Hid (P.length ≤ 10000) := Go.Lib.hid (by have := fewW_len hf; omega)
  have HRL : Hid (∀ f, (rowF f (pts P)).length ≤ 10000) := Go.Lib.hid (fun f => Nat.le_trans (rowF_len _ _) (by rw [pts_len]; exact HPL.out))
  obtain ⟨x00, x01⟩ := HL.out.two (w.heap.size + 1 + 1) (sl) (sh) (by simp)
  have HC := Go.Lib.hid (right34_walk sl sh w5)
  by_cases hf : 0 ≤ sl ∧ sl ≤ sh
  rotate_left
  · rw [show decide (0 ≤ sl ∧ sl ≤ sh) = false by simpa using hf] at HC
    try unfold Ft.val at HC
    clear hf
    go_wp2_with fail
    refine HC.out.mono ?_
    rintro e w6 ⟨rfl, hq⟩
    clear x00 x01 HC
    replace HL := Go.Lib.hid (HL.out.keep hq)
    clear hq
    go_wp2_with fail
    go_ret
    exact ⟨rfl, HL.out.quiet⟩
  rw [show decide (0 ≤ sl ∧ sl ≤ sh) = true by simpa using hf] at HC
  try unfold Ft.val at HC
  have HLH := Go.Lib.hid hf
  clear hf
  go_wp2_with fail
  refine HC.out.mono ?_
  rintro e w6 ⟨rfl, hq⟩
  clear x00 x01 HC
  replace HL := Go.Lib.hid (HL.out.keep hq)
  clear hq
  obtain ⟨x00, x01⟩ := HL.out.two (w.heap.size + 1 + 1 + 1) (ol) (oh) (by simp)
  have HC := Go.Lib.hid (right34_walk ol oh w6)
  by_cases hf : 0 ≤ ol ∧ ol ≤ oh
  rotate_left
  · rw [show decide (0 ≤ ol ∧ ol ≤ oh) = false by simpa using hf] at HC
    try unfold Ft.val at HC
    clear hf
    go_wp2_with fail
    refine HC.out.mono ?_
    rintro e w7 ⟨rfl, hq⟩
    clear x00 x01 HC
    replace HL := Go.Lib.hid (HL.out.keep hq)
    clear hq
    go_wp2_with fail
    go_ret
    exact ⟨rfl, HL.out.quiet⟩
  rw [show decide (0 ≤ ol ∧ ol ≤ oh) = true by simpa using hf] at HC
  try unfold Ft.val at HC
  have HLO := Go.Lib.hid hf
  clear hf
  go_wp2_with fail
  refine HC.out.mono ?_
  rintro e w7 ⟨rfl, hq⟩
  clear x00 x01 HC
  replace HL := Go.Lib.hid (HL.out.keep hq)
  clear hq
  clear b0 b1
  obtain ⟨bl, hbl⟩ : ∃ x, x = (if ol < sl then ol else sl) := ⟨_, rfl⟩
  obtain ⟨bh, hbh⟩ : ∃ x, x = (if sh < oh then oh else sh) := ⟨_, rfl⟩
  have HB1 : Hid (bl ≤ sl) := Go.Lib.hid (by rw [hbl]; split <;> omega)
  have HB2 : Hid (sh ≤ bh) := Go.Lib.hid (by rw [hbh]; split <;> omega)
  have HB0 : Hid (0 ≤ bl) := Go.Lib.hid (by have := HLH.out; have := HLO.out; rw [hbl]; split <;> omega)
  have HBL := Go.Lib.hid hbl
  have HBH := Go.Lib.hid hbh
  clear hbl hbh
  obtain ⟨x00, x01⟩ := HL.out.two (w.heap.size + 1 + 1) (sl) (sh) (by simp)
  obtain ⟨x10, x11⟩ := HL.out.two (w.heap.size + 1 + 1 + 1) (ol) (oh) (by simp)
  go_upto_region 10 with (fail)
  clear x00 x01 x10 x11
  rw [← HBL.out, ← HBH.out]
  replace HL := Go.Lib.hid (HL.out.span bl bh)
  generalize w7.alloc _ = w8 at *
  go_wp2_with fail
  go_loopw [16] (fun i wr => ∃ k : Nat, k ≤ P.length ∧ i = .int .i64 k ∧ (LawR w [(w.heap.size + 1, 28, y), (w.heap.size, 28, t)] [(w7.heap.size, bl, bh), (w.heap.size + 1 + 1 + 1, ol, oh), (w.heap.size + 1 + 1, sl, sh)] []) wr) (fun i _ => P.length - (intOf i).toNat)
  case atStart => exact ⟨0, Nat.zero_le _, rfl, HL.out⟩
  case round =>
    clear HL
    obtain ⟨k, hk, rfl, hl⟩ := hrel
    have HL := Go.Lib.hid hl
    clear hl
    by_cases hlt : k < P.length
    rotate_left
    · have HK := Go.Lib.hid hk
      clear hk
      obtain rfl : k = P.length := by have := HK.out; omega
      go_wp2_with fail
      go_ret
      exact ⟨rfl, HL.out.quiet⟩
    have HLT := Go.Lib.hid hlt
    have HK := Go.Lib.hid hk
    clear hk
    generalize wr = w90 at *
    obtain ⟨A, hA⟩ : ∃ l, l = holdsF (exOne 9 sl sh (Ft.pl y)) (pts P) k := ⟨_, rfl⟩
    have HA : Hid (holdsF (exOne 9 sl sh (Ft.pl y)) (pts P) k = A) := Go.Lib.hid hA.symm
    clear hA
    obtain ⟨B, hB⟩ : ∃ l, l = holdsF (exOne 9 bl bh (Ft.pl y)) (pts P) k := ⟨_, rfl⟩
    have HB : Hid (holdsF (exOne 9 bl bh (Ft.pl y)) (pts P) k = B) := Go.Lib.hid hB.symm
    clear hB
    obtain ⟨C, hC⟩ : ∃ l, l = holdsF (exTwo 11 sl sh (Ft.pl t) (Ft.pl y)) (pts P) k := ⟨_, rfl⟩
    have HCC : Hid (holdsF (exTwo 11 sl sh (Ft.pl t) (Ft.pl y)) (pts P) k = C) := Go.Lib.hid hC.symm
    clear hC
    obtain ⟨D, hD⟩ : ∃ l, l = holdsF (exTwo 11 bl bh (Ft.pl t) (Ft.pl y)) (pts P) k := ⟨_, rfl⟩
    have HD : Hid (holdsF (exTwo 11 bl bh (Ft.pl t) (Ft.pl y)) (pts P) k = D) := Go.Lib.hid hD.symm
    clear hD
    obtain ⟨E, hE⟩ : ∃ l, l = holdsF (exOne 10 bl bh (Ft.pl y)) (pts P) k := ⟨_, rfl⟩
    have HE : Hid (holdsF (exOne 10 bl bh (Ft.pl y)) (pts P) k = E) := Go.Lib.hid hE.symm
    clear hE
    obtain ⟨H, hH⟩ : ∃ l, l = holdsF (exOne 10 sl sh (Ft.pl y)) (pts P) k := ⟨_, rfl⟩
    have HH : Hid (holdsF (exOne 10 sl sh (Ft.pl y)) (pts P) k = H) := Go.Lib.hid hH.symm
    clear hH
    obtain ⟨x00, x01⟩ := HL.out.two (w.heap.size + 1 + 1) (sl) (sh) (by simp)
    obtain ⟨x10, x11, x12, x13, x14, x15, x16⟩ := HL.out.seven (w.heap.size + 1) 28 y (by simp)
    have HC := Go.Lib.hid (one_v13 (D := AllD) (f := Ft.pl y) 9 sl sh allD ⟨y, rfl, rfl, (HL.out.inn (w.heap.size + 1) 28 y (by simp))⟩)
    unfold Ft.val at HC
    go_wp2_with fail
    refine HC.out.mono ?_
    rintro e w91 ⟨v, rfl, ⟨ta, rfl, hpa, hia⟩, hq⟩
    clear x00 x01 x10 x11 x12 x13 x14 x15 x16 HC
    replace HL := Go.Lib.hid (HL.out.keep hq)
    clear hq
    unfold Ft.val
    have HC := Go.Lib.hid (holds_of (c := cap) (k := k) (f := exOne 9 sl sh (Ft.pl y)) hpa hia HL.out.shapes (by (repeat first | rw [exOne_size] | rw [exTwo_size] | rw [pl_size] | rw [leaf_size]); have := HZt.out; have := HZy.out; omega) (HW.out.quiet HL.out.quiet) HPL.out HA.out)
    unfold Ft.val at HC
    go_wp2_with fail
    refine HC.out.mono ?_
    rintro e w92 ⟨rfl, hq⟩
    clear  HC
    clear hpa hia
    replace HL := Go.Lib.hid (HL.out.keep hq)
    clear hq
    obtain ⟨x00, x01⟩ := HL.out.two (w7.heap.size) (bl) (bh) (by simp)
    obtain ⟨x10, x11, x12, x13, x14, x15, x16⟩ := HL.out.seven (w.heap.size + 1) 28 y (by simp)
    have HC := Go.Lib.hid (one_v13 (D := AllD) (f := Ft.pl y) 9 bl bh allD ⟨y, rfl, rfl, (HL.out.inn (w.heap.size + 1) 28 y (by simp))⟩)
    unfold Ft.val at HC
    go_wp2_with fail
    refine HC.out.mono ?_
    rintro e w93 ⟨v, rfl, ⟨ta, rfl, hpa, hia⟩, hq⟩
    clear x00 x01 x10 x11 x12 x13 x14 x15 x16 HC
    replace HL := Go.Lib.hid (HL.out.keep hq)
    clear hq
    unfold Ft.val
    have HC := Go.Lib.hid (holds_of (c := cap) (k := k) (f := exOne 9 bl bh (Ft.pl y)) hpa hia HL.out.shapes (by (repeat first | rw [exOne_size] | rw [exTwo_size] | rw [pl_size] | rw [leaf_size]); have := HZt.out; have := HZy.out; omega) (HW.out.quiet HL.out.quiet) HPL.out HB.out)
    unfold Ft.val at HC
    go_wp2_with fail
    refine HC.out.mono ?_
    rintro e w94 ⟨rfl, hq⟩
    clear  HC
    clear hpa hia
    replace HL := Go.Lib.hid (HL.out.keep hq)
    clear hq
    obtain ⟨x00, x01⟩ := HL.out.two (w.heap.size + 1 + 1) (sl) (sh) (by simp)
    obtain ⟨x10, x11, x12, x13, x14, x15, x16⟩ := HL.out.seven (w.heap.size) 28 t (by simp)
    obtain ⟨x20, x21, x22, x23, x24, x25, x26⟩ := HL.out.seven (w.heap.size + 1) 28 y (by simp)
    have HC := Go.Lib.hid (two_v13 (D := AllD) (f := Ft.pl t) (g := Ft.pl y) 11 sl sh allD ⟨t, rfl, rfl, (HL.out.inn (w.heap.size) 28 t (by simp))⟩ ⟨y, rfl, rfl, (HL.out.inn (w.heap.size + 1) 28 y (by simp))⟩)
    unfold Ft.val at HC
    go_wp2_with fail
    refine HC.out.mono ?_
    rintro e w95 ⟨v, rfl, ⟨ta, rfl, hpa, hia⟩, hq⟩
    clear x00 x01 x10 x11 x12 x13 x14 x15 x16 x20 x21 x22 x23 x24 x25 x26 HC
    replace HL := Go.Lib.hid (HL.out.keep hq)
    clear hq
    unfold Ft.val
    have HC := Go.Lib.hid (holds_of (c := cap) (k := k) (f := exTwo 11 sl sh (Ft.pl t) (Ft.pl y)) hpa hia HL.out.shapes (by (repeat first | rw [exOne_size] | rw [exTwo_size] | rw [pl_size] | rw [leaf_size]); have := HZt.out; have := HZy.out; omega) (HW.out.quiet HL.out.quiet) HPL.out HCC.out)
    unfold Ft.val at HC
    go_wp2_with fail
    refine HC.out.mono ?_
    rintro e w96 ⟨rfl, hq⟩
    clear  HC
    clear hpa hia
    replace HL := Go.Lib.hid (HL.out.keep hq)
    clear hq
    obtain ⟨x00, x01⟩ := HL.out.two (w7.heap.size) (bl) (bh) (by simp)
    obtain ⟨x10, x11, x12, x13, x14, x15, x16⟩ := HL.out.seven (w.heap.size) 28 t (by simp)
    obtain ⟨x20, x21, x22, x23, x24, x25, x26⟩ := HL.out.seven (w.heap.size + 1) 28 y (by simp)
    have HC := Go.Lib.hid (two_v13 (D := AllD) (f := Ft.pl t) (g := Ft.pl y) 11 bl bh allD ⟨t, rfl, rfl, (HL.out.inn (w.heap.size) 28 t (by simp))⟩ ⟨y, rfl, rfl, (HL.out.inn (w.heap.size + 1) 28 y (by simp))⟩)
    unfold Ft.val at HC
    go_wp2_with fail
    refine HC.out.mono ?_
    rintro e w97 ⟨v, rfl, ⟨ta, rfl, hpa, hia⟩, hq⟩
    clear x00 x01 x10 x11 x12 x13 x14 x15 x16 x20 x21 x22 x23 x24 x25 x26 HC
    replace HL := Go.Lib.hid (HL.out.keep hq)
    clear hq
    unfold Ft.val
    have HC := Go.Lib.hid (holds_of (c := cap) (k := k) (f := exTwo 11 bl bh (Ft.pl t) (Ft.pl y)) hpa hia HL.out.shapes (by (repeat first | rw [exOne_size] | rw [exTwo_size] | rw [pl_size] | rw [leaf_size]); have := HZt.out; have := HZy.out; omega) (HW.out.quiet HL.out.quiet) HPL.out HD.out)
    unfold Ft.val at HC
    go_wp2_with fail
    refine HC.out.mono ?_
    rintro e w98 ⟨rfl, hq⟩
    clear  HC
    clear hpa hia
    replace HL := Go.Lib.hid (HL.out.keep hq)
    clear hq
    obtain ⟨x00, x01⟩ := HL.out.two (w7.heap.size) (bl) (bh) (by simp)
    obtain ⟨x10, x11, x12, x13, x14, x15, x16⟩ := HL.out.seven (w.heap.size + 1) 28 y (by simp)
    have HC := Go.Lib.hid (one_v13 (D := AllD) (f := Ft.pl y) 10 bl bh allD ⟨y, rfl, rfl, (HL.out.inn (w.heap.size + 1) 28 y (by simp))⟩)
    unfold Ft.val at HC
    go_wp2_with fail
    refine HC.out.mono ?_
    rintro e w99 ⟨v, rfl, ⟨ta, rfl, hpa, hia⟩, hq⟩
    clear x00 x01 x10 x11 x12 x13 x14 x15 x16 HC
    replace HL := Go.Lib.hid (HL.out.keep hq)
    clear hq
    unfold Ft.val
    have HC := Go.Lib.hid (holds_of (c := cap) (k := k) (f := exOne 10 bl bh (Ft.pl y)) hpa hia HL.out.shapes (by (repeat first | rw [exOne_size] | rw [exTwo_size] | rw [pl_size] | rw [leaf_size]); have := HZt.out; have := HZy.out; omega) (HW.out.quiet HL.out.quiet) HPL.out HE.out)
    unfold Ft.val at HC
    go_wp2_with fail
    refine HC.out.mono ?_
    rintro e w100 ⟨rfl, hq⟩
    clear  HC
    clear hpa hia
    replace HL := Go.Lib.hid (HL.out.keep hq)
    clear hq
    obtain ⟨x00, x01⟩ := HL.out.two (w.heap.size + 1 + 1) (sl) (sh) (by simp)
    obtain ⟨x10, x11, x12, x13, x14, x15, x16⟩ := HL.out.seven (w.heap.size + 1) 28 y (by simp)
    have HC := Go.Lib.hid (one_v13 (D := AllD) (f := Ft.pl y) 10 sl sh allD ⟨y, rfl, rfl, (HL.out.inn (w.heap.size + 1) 28 y (by simp))⟩)
    unfold Ft.val at HC
    go_wp2_with fail
    refine HC.out.mono ?_
    rintro e w101 ⟨v, rfl, ⟨ta, rfl, hpa, hia⟩, hq⟩
    clear x00 x01 x10 x11 x12 x13 x14 x15 x16 HC
    replace HL := Go.Lib.hid (HL.out.keep hq)
    clear hq
    unfold Ft.val
    have HC := Go.Lib.hid (holds_of (c := cap) (k := k) (f := exOne 10 sl sh (Ft.pl y)) hpa hia HL.out.shapes (by (repeat first | rw [exOne_size] | rw [exTwo_size] | rw [pl_size] | rw [leaf_size]); have := HZt.out; have := HZy.out; omega) (HW.out.quiet HL.out.quiet) HPL.out HH.out)
    unfold Ft.val at HC
    go_wp2_with fail
    refine HC.out.mono ?_
    rintro e w102 ⟨rfl, hq⟩
    clear  HC
    clear hpa hia
    replace HL := Go.Lib.hid (HL.out.keep hq)
    clear hq
    have HAB : A = true → B = true := fun h => by subst h; rw [← HB.out]; exact wide_ev HLH.out.1 HLH.out.2 HB1.out HB2.out HB0.out HA.out
    have HCD : C = true → D = true := fun h => by subst h; rw [← HD.out]; exact wide_un HLH.out.1 HLH.out.2 HB1.out HB2.out HB0.out HCC.out
    have HEH : E = true → H = true := fun h => by subst h; rw [← HH.out]; exact wide_al HLH.out.1 HLH.out.2 HB1.out HB2.out HB0.out HE.out
    have HCA : C = true → A = true := fun h => by subst h; rw [← HA.out]; exact un_ev HLH.out.1 HLH.out.2 HCC.out
    clear HA HB HCC HD HE HH
    rcases A with _ | _
    · have hc : C = false := by cases C; rfl; exact absurd (HCA rfl) (by decide)
      subst hc
      rcases E with _ | _
      · clear HAB HCD HEH HCA
        have q1 := HLT.out
        have q2 := HPL.out
        go_wp2_with fail
        go_roundw
        case rel => exact ⟨k + 1, HLT.out, by go_num, HL.out⟩
        case measure => simp [intOf]; omega
      · obtain rfl := HEH rfl
        clear HAB HCD HEH HCA
        have q1 := HLT.out
        have q2 := HPL.out
        go_wp2_with fail
        go_roundw
        case rel => exact ⟨k + 1, HLT.out, by go_num, HL.out⟩
        case measure => simp [intOf]; omega
    · obtain rfl := HAB rfl
      rcases C with _ | _
      · rcases E with _ | _
        · clear HAB HCD HEH HCA
          have q1 := HLT.out
          have q2 := HPL.out
          go_wp2_with fail
          go_roundw
          case rel => exact ⟨k + 1, HLT.out, by go_num, HL.out⟩
          case measure => simp [intOf]; omega
        · obtain rfl := HEH rfl
          clear HAB HCD HEH HCA
          have q1 := HLT.out
          have q2 := HPL.out
          go_wp2_with fail
          go_roundw
          case rel => exact ⟨k + 1, HLT.out, by go_num, HL.out⟩
          case measure => simp [intOf]; omega
      · obtain rfl := HCD rfl
        rcases E with _ | _
        · clear HAB HCD HEH HCA
          have q1 := HLT.out
          have q2 := HPL.out
          go_wp2_with fail
          go_roundw
          case rel => exact ⟨k + 1, HLT.out, by go_num, HL.out⟩
          case measure => simp [intOf]; omega
        · obtain rfl := HEH rfl
          clear HAB HCD HEH HCA
          have q1 := HLT.out
          have q2 := HPL.out
          go_wp2_with fail
          go_roundw
          case rel => exact ⟨k + 1, HLT.out, by go_num, HL.out⟩
          case measure => simp [intOf]; omega
end Go.Proofs.YtnpcakakjhiboaaDoor
