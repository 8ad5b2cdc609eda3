/- TruthDuals: the walk of the law. No condition. -/
import Derived.Test.YtnpcakakjhiboaaDoorLawR
import Derived.Test.YtnpcakakjhiboaaDoorWord
import Derived.Test.YtnpcakakjhiboaaDoorOpenF
namespace Go.Proofs.YtnpcakakjhiboaaDoor
open Go.RowKit Go.Lo Go.WideShapes

set_option maxRecDepth 100000 in
set_option maxHeartbeats 4000000 in
theorem truthDuals_walk (t y : Ft) (sl sh : Int) (a : Option Addr) (cap : Nat) (P : List Hp) (w : World) (hint : In AllD w t) (_hwt : ∀ n, n ∈ t.pre → n.top.n.wf) (hiny : In AllD w y) (_hwy : ∀ n, n ∈ y.pre → n.top.n.wf) (_wl : I64 sl) (_wh : I64 sh) (hw : WdAt w a P) (hS : Shapes w) : Calls Tryd.prog 10 #[t.val, y.val, .agg #[.int .i64 sl, .int .i64 sh], .slice a P.length cap] w (Said (.bool true) w) := by
  have hl := (((LawR.zero w hS).box 28 hint).box 28 (hiny.quiet ((Alters.refl _).alloc _))).span sl sh
  simp only [World.size_alloc] at hl
  have HL := Go.Lib.hid hl
  have HW := Go.Lib.hid hw
  clear hint hiny hS hw hl
  unfold Ft.val
  go_enter Tryd.func10, Tryd.ntmps10
  go_wp2_with fail
  generalize ((w.alloc _).alloc _).alloc _ = w1 at *
  refine (awake13_walk w1 HL.out.shapes).mono ?_
  rintro e w2 ⟨rfl, hq⟩
  replace HL := Go.Lib.hid (HL.out.keep hq)
  clear hq
  obtain ⟨x00, x01, x02, x03, x04, x05, x06⟩ := HL.out.seven (w.heap.size) 28 t (by simp)
  have HC := Go.Lib.hid (left_any13 AllD t 30 w2 (HL.out.inn (w.heap.size) 28 t (by simp)) (by decide))
  unfold Ft.val at HC
  go_wp2_with fail
  refine HC.out.mono ?_
  rintro e w3 ⟨rfl, hq⟩
  clear x00 x01 x02 x03 x04 x05 x06 HC
  replace HL := Go.Lib.hid (HL.out.keep hq)
  clear hq
  obtain ⟨x00, x01, x02, x03, x04, x05, x06⟩ := HL.out.seven (w.heap.size + 1) 28 y (by simp)
  have HC := Go.Lib.hid (left_any13 AllD y 30 w3 (HL.out.inn (w.heap.size + 1) 28 y (by simp)) (by decide))
  unfold Ft.val at HC
  go_wp2_with fail
  refine HC.out.mono ?_
  rintro e w4 ⟨rfl, hq⟩
  clear x00 x01 x02 x03 x04 x05 x06 HC
  replace HL := Go.Lib.hid (HL.out.keep hq)
  clear hq
  have HC := Go.Lib.hid (few47_walk a cap P w4 (HW.out.quiet HL.out.quiet))
  go_wp2_with fail
  refine HC.out.mono ?_
  rintro e w5 ⟨rfl, hq⟩
  clear HC
  replace HL := Go.Lib.hid (HL.out.keep hq)
  clear hq
  by_cases h0 : leftF (Ft.pl t) 30 ≤ 0
  · have b0 : decide (leftF (Ft.pl t) 30 ≤ 0) = true := by simpa using h0
    clear h0
    go_wp2_with fail
    go_ret
    exact ⟨rfl, HL.out.quiet⟩
  by_cases h1 : leftF (Ft.pl y) 30 ≤ 0
  · have b0 : decide (leftF (Ft.pl y) 30 ≤ 0) = true := by simpa using h1
    clear h1
    go_wp2_with fail
    go_ret
    exact ⟨rfl, HL.out.quiet⟩
  have hz0 := left_size13 h0
  have HZt : Hid (t.size ≤ 30) := Go.Lib.hid (by have := hz0; omega)
  have b0 : decide (leftF (Ft.pl t) 30 ≤ 0) = false := by simpa using h0
  clear hz0 h0
  have hz1 := left_size13 h1
  have HZy : Hid (y.size ≤ 30) := Go.Lib.hid (by have := hz1; omega)
  have b1 : decide (leftF (Ft.pl y) 30 ≤ 0) = false := by simpa using h1
  clear hz1 h1
  cases hf : fewW P
  · go_wp2_with fail
    go_ret
    exact ⟨rfl, HL.out.quiet⟩
  have HPL : Hid (P.length ≤ 10000) := Go.Lib.hid (by have := fewW_len hf; omega)
  have HRL : Hid (∀ f, (rowF f (pts P)).length ≤ 10000) := Go.Lib.hid (fun f => Nat.le_trans (rowF_len _ _) (by rw [pts_len]; exact HPL.out))
  obtain ⟨x00, x01⟩ := HL.out.two (w.heap.size + 1 + 1) (sl) (sh) (by simp)
  have HC := Go.Lib.hid (right34_walk sl sh w5)
  by_cases hf : 0 ≤ sl ∧ sl ≤ sh
  rotate_left
  · rw [show decide (0 ≤ sl ∧ sl ≤ sh) = false by simpa using hf] at HC
    try unfold Ft.val at HC
    clear hf
    go_wp2_with fail
    refine HC.out.mono ?_
    rintro e w6 ⟨rfl, hq⟩
    clear x00 x01 HC
    replace HL := Go.Lib.hid (HL.out.keep hq)
    clear hq
    go_wp2_with fail
    go_ret
    exact ⟨rfl, HL.out.quiet⟩
  rw [show decide (0 ≤ sl ∧ sl ≤ sh) = true by simpa using hf] at HC
  try unfold Ft.val at HC
  have HLH := Go.Lib.hid hf
  clear hf
  go_wp2_with fail
  refine HC.out.mono ?_
  rintro e w6 ⟨rfl, hq⟩
  clear x00 x01 HC
  replace HL := Go.Lib.hid (HL.out.keep hq)
  clear hq
  obtain ⟨x00, x01, x02, x03, x04, x05, x06⟩ := HL.out.seven (w.heap.size) 28 t (by simp)
  have HC := Go.Lib.hid (sound_walk AllD t w6 (HL.out.inn (w.heap.size) 28 t (by simp)) HL.out.shapes (by have := HZt.out; omega))
  by_cases hf : first (Ft.pl t) = 0
  rotate_left
  · rw [show decide (first (Ft.pl t) = 0) = false by simpa using hf] at HC
    try unfold Ft.val at HC
    clear hf
    go_wp2_with fail
    refine HC.out.mono ?_
    rintro e w7 ⟨rfl, hq⟩
    clear x00 x01 x02 x03 x04 x05 x06 HC
    replace HL := Go.Lib.hid (HL.out.keep hq)
    clear hq
    go_wp2_with fail
    go_ret
    exact ⟨rfl, HL.out.quiet⟩
  rw [show decide (first (Ft.pl t) = 0) = true by simpa using hf] at HC
  try unfold Ft.val at HC
  have HSt := Go.Lib.hid ((first_zero _).1 hf)
  clear hf
  go_wp2_with fail
  refine HC.out.mono ?_
  rintro e w7 ⟨rfl, hq⟩
  clear x00 x01 x02 x03 x04 x05 x06 HC
  replace HL := Go.Lib.hid (HL.out.keep hq)
  clear hq
  obtain ⟨x00, x01, x02, x03, x04, x05, x06⟩ := HL.out.seven (w.heap.size + 1) 28 y (by simp)
  have HC := Go.Lib.hid (sound_walk AllD y w7 (HL.out.inn (w.heap.size + 1) 28 y (by simp)) HL.out.shapes (by have := HZy.out; omega))
  by_cases hf : first (Ft.pl y) = 0
  rotate_left
  · rw [show decide (first (Ft.pl y) = 0) = false by simpa using hf] at HC
    try unfold Ft.val at HC
    clear hf
    go_wp2_with fail
    refine HC.out.mono ?_
    rintro e w8 ⟨rfl, hq⟩
    clear x00 x01 x02 x03 x04 x05 x06 HC
    replace HL := Go.Lib.hid (HL.out.keep hq)
    clear hq
    go_wp2_with fail
    go_ret
    exact ⟨rfl, HL.out.quiet⟩
  rw [show decide (first (Ft.pl y) = 0) = true by simpa using hf] at HC
  try unfold Ft.val at HC
  have HSy := Go.Lib.hid ((first_zero _).1 hf)
  clear hf
  go_wp2_with fail
  refine HC.out.mono ?_
  rintro e w8 ⟨rfl, hq⟩
  clear x00 x01 x02 x03 x04 x05 x06 HC
  replace HL := Go.Lib.hid (HL.out.keep hq)
  clear hq
  have HC := Go.Lib.hid (right40_walk a cap P w8 (HW.out.quiet HL.out.quiet))
  cases hf : wordOk (pts P)
  · rw [hf] at HC
    clear hf
    go_wp2_with fail
    refine HC.out.mono ?_
    rintro e w9 ⟨rfl, hq⟩
    clear  HC
    replace HL := Go.Lib.hid (HL.out.keep hq)
    clear hq
    go_wp2_with fail
    go_ret
    exact ⟨rfl, HL.out.quiet⟩
  rw [hf] at HC
  have HWO := Go.Lib.hid hf
  clear hf
  go_wp2_with fail
  refine HC.out.mono ?_
  rintro e w9 ⟨rfl, hq⟩
  clear  HC
  replace HL := Go.Lib.hid (HL.out.keep hq)
  clear hq
  clear b0 b1
  go_upto_region 10 with (fail)
  replace HL := Go.Lib.hid (HL.out.span 0 0)
  generalize w9.alloc _ = w10 at *
  obtain ⟨x00, x01⟩ := HL.out.two (w9.heap.size) (0) (0) (by simp)
  obtain ⟨x10, x11, x12, x13, x14, x15, x16⟩ := HL.out.seven (w.heap.size) 28 t (by simp)
  have HC := Go.Lib.hid (one_v13 (D := AllD) (f := Ft.pl t) 4 0 0 allD ⟨t, rfl, rfl, (HL.out.inn (w.heap.size) 28 t (by simp))⟩)
  unfold Ft.val at HC
  go_wp2_with fail
  refine HC.out.mono ?_
  rintro e w11 ⟨v, rfl, ⟨t11, rfl, hp, hi⟩, hq⟩
  clear x00 x01 x10 x11 x12 x13 x14 x15 x16 HC
  replace HL := Go.Lib.hid (HL.out.keep hq)
  clear hq
  replace HL := Go.Lib.hid (HL.out.box 28 (t := t11) (hi.mono (fun _ _ _ => trivial)))
  have HPt11 : Hid (Ft.pl t11 = exOne 4 0 0 (Ft.pl t)) := hp
  clear hi hp
  unfold Ft.val
  go_upto_region 11 with (fail)
  generalize w11.alloc _ = w12 at *
  have HZt11 : Hid (t11.size ≤ 31) := Go.Lib.hid (by rw [size_of HPt11.out]; exact (by (repeat first | rw [exOne_size] | rw [exTwo_size] | rw [pl_size] | rw [leaf_size]); have := HZt.out; have := HZy.out; omega))
  obtain ⟨x00, x01⟩ := HL.out.two (w9.heap.size) (0) (0) (by simp)
  obtain ⟨x10, x11, x12, x13, x14, x15, x16⟩ := HL.out.seven (w.heap.size + 1) 28 y (by simp)
  have HC := Go.Lib.hid (one_v13 (D := AllD) (f := Ft.pl y) 4 0 0 allD ⟨y, rfl, rfl, (HL.out.inn (w.heap.size + 1) 28 y (by simp))⟩)
  unfold Ft.val at HC
  go_wp2_with fail
  refine HC.out.mono ?_
  rintro e w13 ⟨v, rfl, ⟨t12, rfl, hp, hi⟩, hq⟩
  clear x00 x01 x10 x11 x12 x13 x14 x15 x16 HC
  replace HL := Go.Lib.hid (HL.out.keep hq)
  clear hq
  replace HL := Go.Lib.hid (HL.out.box 28 (t := t12) (hi.mono (fun _ _ _ => trivial)))
  have HPt12 : Hid (Ft.pl t12 = exOne 4 0 0 (Ft.pl y)) := hp
  clear hi hp
  unfold Ft.val
  go_upto_region 12 with (fail)
  generalize w13.alloc _ = w14 at *
  have HZt12 : Hid (t12.size ≤ 31) := Go.Lib.hid (by rw [size_of HPt12.out]; exact (by (repeat first | rw [exOne_size] | rw [exTwo_size] | rw [pl_size] | rw [leaf_size]); have := HZt.out; have := HZy.out; omega))
  obtain ⟨A, hA⟩ : ∃ l, l = rowF (exOne 10 sl sh (Ft.pl t)) (pts P) := ⟨_, rfl⟩
  have HA : Hid (rowF (exOne 10 sl sh (Ft.pl t)) (pts P) = A) := Go.Lib.hid hA.symm
  have HAL : Hid (A.length ≤ 10000) := Go.Lib.hid (by rw [hA]; exact HRL.out _)
  have HAF : Hid (A.length = P.length) := Go.Lib.hid (by rw [hA]; exact rowF_full (sound_one10 HSt.out HLH.out.1 HLH.out.2) HWO.out)
  clear hA
  obtain ⟨C, hC⟩ : ∃ l, l = rowF (exTwo 12 sl sh (Ft.pl t) (Ft.pl y)) (pts P) := ⟨_, rfl⟩
  have HCC : Hid (rowF (exTwo 12 sl sh (Ft.pl t) (Ft.pl y)) (pts P) = C) := Go.Lib.hid hC.symm
  have HCL : Hid (C.length ≤ 10000) := Go.Lib.hid (by rw [hC]; exact HRL.out _)
  have HCF : Hid (C.length = P.length) := Go.Lib.hid (by rw [hC]; exact rowF_full (sound_two_span (.inr rfl) HSt.out HSy.out HLH.out.1 HLH.out.2) HWO.out)
  clear hC
  obtain ⟨E, hE⟩ : ∃ l, l = rowF (exTwo 7 0 0 (Ft.pl t) (Ft.pl y)) (pts P) := ⟨_, rfl⟩
  have HE : Hid (rowF (exTwo 7 0 0 (Ft.pl t) (Ft.pl y)) (pts P) = E) := Go.Lib.hid hE.symm
  have HEL : Hid (E.length ≤ 10000) := Go.Lib.hid (by rw [hE]; exact HRL.out _)
  clear hE
  obtain ⟨I, hI⟩ : ∃ l, l = rowF (exTwo 8 0 0 (Ft.pl t) (Ft.pl y)) (pts P) := ⟨_, rfl⟩
  have HI : Hid (rowF (exTwo 8 0 0 (Ft.pl t) (Ft.pl y)) (pts P) = I) := Go.Lib.hid hI.symm
  have HIL : Hid (I.length ≤ 10000) := Go.Lib.hid (by rw [hI]; exact HRL.out _)
  clear hI
  obtain ⟨K, hK⟩ : ∃ l, l = rowF (Ft.pl t) (pts P) := ⟨_, rfl⟩
  have HK : Hid (rowF (Ft.pl t) (pts P) = K) := Go.Lib.hid hK.symm
  have HKL : Hid (K.length ≤ 10000) := Go.Lib.hid (by rw [hK]; exact HRL.out _)
  have HKF : Hid (K.length = P.length) := Go.Lib.hid (by rw [hK]; exact rowF_full (HSt.out) HWO.out)
  clear hK
  obtain ⟨x00, x01⟩ := HL.out.two (w.heap.size + 1 + 1) (sl) (sh) (by simp)
  obtain ⟨x10, x11, x12, x13, x14, x15, x16⟩ := HL.out.seven (w.heap.size) 28 t (by simp)
  have HC := Go.Lib.hid (one_v13 (D := AllD) (f := Ft.pl t) 10 sl sh allD ⟨t, rfl, rfl, (HL.out.inn (w.heap.size) 28 t (by simp))⟩)
  unfold Ft.val at HC
  go_wp2_with fail
  refine HC.out.mono ?_
  rintro e w15 ⟨v, rfl, ⟨ta, rfl, hpa, hia⟩, hq⟩
  clear x00 x01 x10 x11 x12 x13 x14 x15 x16 HC
  replace HL := Go.Lib.hid (HL.out.keep hq)
  clear hq
  unfold Ft.val
  have HC := Go.Lib.hid (row_of (c := cap) (f := exOne 10 sl sh (Ft.pl t)) hpa hia HL.out.shapes (by (repeat first | rw [exOne_size] | rw [exTwo_size] | rw [pl_size] | rw [leaf_size]); have := HZt.out; have := HZy.out; omega) (HW.out.quiet HL.out.quiet) HPL.out HA.out)
  unfold Ft.val at HC
  go_wp2_with fail
  refine HC.out.mono ?_
  rintro e w16 ⟨ra, ca, rfl, ha, hq⟩
  clear  HC
  clear hpa hia
  replace HL := Go.Lib.hid ((HL.out.keep hq).row ha)
  clear ha
  clear hq
  go_upto_region 13 with (fail)
  refine wp_region_wants (by kernel_rfl) (by kernel_rfl) (by kernel_rfl) (by kernel_rfl) (LawR w [(w13.heap.size, 28, t12), (w11.heap.size, 28, t11), (w.heap.size + 1, 28, y), (w.heap.size, 28, t)] [(w9.heap.size, 0, 0), (w.heap.size + 1 + 1, sl, sh)] [(ra, A)]) (fun _ _ hq h => h.keep hq) [Want.is (.agg #[.int .i64 (0), .int .i64 (0)]), Want.is (.agg #[.int .i64 (sl), .int .i64 (sh)]), Want.is (Ft.val t11), Want.fm AllD (exOne 9 sl sh (exOne 4 0 0 (Ft.pl t))), Want.fm AllD (exOne 4 0 0 (exOne 9 sl sh (exOne 4 0 0 (Ft.pl t)))), Want.is (.slice a P.length cap), Want.row A] (HL.out.keep ((Alters.refl _).drew)) (by decide) ?_
  refine Steps.cons ?_ (Steps.cons ?_ (Steps.cons ?_ (Steps.cons ?_ (Steps.cons ?_ (Steps.cons ?_ (Steps.cons ?_ (Steps.last ?_)))))))
  · intro u W K hS hF hK
    simp only [putsFrom, Act.put, Nat.reduceAdd, List.setIfInBounds_toArray, List.set_cons_zero, List.set_cons_succ] at hK ⊢
    clear hF
    obtain ⟨x0, x1⟩ := hS.two (w9.heap.size) (0) (0) (by simp)
    go_simp
    exact hK.out _ _ (Alters.refl _) rfl
  · intro u W K hS hF hK
    simp only [putsFrom, Act.put, Nat.reduceAdd, List.setIfInBounds_toArray, List.set_cons_zero, List.set_cons_succ] at hK ⊢
    clear hF
    obtain ⟨x0, x1⟩ := hS.two (w.heap.size + 1 + 1) (sl) (sh) (by simp)
    go_simp
    exact hK.out _ _ (Alters.refl _) rfl
  · intro u W K hS hF hK
    simp only [putsFrom, Act.put, Nat.reduceAdd, List.setIfInBounds_toArray, List.set_cons_zero, List.set_cons_succ] at hK ⊢
    clear hF
    obtain ⟨x0, x1, x2, x3, x4, x5, x6⟩ := hS.seven (w11.heap.size) 28 t11 (by simp)
    go_simp
    exact hK.out _ _ (Alters.refl _) rfl
  · intro u W K hS hF hK
    have f1 : u 1 = .agg #[.int .i64 (sl), .int .i64 (sh)] := hF 1 (by kernel_rfl)
    have f2 : u 2 = Ft.val t11 := hF 2 (by kernel_rfl)
    simp only [putsFrom, Act.put, Nat.reduceAdd, List.setIfInBounds_toArray, List.set_cons_zero, List.set_cons_succ, f1, f2] at hK ⊢
    clear hF
    go_simp
    refine (one_v13 (D := AllD) (f := exOne 4 0 0 (Ft.pl t)) 9 sl sh allD ⟨t11, rfl, HPt11.out, (hS.inn (w11.heap.size) 28 t11 (by simp))⟩).mono ?_
    rintro e W2 ⟨v, rfl, hm, hq⟩
    exact hK.out _ _ hq hm
  · intro u W K hS hF hK
    have f0 : u 0 = .agg #[.int .i64 (0), .int .i64 (0)] := hF 0 (by kernel_rfl)
    have f3 : MadeIn AllD (exOne 9 sl sh (exOne 4 0 0 (Ft.pl t))) (u 3) W := hF 3 (by kernel_rfl)
    simp only [putsFrom, Act.put, Nat.reduceAdd, List.setIfInBounds_toArray, List.set_cons_zero, List.set_cons_succ, f0] at hK ⊢
    clear hF
    go_simp
    refine (one_v13 (D := AllD) (f := exOne 9 sl sh (exOne 4 0 0 (Ft.pl t))) 4 0 0 allD f3).mono ?_
    rintro e W2 ⟨v, rfl, hm, hq⟩
    exact hK.out _ _ hq hm
  · intro u W K hS hF hK
    simp only [putsFrom, Act.put, Nat.reduceAdd, List.setIfInBounds_toArray, List.set_cons_zero, List.set_cons_succ] at hK ⊢
    clear hF
    go_simp
    exact hK.out _ _ (Alters.refl _) rfl
  · intro u W K hS hF hK
    have f4 : MadeIn AllD (exOne 4 0 0 (exOne 9 sl sh (exOne 4 0 0 (Ft.pl t)))) (u 4) W := hF 4 (by kernel_rfl)
    have f5 : u 5 = .slice a P.length cap := hF 5 (by kernel_rfl)
    simp only [putsFrom, Act.put, Nat.reduceAdd, List.setIfInBounds_toArray, List.set_cons_zero, List.set_cons_succ, f5] at hK ⊢
    clear hF
    obtain ⟨ta, ea, hpa, hia⟩ := f4
    simp only [ea] at hK ⊢
    go_simp
    refine (row_of (c := cap) (f := exOne 4 0 0 (exOne 9 sl sh (exOne 4 0 0 (Ft.pl t)))) hpa hia hS.shapes (by (repeat first | rw [exOne_size] | rw [exTwo_size] | rw [pl_size] | rw [leaf_size]); have := HZt.out; have := HZy.out; omega) (HW.out.quiet hS.quiet) HPL.out ((row_al HSt.out HLH.out.1 HLH.out.2).symm.trans HA.out)).mono ?_
    rintro e W2 ⟨ra, rc, rfl, hbl, hq⟩
    exact hK.out _ _ hq ⟨ra, rc, rfl, hbl⟩
  · intro u W hS hF
    have f6 : ∃ a c, u 6 = .slice a A.length c ∧ BlAt W a A := hF 6 (by simp)
    simp only [putsFrom, Act.put, Nat.reduceAdd, List.setIfInBounds_toArray, List.set_cons_zero, List.set_cons_succ]
    clear hF 
    have HS := Go.Lib.hid hS
    clear hS
    obtain ⟨rb, cb, eb, hb⟩ := f6
    simp only [eb]
    replace HL := Go.Lib.hid (HS.out.row hb)
    clear HS hb eb
    generalize W = w17 at *
    go_simp
    obtain ⟨x00, x01⟩ := HL.out.two (w.heap.size + 1 + 1) (sl) (sh) (by simp)
    obtain ⟨x10, x11, x12, x13, x14, x15, x16⟩ := HL.out.seven (w.heap.size) 28 t (by simp)
    obtain ⟨x20, x21, x22, x23, x24, x25, x26⟩ := HL.out.seven (w.heap.size + 1) 28 y (by simp)
    have HC := Go.Lib.hid (two_v13 (D := AllD) (f := Ft.pl t) (g := Ft.pl y) 12 sl sh allD ⟨t, rfl, rfl, (HL.out.inn (w.heap.size) 28 t (by simp))⟩ ⟨y, rfl, rfl, (HL.out.inn (w.heap.size + 1) 28 y (by simp))⟩)
    unfold Ft.val at HC
    go_wp2_with fail
    refine HC.out.mono ?_
    rintro e w18 ⟨v, rfl, ⟨ta, rfl, hpa, hia⟩, hq⟩
    clear x00 x01 x10 x11 x12 x13 x14 x15 x16 x20 x21 x22 x23 x24 x25 x26 HC
    replace HL := Go.Lib.hid (HL.out.keep hq)
    clear hq
    unfold Ft.val
    have HC := Go.Lib.hid (row_of (c := cap) (f := exTwo 12 sl sh (Ft.pl t) (Ft.pl y)) hpa hia HL.out.shapes (by (repeat first | rw [exOne_size] | rw [exTwo_size] | rw [pl_size] | rw [leaf_size]); have := HZt.out; have := HZy.out; omega) (HW.out.quiet HL.out.quiet) HPL.out HCC.out)
    unfold Ft.val at HC
    go_wp2_with fail
    refine HC.out.mono ?_
    rintro e w19 ⟨rc, cc, rfl, hc, hq⟩
    clear  HC
    clear hpa hia
    replace HL := Go.Lib.hid ((HL.out.keep hq).row hc)
    clear hc
    clear hq
    go_upto_region 15 with (fail)
    refine wp_region_wants (by kernel_rfl) (by kernel_rfl) (by kernel_rfl) (by kernel_rfl) (LawR w [(w13.heap.size, 28, t12), (w11.heap.size, 28, t11), (w.heap.size + 1, 28, y), (w.heap.size, 28, t)] [(w9.heap.size, 0, 0), (w.heap.size + 1 + 1, sl, sh)] [(rc, C), (rb, A), (ra, A)]) (fun _ _ hq h => h.keep hq) [Want.is (.agg #[.int .i64 (0), .int .i64 (0)]), Want.is (.agg #[.int .i64 (sl), .int .i64 (sh)]), Want.is (Ft.val t11), Want.is (Ft.val t12), Want.fm AllD (exTwo 11 sl sh (exOne 4 0 0 (Ft.pl t)) (exOne 4 0 0 (Ft.pl y))), Want.fm AllD (exOne 4 0 0 (exTwo 11 sl sh (exOne 4 0 0 (Ft.pl t)) (exOne 4 0 0 (Ft.pl y)))), Want.is (.slice a P.length cap), Want.row C] (HL.out.keep ((Alters.refl _).drew)) (by decide) ?_
    refine Steps.cons ?_ (Steps.cons ?_ (Steps.cons ?_ (Steps.cons ?_ (Steps.cons ?_ (Steps.cons ?_ (Steps.cons ?_ (Steps.cons ?_ (Steps.last ?_))))))))
    · intro u W K hS hF hK
      simp only [putsFrom, Act.put, Nat.reduceAdd, List.setIfInBounds_toArray, List.set_cons_zero, List.set_cons_succ] at hK ⊢
      clear hF
      obtain ⟨x0, x1⟩ := hS.two (w9.heap.size) (0) (0) (by simp)
      go_simp
      exact hK.out _ _ (Alters.refl _) rfl
    · intro u W K hS hF hK
      simp only [putsFrom, Act.put, Nat.reduceAdd, List.setIfInBounds_toArray, List.set_cons_zero, List.set_cons_succ] at hK ⊢
      clear hF
      obtain ⟨x0, x1⟩ := hS.two (w.heap.size + 1 + 1) (sl) (sh) (by simp)
      go_simp
      exact hK.out _ _ (Alters.refl _) rfl
    · intro u W K hS hF hK
      simp only [putsFrom, Act.put, Nat.reduceAdd, List.setIfInBounds_toArray, List.set_cons_zero, List.set_cons_succ] at hK ⊢
      clear hF
      obtain ⟨x0, x1, x2, x3, x4, x5, x6⟩ := hS.seven (w11.heap.size) 28 t11 (by simp)
      go_simp
      exact hK.out _ _ (Alters.refl _) rfl
    · intro u W K hS hF hK
      simp only [putsFrom, Act.put, Nat.reduceAdd, List.setIfInBounds_toArray, List.set_cons_zero, List.set_cons_succ] at hK ⊢
      clear hF
      obtain ⟨x0, x1, x2, x3, x4, x5, x6⟩ := hS.seven (w13.heap.size) 28 t12 (by simp)
      go_simp
      exact hK.out _ _ (Alters.refl _) rfl
    · intro u W K hS hF hK
      have f1 : u 1 = .agg #[.int .i64 (sl), .int .i64 (sh)] := hF 1 (by kernel_rfl)
      have f2 : u 2 = Ft.val t11 := hF 2 (by kernel_rfl)
      have f3 : u 3 = Ft.val t12 := hF 3 (by kernel_rfl)
      simp only [putsFrom, Act.put, Nat.reduceAdd, List.setIfInBounds_toArray, List.set_cons_zero, List.set_cons_succ, f1, f2, f3] at hK ⊢
      clear hF
      go_simp
      refine (two_v13 (D := AllD) (f := exOne 4 0 0 (Ft.pl t)) (g := exOne 4 0 0 (Ft.pl y)) 11 sl sh allD ⟨t11, rfl, HPt11.out, (hS.inn (w11.heap.size) 28 t11 (by simp))⟩ ⟨t12, rfl, HPt12.out, (hS.inn (w13.heap.size) 28 t12 (by simp))⟩).mono ?_
      rintro e W2 ⟨v, rfl, hm, hq⟩
      exact hK.out _ _ hq hm
    · intro u W K hS hF hK
      have f0 : u 0 = .agg #[.int .i64 (0), .int .i64 (0)] := hF 0 (by kernel_rfl)
      have f4 : MadeIn AllD (exTwo 11 sl sh (exOne 4 0 0 (Ft.pl t)) (exOne 4 0 0 (Ft.pl y))) (u 4) W := hF 4 (by kernel_rfl)
      simp only [putsFrom, Act.put, Nat.reduceAdd, List.setIfInBounds_toArray, List.set_cons_zero, List.set_cons_succ, f0] at hK ⊢
      clear hF
      go_simp
      refine (one_v13 (D := AllD) (f := exTwo 11 sl sh (exOne 4 0 0 (Ft.pl t)) (exOne 4 0 0 (Ft.pl y))) 4 0 0 allD f4).mono ?_
      rintro e W2 ⟨v, rfl, hm, hq⟩
      exact hK.out _ _ hq hm
    · intro u W K hS hF hK
      simp only [putsFrom, Act.put, Nat.reduceAdd, List.setIfInBounds_toArray, List.set_cons_zero, List.set_cons_succ] at hK ⊢
      clear hF
      go_simp
      exact hK.out _ _ (Alters.refl _) rfl
    · intro u W K hS hF hK
      have f5 : MadeIn AllD (exOne 4 0 0 (exTwo 11 sl sh (exOne 4 0 0 (Ft.pl t)) (exOne 4 0 0 (Ft.pl y)))) (u 5) W := hF 5 (by kernel_rfl)
      have f6 : u 6 = .slice a P.length cap := hF 6 (by kernel_rfl)
      simp only [putsFrom, Act.put, Nat.reduceAdd, List.setIfInBounds_toArray, List.set_cons_zero, List.set_cons_succ, f6] at hK ⊢
      clear hF
      obtain ⟨ta, ea, hpa, hia⟩ := f5
      simp only [ea] at hK ⊢
      go_simp
      refine (row_of (c := cap) (f := exOne 4 0 0 (exTwo 11 sl sh (exOne 4 0 0 (Ft.pl t)) (exOne 4 0 0 (Ft.pl y)))) hpa hia hS.shapes (by (repeat first | rw [exOne_size] | rw [exTwo_size] | rw [pl_size] | rw [leaf_size]); have := HZt.out; have := HZy.out; omega) (HW.out.quiet hS.quiet) HPL.out ((row_re HSt.out HSy.out HLH.out.1 HLH.out.2).symm.trans HCC.out)).mono ?_
      rintro e W2 ⟨ra, rc, rfl, hbl, hq⟩
      exact hK.out _ _ hq ⟨ra, rc, rfl, hbl⟩
    · intro u W hS hF
      have f7 : ∃ a c, u 7 = .slice a C.length c ∧ BlAt W a C := hF 7 (by simp)
      simp only [putsFrom, Act.put, Nat.reduceAdd, List.setIfInBounds_toArray, List.set_cons_zero, List.set_cons_succ]
      clear hF 
      have HS := Go.Lib.hid hS
      clear hS
      obtain ⟨rd, cd, ed, hd⟩ := f7
      simp only [ed]
      replace HL := Go.Lib.hid (HS.out.row hd)
      clear HS hd ed
      generalize W = w20 at *
      go_simp
      obtain ⟨x00, x01⟩ := HL.out.two (w9.heap.size) (0) (0) (by simp)
      obtain ⟨x10, x11, x12, x13, x14, x15, x16⟩ := HL.out.seven (w.heap.size) 28 t (by simp)
      obtain ⟨x20, x21, x22, x23, x24, x25, x26⟩ := HL.out.seven (w.heap.size + 1) 28 y (by simp)
      have HC := Go.Lib.hid (two_v13 (D := AllD) (f := Ft.pl t) (g := Ft.pl y) 7 0 0 allD ⟨t, rfl, rfl, (HL.out.inn (w.heap.size) 28 t (by simp))⟩ ⟨y, rfl, rfl, (HL.out.inn (w.heap.size + 1) 28 y (by simp))⟩)
      unfold Ft.val at HC
      go_wp2_with fail
      refine HC.out.mono ?_
      rintro e w21 ⟨v, rfl, ⟨ta, rfl, hpa, hia⟩, hq⟩
      clear x00 x01 x10 x11 x12 x13 x14 x15 x16 x20 x21 x22 x23 x24 x25 x26 HC
      replace HL := Go.Lib.hid (HL.out.keep hq)
      clear hq
      unfold Ft.val
      have HC := Go.Lib.hid (row_of (c := cap) (f := exTwo 7 0 0 (Ft.pl t) (Ft.pl y)) hpa hia HL.out.shapes (by (repeat first | rw [exOne_size] | rw [exTwo_size] | rw [pl_size] | rw [leaf_size]); have := HZt.out; have := HZy.out; omega) (HW.out.quiet HL.out.quiet) HPL.out HE.out)
      unfold Ft.val at HC
      go_wp2_with fail
      refine HC.out.mono ?_
      rintro e w22 ⟨re, ce, rfl, he, hq⟩
      clear  HC
      clear hpa hia
      replace HL := Go.Lib.hid ((HL.out.keep hq).row he)
      clear he
      clear hq
      obtain ⟨x00, x01⟩ := HL.out.two (w9.heap.size) (0) (0) (by simp)
      obtain ⟨x10, x11, x12, x13, x14, x15, x16⟩ := HL.out.seven (w11.heap.size) 28 t11 (by simp)
      obtain ⟨x20, x21, x22, x23, x24, x25, x26⟩ := HL.out.seven (w.heap.size + 1) 28 y (by simp)
      have HC := Go.Lib.hid (two_v13 (D := AllD) (f := exOne 4 0 0 (Ft.pl t)) (g := Ft.pl y) 6 0 0 allD ⟨t11, rfl, HPt11.out, (HL.out.inn (w11.heap.size) 28 t11 (by simp))⟩ ⟨y, rfl, rfl, (HL.out.inn (w.heap.size + 1) 28 y (by simp))⟩)
      unfold Ft.val at HC
      go_wp2_with fail
      refine HC.out.mono ?_
      rintro e w23 ⟨v, rfl, ⟨ta, rfl, hpa, hia⟩, hq⟩
      clear x00 x01 x10 x11 x12 x13 x14 x15 x16 x20 x21 x22 x23 x24 x25 x26 HC
      replace HL := Go.Lib.hid (HL.out.keep hq)
      clear hq
      unfold Ft.val
      have HC := Go.Lib.hid (row_of (c := cap) (f := exTwo 6 0 0 (exOne 4 0 0 (Ft.pl t)) (Ft.pl y)) hpa hia HL.out.shapes (by (repeat first | rw [exOne_size] | rw [exTwo_size] | rw [pl_size] | rw [leaf_size]); have := HZt.out; have := HZy.out; omega) (HW.out.quiet HL.out.quiet) HPL.out ((row_imp HSt.out HSy.out).symm.trans HE.out))
      unfold Ft.val at HC
      go_wp2_with fail
      refine HC.out.mono ?_
      rintro e w24 ⟨rh, ch, rfl, hh, hq⟩
      clear  HC
      clear hpa hia
      replace HL := Go.Lib.hid ((HL.out.keep hq).row hh)
      clear hh
      clear hq
      obtain ⟨x00, x01⟩ := HL.out.two (w9.heap.size) (0) (0) (by simp)
      obtain ⟨x10, x11, x12, x13, x14, x15, x16⟩ := HL.out.seven (w.heap.size) 28 t (by simp)
      obtain ⟨x20, x21, x22, x23, x24, x25, x26⟩ := HL.out.seven (w.heap.size + 1) 28 y (by simp)
      have HC := Go.Lib.hid (two_v13 (D := AllD) (f := Ft.pl t) (g := Ft.pl y) 8 0 0 allD ⟨t, rfl, rfl, (HL.out.inn (w.heap.size) 28 t (by simp))⟩ ⟨y, rfl, rfl, (HL.out.inn (w.heap.size + 1) 28 y (by simp))⟩)
      unfold Ft.val at HC
      go_wp2_with fail
      refine HC.out.mono ?_
      rintro e w25 ⟨v, rfl, ⟨ta, rfl, hpa, hia⟩, hq⟩
      clear x00 x01 x10 x11 x12 x13 x14 x15 x16 x20 x21 x22 x23 x24 x25 x26 HC
      replace HL := Go.Lib.hid (HL.out.keep hq)
      clear hq
      unfold Ft.val
      have HC := Go.Lib.hid (row_of (c := cap) (f := exTwo 8 0 0 (Ft.pl t) (Ft.pl y)) hpa hia HL.out.shapes (by (repeat first | rw [exOne_size] | rw [exTwo_size] | rw [pl_size] | rw [leaf_size]); have := HZt.out; have := HZy.out; omega) (HW.out.quiet HL.out.quiet) HPL.out HI.out)
      unfold Ft.val at HC
      go_wp2_with fail
      refine HC.out.mono ?_
      rintro e w26 ⟨ri, ci, rfl, hi, hq⟩
      clear  HC
      clear hpa hia
      replace HL := Go.Lib.hid ((HL.out.keep hq).row hi)
      clear hi
      clear hq
      go_upto_region 19 with (fail)
      refine wp_region_wants (by kernel_rfl) (by kernel_rfl) (by kernel_rfl) (by kernel_rfl) (LawR w [(w13.heap.size, 28, t12), (w11.heap.size, 28, t11), (w.heap.size + 1, 28, y), (w.heap.size, 28, t)] [(w9.heap.size, 0, 0), (w.heap.size + 1 + 1, sl, sh)] [(ri, I), (rh, E), (re, E), (rd, C), (rc, C), (rb, A), (ra, A)]) (fun _ _ hq h => h.keep hq) [Want.is (.agg #[.int .i64 (0), .int .i64 (0)]), Want.is (.agg #[.int .i64 (0), .int .i64 (0)]), Want.is (Ft.val t), Want.is (Ft.val y), Want.fm AllD (exTwo 7 0 0 (Ft.pl t) (Ft.pl y)), Want.is (.agg #[.int .i64 (0), .int .i64 (0)]), Want.is (Ft.val y), Want.is (Ft.val t), Want.fm AllD (exTwo 7 0 0 (Ft.pl y) (Ft.pl t)), Want.fm AllD (exTwo 5 0 0 (exTwo 7 0 0 (Ft.pl t) (Ft.pl y)) (exTwo 7 0 0 (Ft.pl y) (Ft.pl t))), Want.is (.slice a P.length cap), Want.row I] (HL.out.keep ((Alters.refl _).drew)) (by decide) ?_
      refine Steps.cons ?_ (Steps.cons ?_ (Steps.cons ?_ (Steps.cons ?_ (Steps.cons ?_ (Steps.cons ?_ (Steps.cons ?_ (Steps.cons ?_ (Steps.cons ?_ (Steps.cons ?_ (Steps.cons ?_ (Steps.cons ?_ (Steps.last ?_))))))))))))
      · intro u W K hS hF hK
        simp only [putsFrom, Act.put, Nat.reduceAdd, List.setIfInBounds_toArray, List.set_cons_zero, List.set_cons_succ] at hK ⊢
        clear hF
        obtain ⟨x0, x1⟩ := hS.two (w9.heap.size) (0) (0) (by simp)
        go_simp
        exact hK.out _ _ (Alters.refl _) rfl
      · intro u W K hS hF hK
        simp only [putsFrom, Act.put, Nat.reduceAdd, List.setIfInBounds_toArray, List.set_cons_zero, List.set_cons_succ] at hK ⊢
        clear hF
        obtain ⟨x0, x1⟩ := hS.two (w9.heap.size) (0) (0) (by simp)
        go_simp
        exact hK.out _ _ (Alters.refl _) rfl
      · intro u W K hS hF hK
        simp only [putsFrom, Act.put, Nat.reduceAdd, List.setIfInBounds_toArray, List.set_cons_zero, List.set_cons_succ] at hK ⊢
        clear hF
        obtain ⟨x0, x1, x2, x3, x4, x5, x6⟩ := hS.seven (w.heap.size) 28 t (by simp)
        go_simp
        exact hK.out _ _ (Alters.refl _) rfl
      · intro u W K hS hF hK
        simp only [putsFrom, Act.put, Nat.reduceAdd, List.setIfInBounds_toArray, List.set_cons_zero, List.set_cons_succ] at hK ⊢
        clear hF
        obtain ⟨x0, x1, x2, x3, x4, x5, x6⟩ := hS.seven (w.heap.size + 1) 28 y (by simp)
        go_simp
        exact hK.out _ _ (Alters.refl _) rfl
      · intro u W K hS hF hK
        have f1 : u 1 = .agg #[.int .i64 (0), .int .i64 (0)] := hF 1 (by kernel_rfl)
        have f2 : u 2 = Ft.val t := hF 2 (by kernel_rfl)
        have f3 : u 3 = Ft.val y := hF 3 (by kernel_rfl)
        simp only [putsFrom, Act.put, Nat.reduceAdd, List.setIfInBounds_toArray, List.set_cons_zero, List.set_cons_succ, f1, f2, f3] at hK ⊢
        clear hF
        go_simp
        refine (two_v13 (D := AllD) (f := Ft.pl t) (g := Ft.pl y) 7 0 0 allD ⟨t, rfl, rfl, (hS.inn (w.heap.size) 28 t (by simp))⟩ ⟨y, rfl, rfl, (hS.inn (w.heap.size + 1) 28 y (by simp))⟩).mono ?_
        rintro e W2 ⟨v, rfl, hm, hq⟩
        exact hK.out _ _ hq hm
      · intro u W K hS hF hK
        simp only [putsFrom, Act.put, Nat.reduceAdd, List.setIfInBounds_toArray, List.set_cons_zero, List.set_cons_succ] at hK ⊢
        clear hF
        obtain ⟨x0, x1⟩ := hS.two (w9.heap.size) (0) (0) (by simp)
        go_simp
        exact hK.out _ _ (Alters.refl _) rfl
      · intro u W K hS hF hK
        simp only [putsFrom, Act.put, Nat.reduceAdd, List.setIfInBounds_toArray, List.set_cons_zero, List.set_cons_succ] at hK ⊢
        clear hF
        obtain ⟨x0, x1, x2, x3, x4, x5, x6⟩ := hS.seven (w.heap.size + 1) 28 y (by simp)
        go_simp
        exact hK.out _ _ (Alters.refl _) rfl
      · intro u W K hS hF hK
        simp only [putsFrom, Act.put, Nat.reduceAdd, List.setIfInBounds_toArray, List.set_cons_zero, List.set_cons_succ] at hK ⊢
        clear hF
        obtain ⟨x0, x1, x2, x3, x4, x5, x6⟩ := hS.seven (w.heap.size) 28 t (by simp)
        go_simp
        exact hK.out _ _ (Alters.refl _) rfl
      · intro u W K hS hF hK
        have f5 : u 5 = .agg #[.int .i64 (0), .int .i64 (0)] := hF 5 (by kernel_rfl)
        have f6 : u 6 = Ft.val y := hF 6 (by kernel_rfl)
        have f7 : u 7 = Ft.val t := hF 7 (by kernel_rfl)
        simp only [putsFrom, Act.put, Nat.reduceAdd, List.setIfInBounds_toArray, List.set_cons_zero, List.set_cons_succ, f5, f6, f7] at hK ⊢
        clear hF
        go_simp
        refine (two_v13 (D := AllD) (f := Ft.pl y) (g := Ft.pl t) 7 0 0 allD ⟨y, rfl, rfl, (hS.inn (w.heap.size + 1) 28 y (by simp))⟩ ⟨t, rfl, rfl, (hS.inn (w.heap.size) 28 t (by simp))⟩).mono ?_
        rintro e W2 ⟨v, rfl, hm, hq⟩
        exact hK.out _ _ hq hm
      · intro u W K hS hF hK
        have f0 : u 0 = .agg #[.int .i64 (0), .int .i64 (0)] := hF 0 (by kernel_rfl)
        have f4 : MadeIn AllD (exTwo 7 0 0 (Ft.pl t) (Ft.pl y)) (u 4) W := hF 4 (by kernel_rfl)
        have f8 : MadeIn AllD (exTwo 7 0 0 (Ft.pl y) (Ft.pl t)) (u 8) W := hF 8 (by kernel_rfl)
        simp only [putsFrom, Act.put, Nat.reduceAdd, List.setIfInBounds_toArray, List.set_cons_zero, List.set_cons_succ, f0] at hK ⊢
        clear hF
        go_simp
        refine (two_v13 (D := AllD) (f := exTwo 7 0 0 (Ft.pl t) (Ft.pl y)) (g := exTwo 7 0 0 (Ft.pl y) (Ft.pl t)) 5 0 0 allD f4 f8).mono ?_
        rintro e W2 ⟨v, rfl, hm, hq⟩
        exact hK.out _ _ hq hm
      · intro u W K hS hF hK
        simp only [putsFrom, Act.put, Nat.reduceAdd, List.setIfInBounds_toArray, List.set_cons_zero, List.set_cons_succ] at hK ⊢
        clear hF
        go_simp
        exact hK.out _ _ (Alters.refl _) rfl
      · intro u W K hS hF hK
        have f9 : MadeIn AllD (exTwo 5 0 0 (exTwo 7 0 0 (Ft.pl t) (Ft.pl y)) (exTwo 7 0 0 (Ft.pl y) (Ft.pl t))) (u 9) W := hF 9 (by kernel_rfl)
        have f10 : u 10 = .slice a P.length cap := hF 10 (by kernel_rfl)
        simp only [putsFrom, Act.put, Nat.reduceAdd, List.setIfInBounds_toArray, List.set_cons_zero, List.set_cons_succ, f10] at hK ⊢
        clear hF
        obtain ⟨ta, ea, hpa, hia⟩ := f9
        simp only [ea] at hK ⊢
        go_simp
        refine (row_of (c := cap) (f := exTwo 5 0 0 (exTwo 7 0 0 (Ft.pl t) (Ft.pl y)) (exTwo 7 0 0 (Ft.pl y) (Ft.pl t))) hpa hia hS.shapes (by (repeat first | rw [exOne_size] | rw [exTwo_size] | rw [pl_size] | rw [leaf_size]); have := HZt.out; have := HZy.out; omega) (HW.out.quiet hS.quiet) HPL.out ((row_iff HSt.out HSy.out).symm.trans HI.out)).mono ?_
        rintro e W2 ⟨ra, rc, rfl, hbl, hq⟩
        exact hK.out _ _ hq ⟨ra, rc, rfl, hbl⟩
      · intro u W hS hF
        have f11 : ∃ a c, u 11 = .slice a I.length c ∧ BlAt W a I := hF 11 (by simp)
        simp only [putsFrom, Act.put, Nat.reduceAdd, List.setIfInBounds_toArray, List.set_cons_zero, List.set_cons_succ]
        clear hF 
        have HS := Go.Lib.hid hS
        clear hS
        obtain ⟨rj, cj, ej, hj⟩ := f11
        simp only [ej]
        replace HL := Go.Lib.hid (HS.out.row hj)
        clear HS hj ej
        generalize W = w27 at *
        go_simp
        obtain ⟨x00, x01⟩ := HL.out.two (w9.heap.size) (0) (0) (by simp)
        obtain ⟨x10, x11, x12, x13, x14, x15, x16⟩ := HL.out.seven (w11.heap.size) 28 t11 (by simp)
        have HC := Go.Lib.hid (one_v13 (D := AllD) (f := exOne 4 0 0 (Ft.pl t)) 4 0 0 allD ⟨t11, rfl, HPt11.out, (HL.out.inn (w11.heap.size) 28 t11 (by simp))⟩)
        unfold Ft.val at HC
        go_wp2_with fail
        refine HC.out.mono ?_
        rintro e w28 ⟨v, rfl, ⟨ta, rfl, hpa, hia⟩, hq⟩
        clear x00 x01 x10 x11 x12 x13 x14 x15 x16 HC
        replace HL := Go.Lib.hid (HL.out.keep hq)
        clear hq
        unfold Ft.val
        have HC := Go.Lib.hid (row_of (c := cap) (f := exOne 4 0 0 (exOne 4 0 0 (Ft.pl t))) hpa hia HL.out.shapes (by (repeat first | rw [exOne_size] | rw [exTwo_size] | rw [pl_size] | rw [leaf_size]); have := HZt.out; have := HZy.out; omega) (HW.out.quiet HL.out.quiet) HPL.out ((row_nn HSt.out).trans HK.out))
        unfold Ft.val at HC
        go_wp2_with fail
        refine HC.out.mono ?_
        rintro e w29 ⟨rk, ck, rfl, hk, hq⟩
        clear  HC
        clear hpa hia
        replace HL := Go.Lib.hid ((HL.out.keep hq).row hk)
        clear hk
        clear hq
        obtain ⟨x00, x01, x02, x03, x04, x05, x06⟩ := HL.out.seven (w.heap.size) 28 t (by simp)
        have HC := Go.Lib.hid (row_of (c := cap) (f := Ft.pl t) rfl (HL.out.inn (w.heap.size) 28 t (by simp)) HL.out.shapes (by (repeat first | rw [exOne_size] | rw [exTwo_size] | rw [pl_size] | rw [leaf_size]); have := HZt.out; have := HZy.out; omega) (HW.out.quiet HL.out.quiet) HPL.out HK.out)
        unfold Ft.val at HC
        go_wp2_with fail
        refine HC.out.mono ?_
        rintro e w30 ⟨rl, cl, rfl, hl, hq⟩
        clear x00 x01 x02 x03 x04 x05 x06 HC
        replace HL := Go.Lib.hid ((HL.out.keep hq).row hl)
        clear hl
        clear hq
        have gA : ((A.length : Int) == (P.length : Int)) = true := by rw [HAF.out]; simp
        have gC : ((C.length : Int) == (P.length : Int)) = true := by rw [HCF.out]; simp
        have gK : ((K.length : Int) == (P.length : Int)) = true := by rw [HKF.out]; simp
        have HC := Go.Lib.hid (same39_eq ra ca rb cb A _ (HL.out.bl ra A (by simp)) (HL.out.bl rb A (by simp)) HAL.out)
        go_wp2_with fail
        refine HC.out.mono ?_
        rintro e w31 ⟨rfl, hq⟩
        clear HC
        replace HL := Go.Lib.hid (HL.out.keep hq)
        clear hq
        have HC := Go.Lib.hid (same39_eq rc cc rd cd C _ (HL.out.bl rc C (by simp)) (HL.out.bl rd C (by simp)) HCL.out)
        go_wp2_with fail
        refine HC.out.mono ?_
        rintro e w32 ⟨rfl, hq⟩
        clear HC
        replace HL := Go.Lib.hid (HL.out.keep hq)
        clear hq
        have HC := Go.Lib.hid (same39_eq re ce rh ch E _ (HL.out.bl re E (by simp)) (HL.out.bl rh E (by simp)) HEL.out)
        go_wp2_with fail
        refine HC.out.mono ?_
        rintro e w33 ⟨rfl, hq⟩
        clear HC
        replace HL := Go.Lib.hid (HL.out.keep hq)
        clear hq
        have HC := Go.Lib.hid (same39_eq ri ci rj cj I _ (HL.out.bl ri I (by simp)) (HL.out.bl rj I (by simp)) HIL.out)
        go_wp2_with fail
        refine HC.out.mono ?_
        rintro e w34 ⟨rfl, hq⟩
        clear HC
        replace HL := Go.Lib.hid (HL.out.keep hq)
        clear hq
        have HC := Go.Lib.hid (same39_eq rk ck rl cl K _ (HL.out.bl rk K (by simp)) (HL.out.bl rl K (by simp)) HKL.out)
        go_wp2_with fail
        refine HC.out.mono ?_
        rintro e w35 ⟨rfl, hq⟩
        clear HC
        replace HL := Go.Lib.hid (HL.out.keep hq)
        clear hq
        go_wp2_with fail
        go_ret
        exact ⟨rfl, HL.out.quiet⟩
end Go.Proofs.YtnpcakakjhiboaaDoor
