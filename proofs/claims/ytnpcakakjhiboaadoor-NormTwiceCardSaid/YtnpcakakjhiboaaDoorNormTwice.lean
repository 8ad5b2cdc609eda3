/- NormTwice: the walk of the law. No condition. -/
import Derived.Test.YtnpcakakjhiboaaDoorNormTells
import Derived.Test.YtnpcakakjhiboaaDoorLawSt
import Derived.Test.YtnpcakakjhiboaaDoorNfP
import Derived.Test.YtnpcakakjhiboaaDoorOpenF
namespace Go.Proofs.YtnpcakakjhiboaaDoor
open Go.RowKit Go.Lo Go.WideShapes

set_option maxRecDepth 100000 in
set_option maxHeartbeats 8000000 in
theorem normTwice_walk (t y : Ft) (sl sh : Int) (w : World) (hin : In AllD w t) (_hw : ∀ n, n ∈ t.pre → n.top.n.wf) (hin2 : In AllD w y) (_hw2 : ∀ n, n ∈ y.pre → n.top.n.wf) (_hl : I64 sl) (_hh : I64 sh) (hS : Shapes w) : Calls Tryd.prog 5 #[t.val, y.val, .agg #[.int .i64 sl, .int .i64 sh]] w (Said (.bool true) w) := by
  have hl := (((LawAt.zero w hS).box 28 hin).box 28 (hin2.quiet ((Alters.refl _).alloc _))).span sl sh
  simp only [World.size_alloc] at hl
  have HL := Go.Lib.hid hl
  have HPOS := Go.Lib.hid hS.lt
  clear hin hin2 hS hl
  unfold Ft.val
  go_enter Tryd.func5, Tryd.ntmps5
  go_wp2_with fail
  generalize ((w.alloc _).alloc _).alloc _ = w1 at *
  refine (awake_walk w1 HL.out.shapes).mono ?_
  rintro e w2 ⟨rfl, hq⟩
  replace HL := Go.Lib.hid (HL.out.keep hq)
  clear hq
  obtain ⟨x00, x01, x02, x03, x04, x05, x06⟩ := HL.out.seven (w.heap.size) 28 t (by simp)
  have HC := Go.Lib.hid (left_any AllD t 30 w2 (HL.out.inn (w.heap.size) 28 t (by simp)) (by decide))
  unfold Ft.val at HC
  go_wp2_with fail
  refine HC.out.mono ?_
  rintro e w3 ⟨rfl, hq⟩
  clear x00 x01 x02 x03 x04 x05 x06 HC
  replace HL := Go.Lib.hid (HL.out.keep hq)
  clear hq
  obtain ⟨x00, x01, x02, x03, x04, x05, x06⟩ := HL.out.seven (w.heap.size + 1) 28 y (by simp)
  have HC := Go.Lib.hid (left_any AllD y 30 w3 (HL.out.inn (w.heap.size + 1) 28 y (by simp)) (by decide))
  unfold Ft.val at HC
  go_wp2_with fail
  refine HC.out.mono ?_
  rintro e w4 ⟨rfl, hq⟩
  clear x00 x01 x02 x03 x04 x05 x06 HC
  replace HL := Go.Lib.hid (HL.out.keep hq)
  clear hq
  by_cases h0 : leftF (Ft.pl t) 30 ≤ 0
  · go_wp2_with fail
    go_ret
    exact ⟨rfl, HL.out.quiet⟩
  by_cases h1 : leftF (Ft.pl y) 30 ≤ 0
  · go_wp2_with fail
    go_ret
    exact ⟨rfl, HL.out.quiet⟩
  have hz := left_size h0
  have hz2 := left_size h1
  have HZt : Hid (t.size ≤ 30) := Go.Lib.hid (by have := hz; omega)
  have HZy : Hid (y.size ≤ 30) := Go.Lib.hid (by have := hz2; omega)
  clear hz hz2
  obtain ⟨x00, x01⟩ := HL.out.two (w.heap.size + 1 + 1) (sl) (sh) (by simp)
  have HC := Go.Lib.hid (right34_walk sl sh w4)
  by_cases hf : 0 ≤ sl ∧ sl ≤ sh
  rotate_left
  · rw [show decide (0 ≤ sl ∧ sl ≤ sh) = false by simpa using hf] at HC
    try unfold Ft.val at HC
    go_wp2_with fail
    refine HC.out.mono ?_
    rintro e w5 ⟨rfl, hq⟩
    clear x00 x01 HC
    replace HL := Go.Lib.hid (HL.out.keep hq)
    clear hq
    go_wp2_with fail
    go_ret
    exact ⟨rfl, HL.out.quiet⟩
  rw [show decide (0 ≤ sl ∧ sl ≤ sh) = true by simpa using hf] at HC
  try unfold Ft.val at HC
  have HLH := Go.Lib.hid hf
  clear hf
  go_wp2_with fail
  refine HC.out.mono ?_
  rintro e w5 ⟨rfl, hq⟩
  clear x00 x01 HC
  replace HL := Go.Lib.hid (HL.out.keep hq)
  clear hq
  obtain ⟨x00, x01, x02, x03, x04, x05, x06⟩ := HL.out.seven (w.heap.size) 28 t (by simp)
  have HC := Go.Lib.hid (sound_walk AllD t w5 (HL.out.inn (w.heap.size) 28 t (by simp)) HL.out.shapes (by have := HZt.out; omega))
  by_cases hf : first (Ft.pl t) = 0
  rotate_left
  · rw [show decide (first (Ft.pl t) = 0) = false by simpa using hf] at HC
    try unfold Ft.val at HC
    go_wp2_with fail
    refine HC.out.mono ?_
    rintro e w6 ⟨rfl, hq⟩
    clear x00 x01 x02 x03 x04 x05 x06 HC
    replace HL := Go.Lib.hid (HL.out.keep hq)
    clear hq
    go_wp2_with fail
    go_ret
    exact ⟨rfl, HL.out.quiet⟩
  rw [show decide (first (Ft.pl t) = 0) = true by simpa using hf] at HC
  try unfold Ft.val at HC
  have HSt := Go.Lib.hid ((first_zero _).1 hf)
  clear hf
  go_wp2_with fail
  refine HC.out.mono ?_
  rintro e w6 ⟨rfl, hq⟩
  clear x00 x01 x02 x03 x04 x05 x06 HC
  replace HL := Go.Lib.hid (HL.out.keep hq)
  clear hq
  obtain ⟨x00, x01, x02, x03, x04, x05, x06⟩ := HL.out.seven (w.heap.size + 1) 28 y (by simp)
  have HC := Go.Lib.hid (sound_walk AllD y w6 (HL.out.inn (w.heap.size + 1) 28 y (by simp)) HL.out.shapes (by have := HZy.out; omega))
  by_cases hf : first (Ft.pl y) = 0
  rotate_left
  · rw [show decide (first (Ft.pl y) = 0) = false by simpa using hf] at HC
    try unfold Ft.val at HC
    go_wp2_with fail
    refine HC.out.mono ?_
    rintro e w7 ⟨rfl, hq⟩
    clear x00 x01 x02 x03 x04 x05 x06 HC
    replace HL := Go.Lib.hid (HL.out.keep hq)
    clear hq
    go_wp2_with fail
    go_ret
    exact ⟨rfl, HL.out.quiet⟩
  rw [show decide (first (Ft.pl y) = 0) = true by simpa using hf] at HC
  try unfold Ft.val at HC
  have HSy := Go.Lib.hid ((first_zero _).1 hf)
  clear hf
  go_wp2_with fail
  refine HC.out.mono ?_
  rintro e w7 ⟨rfl, hq⟩
  clear x00 x01 x02 x03 x04 x05 x06 HC
  replace HL := Go.Lib.hid (HL.out.keep hq)
  clear hq
  go_upto_region 9 with (fail)
  replace HL := Go.Lib.hid (HL.out.span 0 0)
  generalize w7.alloc _ = w8 at *
  obtain ⟨x00, x01⟩ := HL.out.two (w7.heap.size) (0) (0) (by simp)
  obtain ⟨x10, x11, x12, x13, x14, x15, x16⟩ := HL.out.seven (w.heap.size) 28 t (by simp)
  have HC := Go.Lib.hid (one_v (D := AllD) (f := Ft.pl t) 4 0 0 allD ⟨t, rfl, rfl, (HL.out.inn (w.heap.size) 28 t (by simp))⟩)
  unfold Ft.val at HC
  go_wp2_with fail
  refine HC.out.mono ?_
  rintro e w9 ⟨v, rfl, ⟨t11, rfl, hp, hi⟩, hq⟩
  clear x00 x01 x10 x11 x12 x13 x14 x15 x16 HC
  replace HL := Go.Lib.hid (HL.out.keep hq)
  clear hq
  replace HL := Go.Lib.hid (HL.out.box 28 (t := t11) (hi.mono (fun _ _ _ => trivial)))
  have HPt11 : Hid (Ft.pl t11 = exOne 4 0 0 (Ft.pl t)) := hp
  clear hi hp
  unfold Ft.val
  go_upto_region 10 with (fail)
  generalize w9.alloc _ = w10 at *
  have HZt11 : Hid (t11.size ≤ 31) := Go.Lib.hid (by rw [size_of HPt11.out]; (repeat first | rw [exOne_size] | rw [exTwo_size] | rw [pl_size]); have := HZt.out; have := HZy.out; omega)
  obtain ⟨x00, x01⟩ := HL.out.two (w7.heap.size) (0) (0) (by simp)
  obtain ⟨x10, x11, x12, x13, x14, x15, x16⟩ := HL.out.seven (w.heap.size + 1) 28 y (by simp)
  have HC := Go.Lib.hid (one_v (D := AllD) (f := Ft.pl y) 4 0 0 allD ⟨y, rfl, rfl, (HL.out.inn (w.heap.size + 1) 28 y (by simp))⟩)
  unfold Ft.val at HC
  go_wp2_with fail
  refine HC.out.mono ?_
  rintro e w11 ⟨v, rfl, ⟨t12, rfl, hp, hi⟩, hq⟩
  clear x00 x01 x10 x11 x12 x13 x14 x15 x16 HC
  replace HL := Go.Lib.hid (HL.out.keep hq)
  clear hq
  replace HL := Go.Lib.hid (HL.out.box 28 (t := t12) (hi.mono (fun _ _ _ => trivial)))
  have HPt12 : Hid (Ft.pl t12 = exOne 4 0 0 (Ft.pl y)) := hp
  clear hi hp
  unfold Ft.val
  go_upto_region 11 with (fail)
  generalize w11.alloc _ = w12 at *
  have HZt12 : Hid (t12.size ≤ 31) := Go.Lib.hid (by rw [size_of HPt12.out]; (repeat first | rw [exOne_size] | rw [exTwo_size] | rw [pl_size]); have := HZt.out; have := HZy.out; omega)
  obtain ⟨x00, x01⟩ := HL.out.two (w7.heap.size) (0) (0) (by simp)
  obtain ⟨x10, x11, x12, x13, x14, x15, x16⟩ := HL.out.seven (w9.heap.size) 28 t11 (by simp)
  have HC := Go.Lib.hid (one_v (D := AllD) (f := exOne 4 0 0 (Ft.pl t)) 4 0 0 allD ⟨t11, rfl, HPt11.out, (HL.out.inn (w9.heap.size) 28 t11 (by simp))⟩)
  unfold Ft.val at HC
  go_wp2_with fail
  refine HC.out.mono ?_
  rintro e w13 ⟨v, rfl, ⟨ta, rfl, hpa, hia⟩, hq⟩
  clear x00 x01 x10 x11 x12 x13 x14 x15 x16 HC
  replace HL := Go.Lib.hid (HL.out.keep hq)
  clear hq
  have hza : ta.size ≤ 32 := by rw [size_of (f := exOne 4 0 0 (exOne 4 0 0 (Ft.pl t))) hpa]; (repeat first | rw [exOne_size] | rw [exTwo_size] | rw [pl_size]); have := HZt.out; have := HZy.out; omega
  unfold Ft.val
  have HC := Go.Lib.hid (normOf_v AllD ta w13 hia HL.out.shapes (by have := hza; omega) allD)
  unfold Ft.val at HC
  go_wp2_with fail
  refine HC.out.mono ?_
  rintro e w14 ⟨v, rfl, ⟨t13, rfl, hp, hi⟩, hq⟩
  clear  HC
  replace HL := Go.Lib.hid (HL.out.keep hq)
  clear hq
  replace hp : Ft.pl t13 = normOf (exOne 4 0 0 (exOne 4 0 0 (Ft.pl t))) := hp.trans (congrArg normOf hpa)
  clear hia hpa hza
  replace HL := Go.Lib.hid (HL.out.box 28 (t := t13) (hi.mono (fun _ _ _ => trivial)))
  have HPt13 : Hid (Ft.pl t13 = normOf (exOne 4 0 0 (exOne 4 0 0 (Ft.pl t)))) := hp
  clear hi hp
  unfold Ft.val
  go_upto_region 12 with (fail)
  generalize w14.alloc _ = w15 at *
  have HZt13 : Hid (t13.size ≤ 129) := Go.Lib.hid (by rw [size_of HPt13.out]; exact Nat.le_trans (normOf_size _ 32 (by (repeat first | rw [exOne_size] | rw [exTwo_size] | rw [pl_size]); have := HZt.out; have := HZy.out; omega)) (by decide))
  obtain ⟨x00, x01⟩ := HL.out.two (w7.heap.size) (0) (0) (by simp)
  obtain ⟨x10, x11, x12, x13, x14, x15, x16⟩ := HL.out.seven (w.heap.size) 28 t (by simp)
  have HC := Go.Lib.hid (two_v (D := AllD) (f := Ft.pl t) (g := Ft.pl t) 8 0 0 allD ⟨t, rfl, rfl, (HL.out.inn (w.heap.size) 28 t (by simp))⟩ ⟨t, rfl, rfl, (HL.out.inn (w.heap.size) 28 t (by simp))⟩)
  unfold Ft.val at HC
  go_wp2_with fail
  refine HC.out.mono ?_
  rintro e w16 ⟨v, rfl, ⟨ta, rfl, hpa, hia⟩, hq⟩
  clear x00 x01 x10 x11 x12 x13 x14 x15 x16 HC
  replace HL := Go.Lib.hid (HL.out.keep hq)
  clear hq
  have hza : ta.size ≤ 61 := by rw [size_of (f := exTwo 8 0 0 (Ft.pl t) (Ft.pl t)) hpa]; (repeat first | rw [exOne_size] | rw [exTwo_size] | rw [pl_size]); have := HZt.out; have := HZy.out; omega
  unfold Ft.val
  have HC := Go.Lib.hid (normOf_v AllD ta w16 hia HL.out.shapes (by have := hza; omega) allD)
  unfold Ft.val at HC
  go_wp2_with fail
  refine HC.out.mono ?_
  rintro e w17 ⟨v, rfl, ⟨t14, rfl, hp, hi⟩, hq⟩
  clear  HC
  replace HL := Go.Lib.hid (HL.out.keep hq)
  clear hq
  replace hp : Ft.pl t14 = normOf (exTwo 8 0 0 (Ft.pl t) (Ft.pl t)) := hp.trans (congrArg normOf hpa)
  clear hia hpa hza
  replace HL := Go.Lib.hid (HL.out.box 28 (t := t14) (hi.mono (fun _ _ _ => trivial)))
  have HPt14 : Hid (Ft.pl t14 = normOf (exTwo 8 0 0 (Ft.pl t) (Ft.pl t))) := hp
  clear hi hp
  unfold Ft.val
  go_upto_region 13 with (fail)
  generalize w17.alloc _ = w18 at *
  have HZt14 : Hid (t14.size ≤ 245) := Go.Lib.hid (by rw [size_of HPt14.out]; exact Nat.le_trans (normOf_size _ 61 (by (repeat first | rw [exOne_size] | rw [exTwo_size] | rw [pl_size]); have := HZt.out; have := HZy.out; omega)) (by decide))
  obtain ⟨x00, x01⟩ := HL.out.two (w.heap.size + 1 + 1) (sl) (sh) (by simp)
  obtain ⟨x10, x11, x12, x13, x14, x15, x16⟩ := HL.out.seven (w.heap.size) 28 t (by simp)
  have HC := Go.Lib.hid (one_v (D := AllD) (f := Ft.pl t) 10 sl sh allD ⟨t, rfl, rfl, (HL.out.inn (w.heap.size) 28 t (by simp))⟩)
  unfold Ft.val at HC
  go_wp2_with fail
  refine HC.out.mono ?_
  rintro e w19 ⟨v, rfl, ⟨ta, rfl, hpa, hia⟩, hq⟩
  clear x00 x01 x10 x11 x12 x13 x14 x15 x16 HC
  replace HL := Go.Lib.hid (HL.out.keep hq)
  clear hq
  have hza : ta.size ≤ 31 := by rw [size_of (f := exOne 10 sl sh (Ft.pl t)) hpa]; (repeat first | rw [exOne_size] | rw [exTwo_size] | rw [pl_size]); have := HZt.out; have := HZy.out; omega
  unfold Ft.val
  have HC := Go.Lib.hid (normOf_v AllD ta w19 hia HL.out.shapes (by have := hza; omega) allD)
  unfold Ft.val at HC
  go_wp2_with fail
  refine HC.out.mono ?_
  rintro e w20 ⟨v, rfl, ⟨t15, rfl, hp, hi⟩, hq⟩
  clear  HC
  replace HL := Go.Lib.hid (HL.out.keep hq)
  clear hq
  replace hp : Ft.pl t15 = normOf (exOne 10 sl sh (Ft.pl t)) := hp.trans (congrArg normOf hpa)
  clear hia hpa hza
  replace HL := Go.Lib.hid (HL.out.box 28 (t := t15) (hi.mono (fun _ _ _ => trivial)))
  have HPt15 : Hid (Ft.pl t15 = normOf (exOne 10 sl sh (Ft.pl t))) := hp
  clear hi hp
  unfold Ft.val
  go_upto_region 14 with (fail)
  generalize w20.alloc _ = w21 at *
  have HZt15 : Hid (t15.size ≤ 125) := Go.Lib.hid (by rw [size_of HPt15.out]; exact Nat.le_trans (normOf_size _ 31 (by (repeat first | rw [exOne_size] | rw [exTwo_size] | rw [pl_size]); have := HZt.out; have := HZy.out; omega)) (by decide))
  have HSND : Hid (sound (exOne 4 0 0 (exOne 9 sl sh (exOne 4 0 0 (Ft.pl t))))) := Go.Lib.hid (sound_one4 (sound_one9 (sound_one4 HSt.out) HLH.out.1 HLH.out.2))
  refine wp_region_wants (by kernel_rfl) (by kernel_rfl) (by kernel_rfl) (by kernel_rfl) (LawAt w [(w20.heap.size, 28, t15), (w17.heap.size, 28, t14), (w14.heap.size, 28, t13), (w11.heap.size, 28, t12), (w9.heap.size, 28, t11), (w.heap.size + 1, 28, y), (w.heap.size, 28, t)] [(w7.heap.size, 0, 0), (w.heap.size + 1 + 1, sl, sh)]) (fun _ _ hq h => h.keep hq) [Want.is (.agg #[.int .i64 (0), .int .i64 (0)]), Want.is (.agg #[.int .i64 (sl), .int .i64 (sh)]), Want.is (Ft.val t11), Want.fm AllD (exOne 9 sl sh (exOne 4 0 0 (Ft.pl t))), Want.fm AllD (exOne 4 0 0 (exOne 9 sl sh (exOne 4 0 0 (Ft.pl t)))), Want.fm AllD (normOf (exOne 4 0 0 (exOne 9 sl sh (exOne 4 0 0 (Ft.pl t))))), Want.box w.heap.size #[.int .i64 0, .string ⟨#[]⟩, .int .i64 0, .int .i64 0, .int .i64 0, .int .i64 0, .slice none 0 0] 28] (HL.out.keep ((Alters.refl _).drew)) (by decide) ?_
  refine Steps.cons ?_ (Steps.cons ?_ (Steps.cons ?_ (Steps.cons ?_ (Steps.cons ?_ (Steps.cons ?_ (Steps.cons ?_ (Steps.last ?_)))))))
  · intro u W K hS hF hK
    simp only [putsFrom, Act.put, Nat.reduceAdd, List.setIfInBounds_toArray, List.set_cons_zero, List.set_cons_succ] at hK ⊢
    clear hF
    obtain ⟨x0, x1⟩ := hS.two (w7.heap.size) (0) (0) (by simp)
    go_simp
    exact hK.out _ _ (Alters.refl _) rfl
  · intro u W K hS hF hK
    simp only [putsFrom, Act.put, Nat.reduceAdd, List.setIfInBounds_toArray, List.set_cons_zero, List.set_cons_succ] at hK ⊢
    clear hF
    obtain ⟨x0, x1⟩ := hS.two (w.heap.size + 1 + 1) (sl) (sh) (by simp)
    go_simp
    exact hK.out _ _ (Alters.refl _) rfl
  · intro u W K hS hF hK
    simp only [putsFrom, Act.put, Nat.reduceAdd, List.setIfInBounds_toArray, List.set_cons_zero, List.set_cons_succ] at hK ⊢
    clear hF
    obtain ⟨x0, x1, x2, x3, x4, x5, x6⟩ := hS.seven (w9.heap.size) 28 t11 (by simp)
    go_simp
    exact hK.out _ _ (Alters.refl _) rfl
  · intro u W K hS hF hK
    have f1 : u 1 = .agg #[.int .i64 (sl), .int .i64 (sh)] := hF 1 (by kernel_rfl)
    have f2 : u 2 = Ft.val t11 := hF 2 (by kernel_rfl)
    simp only [putsFrom, Act.put, Nat.reduceAdd, List.setIfInBounds_toArray, List.set_cons_zero, List.set_cons_succ, f1, f2] at hK ⊢
    clear hF
    go_simp
    refine (one_v (D := AllD) (f := exOne 4 0 0 (Ft.pl t)) 9 sl sh allD ⟨t11, rfl, HPt11.out, hS.inn (w9.heap.size) 28 t11 (by simp)⟩).mono ?_
    rintro e W2 ⟨v, rfl, hm, hq⟩
    exact hK.out _ _ hq hm
  · intro u W K hS hF hK
    have f0 : u 0 = .agg #[.int .i64 (0), .int .i64 (0)] := hF 0 (by kernel_rfl)
    have f3 : MadeIn AllD (exOne 9 sl sh (exOne 4 0 0 (Ft.pl t))) (u 3) W := hF 3 (by kernel_rfl)
    simp only [putsFrom, Act.put, Nat.reduceAdd, List.setIfInBounds_toArray, List.set_cons_zero, List.set_cons_succ, f0] at hK ⊢
    clear hF
    go_simp
    refine (one_v (D := AllD) 4 0 0 allD f3).mono ?_
    rintro e W2 ⟨v, rfl, hm, hq⟩
    exact hK.out _ _ hq hm
  · intro u W K hS hF hK
    have f4 : MadeIn AllD (exOne 4 0 0 (exOne 9 sl sh (exOne 4 0 0 (Ft.pl t)))) (u 4) W := hF 4 (by kernel_rfl)
    simp only [putsFrom, Act.put, Nat.reduceAdd, List.setIfInBounds_toArray, List.set_cons_zero, List.set_cons_succ] at hK ⊢
    clear hF
    obtain ⟨ta, ea, hpa, hia⟩ := f4
    simp only [ea] at hK ⊢
    go_simp
    refine (normOf_v AllD ta W hia hS.shapes (by rw [size_of hpa]; (repeat first | rw [exOne_size] | rw [exTwo_size] | rw [pl_size]); have := HZt.out; have := HZy.out; omega) allD).mono ?_
    rintro e W2 ⟨v, rfl, hm, hq⟩
    rw [hpa] at hm
    exact hK.out _ _ hq hm
  · intro u W K hS hF hK
    simp only [putsFrom, Act.put, Nat.reduceAdd, List.setIfInBounds_toArray, List.set_cons_zero, List.set_cons_succ] at hK ⊢
    clear hF
    go_simp
    exact hK.out _ _ ((Alters.refl _).alloc _) ⟨_, rfl, hS.quiet.size, Blk.new _ _ _⟩
  · intro u W hS hF
    have f5 : MadeIn AllD (normOf (exOne 4 0 0 (exOne 9 sl sh (exOne 4 0 0 (Ft.pl t))))) (u 5) W := hF 5 (by simp)
    have f6 : ∃ b, u 6 = .pointer (some ⟨b, 0, none⟩) ∧ w.heap.size ≤ b ∧ Blk W b #[.int .i64 0, .string ⟨#[]⟩, .int .i64 0, .int .i64 0, .int .i64 0, .int .i64 0, .slice none 0 0] 28 := hF 6 (by simp)
    simp only [putsFrom, Act.put, Nat.reduceAdd, List.setIfInBounds_toArray, List.set_cons_zero, List.set_cons_succ]
    clear hF 
    have HS := Go.Lib.hid hS
    clear hS
    obtain ⟨t16, e9, hp, hi9⟩ := f5
    obtain ⟨bt16, eb9, hb0, hb9⟩ := f6
    simp only [e9, eb9]
    clear e9 eb9
    unfold Ft.val
    obtain ⟨r0, r1, r2, r3, r4, r5, r6⟩ := seven_cells hb9
    have fr := fun i => hb9.free i
    have hst := HS.out.store HPOS.out hb0 hb9 hi9 (ops_of hp (normOf_nf HSND.out).sound) (by simp only [List.mem_cons, List.not_mem_nil, or_false, forall_eq_or_imp, forall_eq]; exact ⟨ops_of HPt15.out (normOf_nf (sound_one10 HSt.out HLH.out.1 HLH.out.2)).sound, ops_of HPt14.out (normOf_nf (sound_two (.inr (.inr (.inr rfl))) HSt.out HSt.out)).sound, ops_of HPt13.out (normOf_nf (sound_one4 (sound_one4 HSt.out))).sound, ops_of HPt12.out (sound_one4 HSy.out), ops_of HPt11.out (sound_one4 HSt.out), ops_of rfl HSy.out, ops_of rfl HSt.out⟩)
    have HPt16 : Hid (Ft.pl t16 = normOf (exOne 4 0 0 (exOne 9 sl sh (exOne 4 0 0 (Ft.pl t))))) := hp
    clear HL
    have HL := Go.Lib.hid hst
    clear hst HS hi9 hp
    go_simp
    clear r0 r1 r2 r3 r4 r5 r6 fr hb0 hb9
    generalize World.setCell _ ⟨bt16, 6, none⟩ _ = w22 at *
    go_upto_region 15 with (fail)
    clear HSND
    have HZt16 : Hid (t16.size ≤ 133) := Go.Lib.hid (by rw [size_of HPt16.out]; exact Nat.le_trans (normOf_size _ 33 (by (repeat first | rw [exOne_size] | rw [exTwo_size] | rw [pl_size]); have := HZt.out; have := HZy.out; omega)) (by decide))
    obtain ⟨x00, x01⟩ := HL.out.two (w.heap.size + 1 + 1) (sl) (sh) (by simp)
    obtain ⟨x10, x11, x12, x13, x14, x15, x16⟩ := HL.out.seven (w.heap.size) 28 t (by simp)
    obtain ⟨x20, x21, x22, x23, x24, x25, x26⟩ := HL.out.seven (w.heap.size + 1) 28 y (by simp)
    have HC := Go.Lib.hid (two_v (D := AllD) (f := Ft.pl t) (g := Ft.pl y) 12 sl sh allD ⟨t, rfl, rfl, (HL.out.inn (w.heap.size) 28 t (by simp))⟩ ⟨y, rfl, rfl, (HL.out.inn (w.heap.size + 1) 28 y (by simp))⟩)
    unfold Ft.val at HC
    go_wp2_with fail
    refine HC.out.mono ?_
    rintro e w23 ⟨v, rfl, ⟨ta, rfl, hpa, hia⟩, hq⟩
    clear x00 x01 x10 x11 x12 x13 x14 x15 x16 x20 x21 x22 x23 x24 x25 x26 HC
    replace HL := Go.Lib.hid (HL.out.keep hq)
    clear hq
    have hza : ta.size ≤ 61 := by rw [size_of (f := exTwo 12 sl sh (Ft.pl t) (Ft.pl y)) hpa]; (repeat first | rw [exOne_size] | rw [exTwo_size] | rw [pl_size]); have := HZt.out; have := HZy.out; omega
    unfold Ft.val
    have HC := Go.Lib.hid (normOf_v AllD ta w23 hia HL.out.shapes (by have := hza; omega) allD)
    unfold Ft.val at HC
    go_wp2_with fail
    refine HC.out.mono ?_
    rintro e w24 ⟨v, rfl, ⟨t17, rfl, hp, hi⟩, hq⟩
    clear  HC
    replace HL := Go.Lib.hid (HL.out.keep hq)
    clear hq
    replace hp : Ft.pl t17 = normOf (exTwo 12 sl sh (Ft.pl t) (Ft.pl y)) := hp.trans (congrArg normOf hpa)
    clear hia hpa hza
    replace HL := Go.Lib.hid (HL.out.box 28 (t := t17) (hi.mono (fun _ _ _ => trivial)))
    have HPt17 : Hid (Ft.pl t17 = normOf (exTwo 12 sl sh (Ft.pl t) (Ft.pl y))) := hp
    clear hi hp
    unfold Ft.val
    go_upto_region 16 with (fail)
    generalize w24.alloc _ = w25 at *
    have HZt17 : Hid (t17.size ≤ 245) := Go.Lib.hid (by rw [size_of HPt17.out]; exact Nat.le_trans (normOf_size _ 61 (by (repeat first | rw [exOne_size] | rw [exTwo_size] | rw [pl_size]); have := HZt.out; have := HZy.out; omega)) (by decide))
    have HSND : Hid (sound (exOne 4 0 0 (exTwo 11 sl sh (exOne 4 0 0 (Ft.pl t)) (exOne 4 0 0 (Ft.pl y))))) := Go.Lib.hid (sound_one4 (sound_two_span (.inl rfl) (sound_one4 HSt.out) (sound_one4 HSy.out) HLH.out.1 HLH.out.2))
    refine wp_region_wants (by kernel_rfl) (by kernel_rfl) (by kernel_rfl) (by kernel_rfl) (LawAt w [(w24.heap.size, 28, t17), (bt16, 28, t16), (w20.heap.size, 28, t15), (w17.heap.size, 28, t14), (w14.heap.size, 28, t13), (w11.heap.size, 28, t12), (w9.heap.size, 28, t11), (w.heap.size + 1, 28, y), (w.heap.size, 28, t)] [(w7.heap.size, 0, 0), (w.heap.size + 1 + 1, sl, sh)]) (fun _ _ hq h => h.keep hq) [Want.is (.agg #[.int .i64 (0), .int .i64 (0)]), Want.is (.agg #[.int .i64 (sl), .int .i64 (sh)]), Want.is (Ft.val t11), Want.is (Ft.val t12), Want.fm AllD (exTwo 11 sl sh (exOne 4 0 0 (Ft.pl t)) (exOne 4 0 0 (Ft.pl y))), Want.fm AllD (exOne 4 0 0 (exTwo 11 sl sh (exOne 4 0 0 (Ft.pl t)) (exOne 4 0 0 (Ft.pl y)))), Want.fm AllD (normOf (exOne 4 0 0 (exTwo 11 sl sh (exOne 4 0 0 (Ft.pl t)) (exOne 4 0 0 (Ft.pl y))))), Want.box w.heap.size #[.int .i64 0, .string ⟨#[]⟩, .int .i64 0, .int .i64 0, .int .i64 0, .int .i64 0, .slice none 0 0] 28] (HL.out.keep ((Alters.refl _).drew)) (by decide) ?_
    refine Steps.cons ?_ (Steps.cons ?_ (Steps.cons ?_ (Steps.cons ?_ (Steps.cons ?_ (Steps.cons ?_ (Steps.cons ?_ (Steps.cons ?_ (Steps.last ?_))))))))
    · intro u W K hS hF hK
      simp only [putsFrom, Act.put, Nat.reduceAdd, List.setIfInBounds_toArray, List.set_cons_zero, List.set_cons_succ] at hK ⊢
      clear hF
      obtain ⟨x0, x1⟩ := hS.two (w7.heap.size) (0) (0) (by simp)
      go_simp
      exact hK.out _ _ (Alters.refl _) rfl
    · intro u W K hS hF hK
      simp only [putsFrom, Act.put, Nat.reduceAdd, List.setIfInBounds_toArray, List.set_cons_zero, List.set_cons_succ] at hK ⊢
      clear hF
      obtain ⟨x0, x1⟩ := hS.two (w.heap.size + 1 + 1) (sl) (sh) (by simp)
      go_simp
      exact hK.out _ _ (Alters.refl _) rfl
    · intro u W K hS hF hK
      simp only [putsFrom, Act.put, Nat.reduceAdd, List.setIfInBounds_toArray, List.set_cons_zero, List.set_cons_succ] at hK ⊢
      clear hF
      obtain ⟨x0, x1, x2, x3, x4, x5, x6⟩ := hS.seven (w9.heap.size) 28 t11 (by simp)
      go_simp
      exact hK.out _ _ (Alters.refl _) rfl
    · intro u W K hS hF hK
      simp only [putsFrom, Act.put, Nat.reduceAdd, List.setIfInBounds_toArray, List.set_cons_zero, List.set_cons_succ] at hK ⊢
      clear hF
      obtain ⟨x0, x1, x2, x3, x4, x5, x6⟩ := hS.seven (w11.heap.size) 28 t12 (by simp)
      go_simp
      exact hK.out _ _ (Alters.refl _) rfl
    · intro u W K hS hF hK
      have f1 : u 1 = .agg #[.int .i64 (sl), .int .i64 (sh)] := hF 1 (by kernel_rfl)
      have f2 : u 2 = Ft.val t11 := hF 2 (by kernel_rfl)
      have f3 : u 3 = Ft.val t12 := hF 3 (by kernel_rfl)
      simp only [putsFrom, Act.put, Nat.reduceAdd, List.setIfInBounds_toArray, List.set_cons_zero, List.set_cons_succ, f1, f2, f3] at hK ⊢
      clear hF
      go_simp
      refine (two_v (D := AllD) (f := exOne 4 0 0 (Ft.pl t)) (g := exOne 4 0 0 (Ft.pl y)) 11 sl sh allD ⟨t11, rfl, HPt11.out, hS.inn (w9.heap.size) 28 t11 (by simp)⟩ ⟨t12, rfl, HPt12.out, hS.inn (w11.heap.size) 28 t12 (by simp)⟩).mono ?_
      rintro e W2 ⟨v, rfl, hm, hq⟩
      exact hK.out _ _ hq hm
    · intro u W K hS hF hK
      have f0 : u 0 = .agg #[.int .i64 (0), .int .i64 (0)] := hF 0 (by kernel_rfl)
      have f4 : MadeIn AllD (exTwo 11 sl sh (exOne 4 0 0 (Ft.pl t)) (exOne 4 0 0 (Ft.pl y))) (u 4) W := hF 4 (by kernel_rfl)
      simp only [putsFrom, Act.put, Nat.reduceAdd, List.setIfInBounds_toArray, List.set_cons_zero, List.set_cons_succ, f0] at hK ⊢
      clear hF
      go_simp
      refine (one_v (D := AllD) 4 0 0 allD f4).mono ?_
      rintro e W2 ⟨v, rfl, hm, hq⟩
      exact hK.out _ _ hq hm
    · intro u W K hS hF hK
      have f5 : MadeIn AllD (exOne 4 0 0 (exTwo 11 sl sh (exOne 4 0 0 (Ft.pl t)) (exOne 4 0 0 (Ft.pl y)))) (u 5) W := hF 5 (by kernel_rfl)
      simp only [putsFrom, Act.put, Nat.reduceAdd, List.setIfInBounds_toArray, List.set_cons_zero, List.set_cons_succ] at hK ⊢
      clear hF
      obtain ⟨ta, ea, hpa, hia⟩ := f5
      simp only [ea] at hK ⊢
      go_simp
      refine (normOf_v AllD ta W hia hS.shapes (by rw [size_of hpa]; (repeat first | rw [exOne_size] | rw [exTwo_size] | rw [pl_size]); have := HZt.out; have := HZy.out; omega) allD).mono ?_
      rintro e W2 ⟨v, rfl, hm, hq⟩
      rw [hpa] at hm
      exact hK.out _ _ hq hm
    · intro u W K hS hF hK
      simp only [putsFrom, Act.put, Nat.reduceAdd, List.setIfInBounds_toArray, List.set_cons_zero, List.set_cons_succ] at hK ⊢
      clear hF
      go_simp
      exact hK.out _ _ ((Alters.refl _).alloc _) ⟨_, rfl, hS.quiet.size, Blk.new _ _ _⟩
    · intro u W hS hF
      have f6 : MadeIn AllD (normOf (exOne 4 0 0 (exTwo 11 sl sh (exOne 4 0 0 (Ft.pl t)) (exOne 4 0 0 (Ft.pl y))))) (u 6) W := hF 6 (by simp)
      have f7 : ∃ b, u 7 = .pointer (some ⟨b, 0, none⟩) ∧ w.heap.size ≤ b ∧ Blk W b #[.int .i64 0, .string ⟨#[]⟩, .int .i64 0, .int .i64 0, .int .i64 0, .int .i64 0, .slice none 0 0] 28 := hF 7 (by simp)
      simp only [putsFrom, Act.put, Nat.reduceAdd, List.setIfInBounds_toArray, List.set_cons_zero, List.set_cons_succ]
      clear hF 
      have HS := Go.Lib.hid hS
      clear hS
      obtain ⟨t18, e9, hp, hi9⟩ := f6
      obtain ⟨bt18, eb9, hb0, hb9⟩ := f7
      simp only [e9, eb9]
      clear e9 eb9
      unfold Ft.val
      obtain ⟨r0, r1, r2, r3, r4, r5, r6⟩ := seven_cells hb9
      have fr := fun i => hb9.free i
      have hst := HS.out.store HPOS.out hb0 hb9 hi9 (ops_of hp (normOf_nf HSND.out).sound) (by simp only [List.mem_cons, List.not_mem_nil, or_false, forall_eq_or_imp, forall_eq]; exact ⟨ops_of HPt17.out (normOf_nf (sound_two_span (.inr rfl) HSt.out HSy.out HLH.out.1 HLH.out.2)).sound, ops_of HPt16.out (normOf_nf (sound_one4 (sound_one9 (sound_one4 HSt.out) HLH.out.1 HLH.out.2))).sound, ops_of HPt15.out (normOf_nf (sound_one10 HSt.out HLH.out.1 HLH.out.2)).sound, ops_of HPt14.out (normOf_nf (sound_two (.inr (.inr (.inr rfl))) HSt.out HSt.out)).sound, ops_of HPt13.out (normOf_nf (sound_one4 (sound_one4 HSt.out))).sound, ops_of HPt12.out (sound_one4 HSy.out), ops_of HPt11.out (sound_one4 HSt.out), ops_of rfl HSy.out, ops_of rfl HSt.out⟩)
      have HPt18 : Hid (Ft.pl t18 = normOf (exOne 4 0 0 (exTwo 11 sl sh (exOne 4 0 0 (Ft.pl t)) (exOne 4 0 0 (Ft.pl y))))) := hp
      clear HL
      have HL := Go.Lib.hid hst
      clear hst HS hi9 hp
      go_simp
      clear r0 r1 r2 r3 r4 r5 r6 fr hb0 hb9
      generalize World.setCell _ ⟨bt18, 6, none⟩ _ = w26 at *
      go_upto_region 17 with (fail)
      clear HSND
      have HZt18 : Hid (t18.size ≤ 257) := Go.Lib.hid (by rw [size_of HPt18.out]; exact Nat.le_trans (normOf_size _ 64 (by (repeat first | rw [exOne_size] | rw [exTwo_size] | rw [pl_size]); have := HZt.out; have := HZy.out; omega)) (by decide))
      have h14 : t14.top.n.op = 1 := by rw [← pl_op2, HPt14.out, normOf_iff_self HSt.out]; rfl
      have h15 : (t15.top.n.op != 0) = true := by
        have := normOf_op0 (sound_one10 HSt.out HLH.out.1 HLH.out.2)
        rw [← HPt15.out, pl_op2] at this
        simpa using this
      have h17 : (t17.top.n.op != 0) = true := by
        have := normOf_op0 (sound_two_span (op := 12) (.inr rfl) HSt.out HSy.out HLH.out.1 HLH.out.2)
        rw [← HPt17.out, pl_op2] at this
        simpa using this
      have H14 := Go.Lib.hid h14
      clear h14
      refine wp_region_wants (by kernel_rfl) (by kernel_rfl) (by kernel_rfl) (by kernel_rfl) (LawAt w [(bt18, 28, t18), (w24.heap.size, 28, t17), (bt16, 28, t16), (w20.heap.size, 28, t15), (w17.heap.size, 28, t14), (w14.heap.size, 28, t13), (w11.heap.size, 28, t12), (w9.heap.size, 28, t11), (w.heap.size + 1, 28, y), (w.heap.size, 28, t)] [(w7.heap.size, 0, 0), (w.heap.size + 1 + 1, sl, sh)]) (fun _ _ hq h => h.keep hq) [Want.is (Ft.val t13), Want.is (Ft.val t), Want.fm AllD (normOf (Ft.pl t)), Want.is (.bool true), Want.is (.bool true), Want.is (.pointer (some ⟨w17.heap.size, 0, none⟩)), Want.is (.int .i64 1), Want.is (.bool true), Want.is (.bool true), Want.is (.bool true), Want.is (Ft.val t15), Want.is (Ft.val t16), Want.is (.bool true), Want.is (.bool true), Want.is (.bool true), Want.is (Ft.val t17), Want.is (Ft.val t18), Want.is (.bool true), Want.is (.bool true), Want.is (.bool true), Want.is (.pointer (some ⟨w20.heap.size, 0, none⟩)), Want.is (.int .i64 t15.top.n.op), Want.is (.bool true), Want.is (.bool true), Want.is (.bool true), Want.is (.pointer (some ⟨w24.heap.size, 0, none⟩)), Want.is (.int .i64 t17.top.n.op), Want.is (.bool true), Want.is (.bool true)] (HL.out.keep ((Alters.refl _).drew)) (by decide) ?_
      refine Steps.cons ?_ (Steps.cons ?_ (Steps.cons ?_ (Steps.cons ?_ (Steps.cons ?_ (Steps.cons ?_ (Steps.cons ?_ (Steps.cons ?_ (Steps.cons ?_ (Steps.cons ?_ (Steps.cons ?_ (Steps.cons ?_ (Steps.cons ?_ (Steps.cons ?_ (Steps.cons ?_ (Steps.cons ?_ (Steps.cons ?_ (Steps.cons ?_ (Steps.cons ?_ (Steps.cons ?_ (Steps.cons ?_ (Steps.cons ?_ (Steps.cons ?_ (Steps.cons ?_ (Steps.cons ?_ (Steps.cons ?_ (Steps.cons ?_ (Steps.cons ?_ (Steps.cons ?_ (Steps.last ?_)))))))))))))))))))))))))))))
      · intro u W K hS hF hK
        simp only [putsFrom, Act.put, Nat.reduceAdd, List.setIfInBounds_toArray, List.set_cons_zero, List.set_cons_succ] at hK ⊢
        clear hF
        obtain ⟨x0, x1, x2, x3, x4, x5, x6⟩ := hS.seven (w14.heap.size) 28 t13 (by simp)
        go_simp
        exact hK.out _ _ (Alters.refl _) rfl
      · intro u W K hS hF hK
        simp only [putsFrom, Act.put, Nat.reduceAdd, List.setIfInBounds_toArray, List.set_cons_zero, List.set_cons_succ] at hK ⊢
        clear hF
        obtain ⟨x0, x1, x2, x3, x4, x5, x6⟩ := hS.seven (w.heap.size) 28 t (by simp)
        go_simp
        exact hK.out _ _ (Alters.refl _) rfl
      · intro u W K hS hF hK
        have f1 : u 1 = Ft.val t := hF 1 (by kernel_rfl)
        simp only [putsFrom, Act.put, Nat.reduceAdd, List.setIfInBounds_toArray, List.set_cons_zero, List.set_cons_succ, f1] at hK ⊢
        clear hF
        go_simp
        refine (normOf_v AllD t W (hS.inn (w.heap.size) 28 t (by simp)) hS.shapes (by have := HZt.out; omega) allD).mono ?_
        rintro e W2 ⟨v, rfl, hm, hq⟩
        exact hK.out _ _ hq hm
      · intro u W K hS hF hK
        have f0 : u 0 = Ft.val t13 := hF 0 (by kernel_rfl)
        have f2 : MadeIn AllD (normOf (Ft.pl t)) (u 2) W := hF 2 (by kernel_rfl)
        simp only [putsFrom, Act.put, Nat.reduceAdd, List.setIfInBounds_toArray, List.set_cons_zero, List.set_cons_succ, f0] at hK ⊢
        clear hF
        obtain ⟨ta, ea, hpa, hia⟩ := f2
        simp only [ea] at hK ⊢
        go_simp
        refine (same9_walk AllD t13 ta W (hS.inn (w14.heap.size) 28 t13 (by simp)) hia (by have := HZt13.out; omega)).mono ?_
        rintro e W2 ⟨rfl, hq⟩
        exact hK.out _ _ hq (show Value.bool (same (Ft.pl t13) (Ft.pl ta)) = .bool true by rw [HPt13.out, hpa, normOf_nn HSt.out, same_self])
      · intro u W K hS hF hK
        have f3 : u 3 = .bool true := hF 3 (by kernel_rfl)
        simp only [putsFrom, Act.put, Nat.reduceAdd, List.setIfInBounds_toArray, List.set_cons_zero, List.set_cons_succ, f3] at hK ⊢
        clear hF
        go_simp
        exact hK.out _ _ (Alters.refl _) rfl
      · intro u W K hS hF hK
        have f4 : u 4 = .bool true := hF 4 (by kernel_rfl)
        simp only [putsFrom, Act.put, Nat.reduceAdd, List.setIfInBounds_toArray, List.set_cons_zero, List.set_cons_succ, f4] at hK ⊢
        clear hF
        go_simp
        exact hK.out _ _ (Alters.refl _) rfl
      · intro u W K hS hF hK
        have f4 : u 4 = .bool true := hF 4 (by kernel_rfl)
        have f5 : u 5 = .pointer (some ⟨w17.heap.size, 0, none⟩) := hF 5 (by kernel_rfl)
        simp only [putsFrom, Act.put, Nat.reduceAdd, List.setIfInBounds_toArray, List.set_cons_zero, List.set_cons_succ, f4, f5] at hK ⊢
        clear hF
        obtain ⟨x0, x1, x2, x3, x4, x5, x6⟩ := hS.seven (w17.heap.size) 28 t14 (by simp)
        rw [H14.out] at x0
        go_simp
        exact hK.out _ _ (Alters.refl _) rfl
      · intro u W K hS hF hK
        have f4 : u 4 = .bool true := hF 4 (by kernel_rfl)
        have f6 : u 6 = .int .i64 1 := hF 6 (by kernel_rfl)
        simp only [putsFrom, Act.put, Nat.reduceAdd, List.setIfInBounds_toArray, List.set_cons_zero, List.set_cons_succ, f4, f6] at hK ⊢
        clear hF
        go_simp
        exact hK.out _ _ (Alters.refl _) rfl
      · intro u W K hS hF hK
        have f4 : u 4 = .bool true := hF 4 (by kernel_rfl)
        have f7 : u 7 = .bool true := hF 7 (by kernel_rfl)
        simp only [putsFrom, Act.put, Nat.reduceAdd, List.setIfInBounds_toArray, List.set_cons_zero, List.set_cons_succ, f4, f7] at hK ⊢
        clear hF
        go_simp
        exact hK.out _ _ (Alters.refl _) rfl
      · intro u W K hS hF hK
        have f8 : u 8 = .bool true := hF 8 (by kernel_rfl)
        simp only [putsFrom, Act.put, Nat.reduceAdd, List.setIfInBounds_toArray, List.set_cons_zero, List.set_cons_succ, f8] at hK ⊢
        clear hF
        go_simp
        exact hK.out _ _ (Alters.refl _) rfl
      · intro u W K hS hF hK
        have f9 : u 9 = .bool true := hF 9 (by kernel_rfl)
        simp only [putsFrom, Act.put, Nat.reduceAdd, List.setIfInBounds_toArray, List.set_cons_zero, List.set_cons_succ, f9] at hK ⊢
        clear hF
        obtain ⟨x0, x1, x2, x3, x4, x5, x6⟩ := hS.seven (w20.heap.size) 28 t15 (by simp)
        go_simp
        exact hK.out _ _ (Alters.refl _) rfl
      · intro u W K hS hF hK
        have f9 : u 9 = .bool true := hF 9 (by kernel_rfl)
        simp only [putsFrom, Act.put, Nat.reduceAdd, List.setIfInBounds_toArray, List.set_cons_zero, List.set_cons_succ, f9] at hK ⊢
        clear hF
        obtain ⟨x0, x1, x2, x3, x4, x5, x6⟩ := hS.seven (bt16) 28 t16 (by simp)
        go_simp
        exact hK.out _ _ (Alters.refl _) rfl
      · intro u W K hS hF hK
        have f9 : u 9 = .bool true := hF 9 (by kernel_rfl)
        have f10 : u 10 = Ft.val t15 := hF 10 (by kernel_rfl)
        have f11 : u 11 = Ft.val t16 := hF 11 (by kernel_rfl)
        simp only [putsFrom, Act.put, Nat.reduceAdd, List.setIfInBounds_toArray, List.set_cons_zero, List.set_cons_succ, f9, f10, f11] at hK ⊢
        clear hF
        go_simp
        refine (same9_walk AllD t15 t16 W (hS.inn (w20.heap.size) 28 t15 (by simp)) (hS.inn (bt16) 28 t16 (by simp)) (by have := HZt15.out; omega)).mono ?_
        rintro e W2 ⟨rfl, hq⟩
        exact hK.out _ _ hq (show Value.bool (same (Ft.pl t15) (Ft.pl t16)) = .bool true by rw [HPt15.out, HPt16.out, normOf_al HSt.out HLH.out.1 HLH.out.2, same_self])
      · intro u W K hS hF hK
        have f9 : u 9 = .bool true := hF 9 (by kernel_rfl)
        have f12 : u 12 = .bool true := hF 12 (by kernel_rfl)
        simp only [putsFrom, Act.put, Nat.reduceAdd, List.setIfInBounds_toArray, List.set_cons_zero, List.set_cons_succ, f9, f12] at hK ⊢
        clear hF
        go_simp
        exact hK.out _ _ (Alters.refl _) rfl
      · intro u W K hS hF hK
        have f13 : u 13 = .bool true := hF 13 (by kernel_rfl)
        simp only [putsFrom, Act.put, Nat.reduceAdd, List.setIfInBounds_toArray, List.set_cons_zero, List.set_cons_succ, f13] at hK ⊢
        clear hF
        go_simp
        exact hK.out _ _ (Alters.refl _) rfl
      · intro u W K hS hF hK
        have f14 : u 14 = .bool true := hF 14 (by kernel_rfl)
        simp only [putsFrom, Act.put, Nat.reduceAdd, List.setIfInBounds_toArray, List.set_cons_zero, List.set_cons_succ, f14] at hK ⊢
        clear hF
        obtain ⟨x0, x1, x2, x3, x4, x5, x6⟩ := hS.seven (w24.heap.size) 28 t17 (by simp)
        go_simp
        exact hK.out _ _ (Alters.refl _) rfl
      · intro u W K hS hF hK
        have f14 : u 14 = .bool true := hF 14 (by kernel_rfl)
        simp only [putsFrom, Act.put, Nat.reduceAdd, List.setIfInBounds_toArray, List.set_cons_zero, List.set_cons_succ, f14] at hK ⊢
        clear hF
        obtain ⟨x0, x1, x2, x3, x4, x5, x6⟩ := hS.seven (bt18) 28 t18 (by simp)
        go_simp
        exact hK.out _ _ (Alters.refl _) rfl
      · intro u W K hS hF hK
        have f14 : u 14 = .bool true := hF 14 (by kernel_rfl)
        have f15 : u 15 = Ft.val t17 := hF 15 (by kernel_rfl)
        have f16 : u 16 = Ft.val t18 := hF 16 (by kernel_rfl)
        simp only [putsFrom, Act.put, Nat.reduceAdd, List.setIfInBounds_toArray, List.set_cons_zero, List.set_cons_succ, f14, f15, f16] at hK ⊢
        clear hF
        go_simp
        refine (same9_walk AllD t17 t18 W (hS.inn (w24.heap.size) 28 t17 (by simp)) (hS.inn (bt18) 28 t18 (by simp)) (by have := HZt17.out; omega)).mono ?_
        rintro e W2 ⟨rfl, hq⟩
        exact hK.out _ _ hq (show Value.bool (same (Ft.pl t17) (Ft.pl t18)) = .bool true by rw [HPt17.out, HPt18.out, normOf_re HSt.out HSy.out HLH.out.1 HLH.out.2, same_self])
      · intro u W K hS hF hK
        have f14 : u 14 = .bool true := hF 14 (by kernel_rfl)
        have f17 : u 17 = .bool true := hF 17 (by kernel_rfl)
        simp only [putsFrom, Act.put, Nat.reduceAdd, List.setIfInBounds_toArray, List.set_cons_zero, List.set_cons_succ, f14, f17] at hK ⊢
        clear hF
        go_simp
        exact hK.out _ _ (Alters.refl _) rfl
      · intro u W K hS hF hK
        have f18 : u 18 = .bool true := hF 18 (by kernel_rfl)
        simp only [putsFrom, Act.put, Nat.reduceAdd, List.setIfInBounds_toArray, List.set_cons_zero, List.set_cons_succ, f18] at hK ⊢
        clear hF
        go_simp
        exact hK.out _ _ (Alters.refl _) rfl
      · intro u W K hS hF hK
        have f19 : u 19 = .bool true := hF 19 (by kernel_rfl)
        simp only [putsFrom, Act.put, Nat.reduceAdd, List.setIfInBounds_toArray, List.set_cons_zero, List.set_cons_succ, f19] at hK ⊢
        clear hF
        go_simp
        exact hK.out _ _ (Alters.refl _) rfl
      · intro u W K hS hF hK
        have f19 : u 19 = .bool true := hF 19 (by kernel_rfl)
        have f20 : u 20 = .pointer (some ⟨w20.heap.size, 0, none⟩) := hF 20 (by kernel_rfl)
        simp only [putsFrom, Act.put, Nat.reduceAdd, List.setIfInBounds_toArray, List.set_cons_zero, List.set_cons_succ, f19, f20] at hK ⊢
        clear hF
        obtain ⟨x0, x1, x2, x3, x4, x5, x6⟩ := hS.seven (w20.heap.size) 28 t15 (by simp)
        go_simp
        exact hK.out _ _ (Alters.refl _) rfl
      · intro u W K hS hF hK
        have f19 : u 19 = .bool true := hF 19 (by kernel_rfl)
        have f21 : u 21 = .int .i64 t15.top.n.op := hF 21 (by kernel_rfl)
        simp only [putsFrom, Act.put, Nat.reduceAdd, List.setIfInBounds_toArray, List.set_cons_zero, List.set_cons_succ, f19, f21] at hK ⊢
        clear hF
        go_simp
        exact hK.out _ _ (Alters.refl _) rfl
      · intro u W K hS hF hK
        have f19 : u 19 = .bool true := hF 19 (by kernel_rfl)
        have f22 : u 22 = .bool true := hF 22 (by kernel_rfl)
        simp only [putsFrom, Act.put, Nat.reduceAdd, List.setIfInBounds_toArray, List.set_cons_zero, List.set_cons_succ, f19, f22] at hK ⊢
        clear hF
        go_simp
        exact hK.out _ _ (Alters.refl _) rfl
      · intro u W K hS hF hK
        have f23 : u 23 = .bool true := hF 23 (by kernel_rfl)
        simp only [putsFrom, Act.put, Nat.reduceAdd, List.setIfInBounds_toArray, List.set_cons_zero, List.set_cons_succ, f23] at hK ⊢
        clear hF
        go_simp
        exact hK.out _ _ (Alters.refl _) rfl
      · intro u W K hS hF hK
        have f24 : u 24 = .bool true := hF 24 (by kernel_rfl)
        simp only [putsFrom, Act.put, Nat.reduceAdd, List.setIfInBounds_toArray, List.set_cons_zero, List.set_cons_succ, f24] at hK ⊢
        clear hF
        go_simp
        exact hK.out _ _ (Alters.refl _) rfl
      · intro u W K hS hF hK
        have f24 : u 24 = .bool true := hF 24 (by kernel_rfl)
        have f25 : u 25 = .pointer (some ⟨w24.heap.size, 0, none⟩) := hF 25 (by kernel_rfl)
        simp only [putsFrom, Act.put, Nat.reduceAdd, List.setIfInBounds_toArray, List.set_cons_zero, List.set_cons_succ, f24, f25] at hK ⊢
        clear hF
        obtain ⟨x0, x1, x2, x3, x4, x5, x6⟩ := hS.seven (w24.heap.size) 28 t17 (by simp)
        go_simp
        exact hK.out _ _ (Alters.refl _) rfl
      · intro u W K hS hF hK
        have f24 : u 24 = .bool true := hF 24 (by kernel_rfl)
        have f26 : u 26 = .int .i64 t17.top.n.op := hF 26 (by kernel_rfl)
        simp only [putsFrom, Act.put, Nat.reduceAdd, List.setIfInBounds_toArray, List.set_cons_zero, List.set_cons_succ, f24, f26] at hK ⊢
        clear hF
        go_simp
        exact hK.out _ _ (Alters.refl _) rfl
      · intro u W K hS hF hK
        have f24 : u 24 = .bool true := hF 24 (by kernel_rfl)
        have f27 : u 27 = .bool true := hF 27 (by kernel_rfl)
        simp only [putsFrom, Act.put, Nat.reduceAdd, List.setIfInBounds_toArray, List.set_cons_zero, List.set_cons_succ, f24, f27] at hK ⊢
        clear hF
        go_simp
        exact hK.out _ _ (Alters.refl _) rfl
      · intro u W hS hF
        have f28 : u 28 = .bool true := hF 28 (by simp)
        simp only [putsFrom, Act.put, Nat.reduceAdd, List.setIfInBounds_toArray, List.set_cons_zero, List.set_cons_succ, f28]
        clear hF f28
        have HS := Go.Lib.hid hS
        clear hS
        go_simp
        go_wp2
        go_ret
        exact ⟨rfl, HS.out.quiet⟩
end Go.Proofs.YtnpcakakjhiboaaDoor
