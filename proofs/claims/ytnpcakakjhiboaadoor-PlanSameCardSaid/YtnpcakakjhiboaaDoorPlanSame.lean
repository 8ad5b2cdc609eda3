/- PlanSame: the walk of the law. No condition. -/
import Derived.Test.YtnpcakakjhiboaaDoorLawP16
namespace Go.Proofs.YtnpcakakjhiboaaDoor
open Go Go.RowKit Go.Lo Go.WideShapes

set_option maxRecDepth 100000 in
set_option maxHeartbeats 4000000 in
theorem planSame_walk (t : Ft) (w : World) (hin : In AllD w t) (hw : ∀ n, n ∈ t.pre → n.top.n.wf) (hS : Shapes w) : Calls Tryd.prog 16 #[t.val] w (Said (.bool true) w) := by
  have HL := Go.Lib.hid ((LawP.zero w hS).box 28 hin)
  have HNUM := Go.Lib.hid (num_of hw)
  clear hin hS hw
  unfold Ft.val
  go_enter Tryd.func16, Tryd.ntmps16
  go_wp2_with fail
  generalize w.alloc _ = w1 at *
  refine (awake16_walk w1 HL.out.shapes).mono ?_
  rintro e w2 ⟨rfl, hq⟩
  replace HL := Go.Lib.hid (HL.out.keep hq)
  clear hq
  obtain ⟨x00, x01, x02, x03, x04, x05, x06⟩ := HL.out.seven (w.heap.size) 28 t (by simp)
  have HC := Go.Lib.hid (left_any16 AllD t 40 w2 (HL.out.inn (w.heap.size) 28 t (by simp)) (by decide))
  unfold Ft.val at HC
  go_wp2_with fail
  refine HC.out.mono ?_
  rintro e w3 ⟨rfl, hq⟩
  clear x00 x01 x02 x03 x04 x05 x06 HC
  replace HL := Go.Lib.hid (HL.out.keep hq)
  clear hq
  by_cases h0 : leftF (Ft.pl t) 40 ≤ 0
  · have b0 : decide (leftF (Ft.pl t) 40 ≤ 0) = true := by simpa using h0
    clear h0
    go_wp2_with fail
    go_ret
    exact ⟨rfl, HL.out.quiet⟩
  have hz0 := left_size16 h0
  have HZt : Hid (t.size ≤ 40) := Go.Lib.hid (by have := hz0; omega)
  have b0 : decide (leftF (Ft.pl t) 40 ≤ 0) = false := by simpa using h0
  clear hz0 h0
  obtain ⟨x00, x01, x02, x03, x04, x05, x06⟩ := HL.out.seven (w.heap.size) 28 t (by simp)
  have HC := Go.Lib.hid (sound_walk AllD t w3 (HL.out.inn (w.heap.size) 28 t (by simp)) HL.out.shapes (by have := HZt.out; omega))
  by_cases hf : first (Ft.pl t) = 0
  rotate_left
  · rw [show decide (first (Ft.pl t) = 0) = false by simpa using hf] at HC
    try unfold Ft.val at HC
    clear hf
    go_wp2_with fail
    refine HC.out.mono ?_
    rintro e w4 ⟨rfl, hq⟩
    clear x00 x01 x02 x03 x04 x05 x06 HC
    replace HL := Go.Lib.hid (HL.out.keep hq)
    clear hq
    go_wp2_with fail
    go_ret
    exact ⟨rfl, HL.out.quiet⟩
  rw [show decide (first (Ft.pl t) = 0) = true by simpa using hf] at HC
  try unfold Ft.val at HC
  have HSt := Go.Lib.hid ((first_zero _).1 hf)
  clear hf
  go_wp2_with fail
  refine HC.out.mono ?_
  rintro e w4 ⟨rfl, hq⟩
  clear x00 x01 x02 x03 x04 x05 x06 HC b0
  replace HL := Go.Lib.hid (HL.out.keep hq)
  clear hq
  go_upto_region 8 with (fail)
  replace HL := Go.Lib.hid (HL.out.span 0 0)
  generalize w4.alloc _ = w5 at *
  obtain ⟨Y, hA⟩ : ∃ l, l = planOf (Ft.pl t) := ⟨_, rfl⟩
  have HA : Hid (planOf (Ft.pl t) = Y) := Go.Lib.hid hA.symm
  have HAL : Hid (Y.length ≤ 1000) := Go.Lib.hid (by rw [hA]; have := planOf_len (f := Ft.pl t); rw [pl_size] at this; have := HZt.out; omega)
  clear hA
  obtain ⟨x00, x01, x02, x03, x04, x05, x06⟩ := HL.out.seven (w.heap.size) 28 t (by simp)
  have HC := Go.Lib.hid (plan_of (f := Ft.pl t) rfl (HL.out.inn (w.heap.size) 28 t (by simp)) HL.out.shapes (by (repeat first | rw [exOne_size] | rw [exTwo_size] | rw [pl_size]); have := HZt.out; omega) HNUM.out HA.out)
  unfold Ft.val at HC
  go_wp2_with fail
  refine HC.out.mono ?_
  rintro e w6 ⟨aa, ca, rfl, ha, hq⟩
  clear x00 x01 x02 x03 x04 x05 x06 HC
  replace HL := Go.Lib.hid ((HL.out.keep hq).row ha)
  clear ha 
  clear hq
  obtain ⟨x00, x01, x02, x03, x04, x05, x06⟩ := HL.out.seven (w.heap.size) 28 t (by simp)
  have HC := Go.Lib.hid (normOf_v AllD t w6 (HL.out.inn (w.heap.size) 28 t (by simp)) HL.out.shapes (by have := HZt.out; omega) allD)
  unfold Ft.val at HC
  go_wp2_with fail
  refine HC.out.mono ?_
  rintro e w7 ⟨v, rfl, ⟨ta, rfl, hpa, hia⟩, hq⟩
  clear x00 x01 x02 x03 x04 x05 x06 HC
  replace HL := Go.Lib.hid (HL.out.keep hq)
  clear hq
  unfold Ft.val
  have HC := Go.Lib.hid (plan_of (f := normOf (Ft.pl t)) hpa hia HL.out.shapes (by have := normOf_size16 (Ft.pl t) HSt.out; rw [pl_size] at this; have := HZt.out; omega) (by rw [normOf_sound HSt.out]; exact an_made _ HNUM.out) ((plan_norm HSt.out).trans HA.out))
  unfold Ft.val at HC
  go_wp2_with fail
  refine HC.out.mono ?_
  rintro e w8 ⟨ab, cb, rfl, hb, hq⟩
  clear  HC
  replace HL := Go.Lib.hid ((HL.out.keep hq).row hb)
  clear hb hpa hia
  clear hq
  go_upto_region 10 with (fail)
  refine wp_region_wants (by kernel_rfl) (by kernel_rfl) (by kernel_rfl) (by kernel_rfl) (LawP w [(w.heap.size, 28, t)] [(w4.heap.size, 0, 0)] [(ab, Y), (aa, Y)]) (fun _ _ hq h => h.keep hq) [Want.is (.agg #[.int .i64 (0), .int .i64 (0)]), Want.is (.agg #[.int .i64 (0), .int .i64 (0)]), Want.is (Ft.val t), Want.fm AllD (exOne 4 0 0 (Ft.pl t)), Want.fm AllD (exOne 4 0 0 (exOne 4 0 0 (Ft.pl t))), Want.steps Y] (HL.out.keep ((Alters.refl _).drew)) (by decide) ?_
  refine Steps.cons ?_ (Steps.cons ?_ (Steps.cons ?_ (Steps.cons ?_ (Steps.cons ?_ (Steps.cons ?_ (Steps.last ?_))))))
  · intro u W K hS hF hK
    simp only [putsFrom, Act.put, Nat.reduceAdd, List.setIfInBounds_toArray, List.set_cons_zero, List.set_cons_succ] at hK ⊢
    clear hF
    obtain ⟨x0, x1⟩ := hS.two (w4.heap.size) (0) (0) (by simp)
    go_simp
    exact hK.out _ _ (Alters.refl _) rfl
  · intro u W K hS hF hK
    simp only [putsFrom, Act.put, Nat.reduceAdd, List.setIfInBounds_toArray, List.set_cons_zero, List.set_cons_succ] at hK ⊢
    clear hF
    obtain ⟨x0, x1⟩ := hS.two (w4.heap.size) (0) (0) (by simp)
    go_simp
    exact hK.out _ _ (Alters.refl _) rfl
  · intro u W K hS hF hK
    simp only [putsFrom, Act.put, Nat.reduceAdd, List.setIfInBounds_toArray, List.set_cons_zero, List.set_cons_succ] at hK ⊢
    clear hF
    obtain ⟨x0, x1, x2, x3, x4, x5, x6⟩ := hS.seven (w.heap.size) 28 t (by simp)
    go_simp
    exact hK.out _ _ (Alters.refl _) rfl
  · intro u W K hS hF hK
    have f1 : u 1 = .agg #[.int .i64 (0), .int .i64 (0)] := hF 1 (by kernel_rfl)
    have f2 : u 2 = Ft.val t := hF 2 (by kernel_rfl)
    simp only [putsFrom, Act.put, Nat.reduceAdd, List.setIfInBounds_toArray, List.set_cons_zero, List.set_cons_succ, f1, f2] at hK ⊢
    clear hF
    go_simp
    refine (one_v16 (D := AllD) (f := Ft.pl t) 4 0 0 allD ⟨t, rfl, rfl, hS.inn (w.heap.size) 28 t (by simp)⟩).mono ?_
    rintro e W2 ⟨v, rfl, hm, hq⟩
    exact hK.out _ _ hq hm
  · intro u W K hS hF hK
    have f0 : u 0 = .agg #[.int .i64 (0), .int .i64 (0)] := hF 0 (by kernel_rfl)
    have f3 : MadeIn AllD (exOne 4 0 0 (Ft.pl t)) (u 3) W := hF 3 (by kernel_rfl)
    simp only [putsFrom, Act.put, Nat.reduceAdd, List.setIfInBounds_toArray, List.set_cons_zero, List.set_cons_succ, f0] at hK ⊢
    clear hF
    go_simp
    refine (one_v16 (D := AllD) 4 0 0 allD f3).mono ?_
    rintro e W2 ⟨v, rfl, hm, hq⟩
    exact hK.out _ _ hq hm
  · intro u W K hS hF hK
    have f4 : MadeIn AllD (exOne 4 0 0 (exOne 4 0 0 (Ft.pl t))) (u 4) W := hF 4 (by kernel_rfl)
    simp only [putsFrom, Act.put, Nat.reduceAdd, List.setIfInBounds_toArray, List.set_cons_zero, List.set_cons_succ] at hK ⊢
    clear hF
    obtain ⟨ta, ea, hpa, hia⟩ := f4
    simp only [ea] at hK ⊢
    go_simp
    refine (plan_of (f := exOne 4 0 0 (exOne 4 0 0 (Ft.pl t))) hpa hia hS.shapes (by (repeat first | rw [exOne_size] | rw [exTwo_size] | rw [pl_size]); have := HZt.out; omega) (an_one i64_0 i64_0 (an_one i64_0 i64_0 HNUM.out)) ((plan_nn HSt.out).trans HA.out)).mono ?_
    rintro e W2 ⟨ra, rc, rfl, hbl, hq⟩
    exact hK.out _ _ hq ⟨ra, rc, rfl, hbl⟩
  · intro u W hS hF
    have f5 : ∃ a c, u 5 = .slice a Y.length c ∧ StpsAt W a Y := hF 5 (by simp)
    simp only [putsFrom, Act.put, Nat.reduceAdd, List.setIfInBounds_toArray, List.set_cons_zero, List.set_cons_succ]
    clear hF 
    have HS := Go.Lib.hid hS
    clear hS
    obtain ⟨ac, cc, ec, hc⟩ := f5
    simp only [ec]
    replace HL := Go.Lib.hid (HS.out.row hc)
    clear HS hc ec
    generalize W = w9 at *
    go_simp
    obtain ⟨x00, x01⟩ := HL.out.two (w4.heap.size) (0) (0) (by simp)
    obtain ⟨x10, x11, x12, x13, x14, x15, x16⟩ := HL.out.seven (w.heap.size) 28 t (by simp)
    have HC := Go.Lib.hid (two_v16 (D := AllD) (f := Ft.pl t) (g := Ft.pl t) 5 0 0 allD ⟨t, rfl, rfl, (HL.out.inn (w.heap.size) 28 t (by simp))⟩ ⟨t, rfl, rfl, (HL.out.inn (w.heap.size) 28 t (by simp))⟩)
    unfold Ft.val at HC
    go_wp2_with fail
    refine HC.out.mono ?_
    rintro e w10 ⟨v, rfl, ⟨ta, rfl, hpa, hia⟩, hq⟩
    clear x00 x01 x10 x11 x12 x13 x14 x15 x16 HC
    replace HL := Go.Lib.hid (HL.out.keep hq)
    clear hq
    unfold Ft.val
    have HC := Go.Lib.hid (plan_of (f := exTwo 5 0 0 (Ft.pl t) (Ft.pl t)) hpa hia HL.out.shapes (by (repeat first | rw [exOne_size] | rw [exTwo_size] | rw [pl_size]); have := HZt.out; omega) (an_two i64_0 i64_0 HNUM.out HNUM.out) ((plan_aa HSt.out).trans HA.out))
    unfold Ft.val at HC
    go_wp2_with fail
    refine HC.out.mono ?_
    rintro e w11 ⟨ad, cd, rfl, hd, hq⟩
    clear  HC
    replace HL := Go.Lib.hid ((HL.out.keep hq).row hd)
    clear hd hpa hia
    clear hq
    have hal := HAL.out
    go_wp2_with fail
    go_loopw [10] (fun i wr => ∃ k : Nat, k ≤ Y.length ∧ i = .int .i64 k ∧ (LawP w [(w.heap.size, 28, t)] [(w4.heap.size, 0, 0)] [(ad, Y), (ac, Y), (ab, Y), (aa, Y)]) wr) (fun i _ => Y.length - (intOf i).toNat)
    case atStart => exact ⟨0, Nat.zero_le _, rfl, HL.out⟩
    case round =>
      clear HL
      obtain ⟨k, hk, rfl, hl⟩ := hrel
      have HL := Go.Lib.hid hl
      clear hl
      by_cases hlt : k < Y.length
      rotate_left
      · have HK := Go.Lib.hid hk
        clear hk
        obtain rfl : k = Y.length := by have := HK.out; omega
        go_wp2_with fail
        go_ret
        exact ⟨rfl, HL.out.quiet⟩
      have hk2 : Y[k]? = some Y[k] := by simp [hlt]
      obtain ⟨ga, rfl, qa⟩ := (HL.out.st aa Y (by simp)).at hk2
      obtain ⟨gb, rfl, qb⟩ := (HL.out.st ab Y (by simp)).at hk2
      obtain ⟨gc, rfl, qc⟩ := (HL.out.st ac Y (by simp)).at hk2
      obtain ⟨gd, rfl, qd⟩ := (HL.out.st ad Y (by simp)).at hk2
      have ya0 := qa 0 _ rfl
      have ya1 := qa 1 _ rfl
      have ya2 := qa 2 _ rfl
      have ya3 := qa 3 _ rfl
      have ya4 := qa 4 _ rfl
      have ya5 := qa 5 _ rfl
      have ya6 := qa 6 _ rfl
      have ya7 := qa 7 _ rfl
      have yb0 := qb 0 _ rfl
      have yb1 := qb 1 _ rfl
      have yb2 := qb 2 _ rfl
      have yb3 := qb 3 _ rfl
      have yb4 := qb 4 _ rfl
      have yb5 := qb 5 _ rfl
      have yb6 := qb 6 _ rfl
      have yb7 := qb 7 _ rfl
      have yc0 := qc 0 _ rfl
      have yc1 := qc 1 _ rfl
      have yc2 := qc 2 _ rfl
      have yc3 := qc 3 _ rfl
      have yc4 := qc 4 _ rfl
      have yc5 := qc 5 _ rfl
      have yc6 := qc 6 _ rfl
      have yc7 := qc 7 _ rfl
      have yd0 := qd 0 _ rfl
      have yd1 := qd 1 _ rfl
      have yd2 := qd 2 _ rfl
      have yd3 := qd 3 _ rfl
      have yd4 := qd 4 _ rfl
      have yd5 := qd 5 _ rfl
      have yd6 := qd 6 _ rfl
      have yd7 := qd 7 _ rfl
      clear qa qb qc qd hk2
      simp only [Nat.add_zero] at *
      generalize Y[k] = x at *
      go_upto_region 17 with (fail)
      generalize hfr : Act.mk _ _ = a0
      have h0 : a0.tmps.getD 0 undef = _ := (congrArg (fun a : Act => a.tmps.getD 0 undef) hfr).symm.trans lit_0
      have h1 : a0.tmps.getD 1 undef = _ := (congrArg (fun a : Act => a.tmps.getD 1 undef) hfr).symm.trans lit_1
      have h2 : a0.tmps.getD 2 undef = _ := (congrArg (fun a : Act => a.tmps.getD 2 undef) hfr).symm.trans lit_2
      have h3 : a0.tmps.getD 3 undef = _ := (congrArg (fun a : Act => a.tmps.getD 3 undef) hfr).symm.trans lit_3
      have h4 : a0.tmps.getD 4 undef = _ := (congrArg (fun a : Act => a.tmps.getD 4 undef) hfr).symm.trans lit_4
      have h5 : a0.tmps.getD 5 undef = _ := (congrArg (fun a : Act => a.tmps.getD 5 undef) hfr).symm.trans lit_5
      have h6 : a0.tmps.getD 6 undef = _ := (congrArg (fun a : Act => a.tmps.getD 6 undef) hfr).symm.trans lit_6
      have h7 : a0.tmps.getD 7 undef = _ := (congrArg (fun a : Act => a.tmps.getD 7 undef) hfr).symm.trans lit_7
      have h8 : a0.tmps.getD 8 undef = _ := (congrArg (fun a : Act => a.tmps.getD 8 undef) hfr).symm.trans lit_8
      have h9 : a0.tmps.getD 9 undef = _ := (congrArg (fun a : Act => a.tmps.getD 9 undef) hfr).symm.trans lit_9
      have h10 : a0.tmps.getD 10 undef = _ := (congrArg (fun a : Act => a.tmps.getD 10 undef) hfr).symm.trans lit_10
      have h11 : a0.tmps.getD 11 undef = _ := (congrArg (fun a : Act => a.tmps.getD 11 undef) hfr).symm.trans lit_11
      have h12 : a0.tmps.getD 12 undef = _ := (congrArg (fun a : Act => a.tmps.getD 12 undef) hfr).symm.trans lit_12
      have h13 : a0.tmps.getD 13 undef = _ := (congrArg (fun a : Act => a.tmps.getD 13 undef) hfr).symm.trans lit_13
      have h14 : a0.tmps.getD 14 undef = _ := (congrArg (fun a : Act => a.tmps.getD 14 undef) hfr).symm.trans lit_14
      have h15 : a0.tmps.getD 15 undef = _ := (congrArg (fun a : Act => a.tmps.getD 15 undef) hfr).symm.trans lit_15
      have h16 : a0.tmps.getD 16 undef = _ := (congrArg (fun a : Act => a.tmps.getD 16 undef) hfr).symm.trans lit_16
      have h17 : a0.tmps.getD 17 undef = _ := (congrArg (fun a : Act => a.tmps.getD 17 undef) hfr).symm.trans lit_17
      have h18 : a0.tmps.getD 18 undef = _ := (congrArg (fun a : Act => a.tmps.getD 18 undef) hfr).symm.trans lit_18
      have h19 : a0.tmps.getD 19 undef = _ := (congrArg (fun a : Act => a.tmps.getD 19 undef) hfr).symm.trans lit_19
      have h20 : a0.tmps.getD 20 undef = _ := (congrArg (fun a : Act => a.tmps.getD 20 undef) hfr).symm.trans lit_20
      have h21 : a0.tmps.getD 21 undef = _ := (congrArg (fun a : Act => a.tmps.getD 21 undef) hfr).symm.trans lit_21
      have h22 : a0.tmps.getD 22 undef = _ := (congrArg (fun a : Act => a.tmps.getD 22 undef) hfr).symm.trans lit_22
      have h23 : a0.tmps.getD 23 undef = _ := (congrArg (fun a : Act => a.tmps.getD 23 undef) hfr).symm.trans lit_23
      have h24 : a0.tmps.getD 24 undef = _ := (congrArg (fun a : Act => a.tmps.getD 24 undef) hfr).symm.trans lit_24
      have h25 : a0.tmps.getD 25 undef = _ := (congrArg (fun a : Act => a.tmps.getD 25 undef) hfr).symm.trans lit_25
      have h26 : a0.tmps.getD 26 undef = _ := (congrArg (fun a : Act => a.tmps.getD 26 undef) hfr).symm.trans lit_26
      have h27 : a0.tmps.getD 27 undef = _ := (congrArg (fun a : Act => a.tmps.getD 27 undef) hfr).symm.trans lit_27
      have h28 : a0.tmps.getD 28 undef = _ := (congrArg (fun a : Act => a.tmps.getD 28 undef) hfr).symm.trans lit_28
      have h29 : a0.tmps.getD 29 undef = _ := (congrArg (fun a : Act => a.tmps.getD 29 undef) hfr).symm.trans lit_29
      have h30 : a0.tmps.getD 30 undef = _ := (congrArg (fun a : Act => a.tmps.getD 30 undef) hfr).symm.trans lit_30
      have h31 : a0.tmps.getD 31 undef = _ := (congrArg (fun a : Act => a.tmps.getD 31 undef) hfr).symm.trans lit_31
      have h32 : a0.tmps.getD 32 undef = _ := (congrArg (fun a : Act => a.tmps.getD 32 undef) hfr).symm.trans lit_32
      have h33 : a0.tmps.getD 33 undef = _ := (congrArg (fun a : Act => a.tmps.getD 33 undef) hfr).symm.trans lit_33
      have h34 : a0.tmps.getD 34 undef = _ := (congrArg (fun a : Act => a.tmps.getD 34 undef) hfr).symm.trans lit_34
      have h35 : a0.tmps.getD 35 undef = _ := (congrArg (fun a : Act => a.tmps.getD 35 undef) hfr).symm.trans lit_35
      have h36 : a0.tmps.getD 36 undef = _ := (congrArg (fun a : Act => a.tmps.getD 36 undef) hfr).symm.trans lit_36
      have h37 : a0.tmps.getD 37 undef = _ := (congrArg (fun a : Act => a.tmps.getD 37 undef) hfr).symm.trans lit_37
      have h38 : a0.tmps.getD 38 undef = _ := (congrArg (fun a : Act => a.tmps.getD 38 undef) hfr).symm.trans lit_38
      have h39 : a0.tmps.getD 39 undef = _ := (congrArg (fun a : Act => a.tmps.getD 39 undef) hfr).symm.trans lit_39
      have h40 : a0.tmps.getD 40 undef = _ := (congrArg (fun a : Act => a.tmps.getD 40 undef) hfr).symm.trans lit_40
      have h41 : a0.tmps.getD 41 undef = _ := (congrArg (fun a : Act => a.tmps.getD 41 undef) hfr).symm.trans lit_41
      have h42 : a0.tmps.getD 42 undef = _ := (congrArg (fun a : Act => a.tmps.getD 42 undef) hfr).symm.trans lit_42
      have h43 : a0.tmps.getD 43 undef = _ := (congrArg (fun a : Act => a.tmps.getD 43 undef) hfr).symm.trans lit_43
      have h44 : a0.tmps.getD 44 undef = _ := (congrArg (fun a : Act => a.tmps.getD 44 undef) hfr).symm.trans lit_44
      have h45 : a0.tmps.getD 45 undef = _ := (congrArg (fun a : Act => a.tmps.getD 45 undef) hfr).symm.trans lit_45
      have h46 : a0.tmps.getD 46 undef = _ := (congrArg (fun a : Act => a.tmps.getD 46 undef) hfr).symm.trans lit_46
      have h47 : a0.tmps.getD 47 undef = _ := (congrArg (fun a : Act => a.tmps.getD 47 undef) hfr).symm.trans lit_47
      have h48 : a0.tmps.getD 48 undef = _ := (congrArg (fun a : Act => a.tmps.getD 48 undef) hfr).symm.trans lit_48
      have h49 : a0.tmps.getD 49 undef = _ := (congrArg (fun a : Act => a.tmps.getD 49 undef) hfr).symm.trans lit_49
      have h50 : a0.tmps.getD 50 undef = _ := (congrArg (fun a : Act => a.tmps.getD 50 undef) hfr).symm.trans lit_50
      have h51 : a0.tmps.getD 51 undef = _ := (congrArg (fun a : Act => a.tmps.getD 51 undef) hfr).symm.trans lit_51
      have h52 : a0.tmps.getD 52 undef = _ := (congrArg (fun a : Act => a.tmps.getD 52 undef) hfr).symm.trans lit_52
      have h53 : a0.tmps.getD 53 undef = _ := (congrArg (fun a : Act => a.tmps.getD 53 undef) hfr).symm.trans lit_53
      have h54 : a0.tmps.getD 54 undef = _ := (congrArg (fun a : Act => a.tmps.getD 54 undef) hfr).symm.trans lit_54
      have h55 : a0.tmps.getD 55 undef = _ := (congrArg (fun a : Act => a.tmps.getD 55 undef) hfr).symm.trans lit_55
      have h56 : a0.tmps.getD 56 undef = _ := (congrArg (fun a : Act => a.tmps.getD 56 undef) hfr).symm.trans lit_56
      have h57 : a0.tmps.getD 57 undef = _ := (congrArg (fun a : Act => a.tmps.getD 57 undef) hfr).symm.trans lit_57
      have h58 : a0.tmps.getD 58 undef = _ := (congrArg (fun a : Act => a.tmps.getD 58 undef) hfr).symm.trans lit_58
      have h59 : a0.tmps.getD 59 undef = _ := (congrArg (fun a : Act => a.tmps.getD 59 undef) hfr).symm.trans lit_59
      have h60 : a0.tmps.getD 60 undef = _ := (congrArg (fun a : Act => a.tmps.getD 60 undef) hfr).symm.trans lit_60
      have h61 : a0.tmps.getD 61 undef = _ := (congrArg (fun a : Act => a.tmps.getD 61 undef) hfr).symm.trans lit_61
      have h62 : a0.tmps.getD 62 undef = _ := (congrArg (fun a : Act => a.tmps.getD 62 undef) hfr).symm.trans lit_62
      have h63 : a0.tmps.getD 63 undef = _ := (congrArg (fun a : Act => a.tmps.getD 63 undef) hfr).symm.trans lit_63
      have h64 : a0.tmps.getD 64 undef = _ := (congrArg (fun a : Act => a.tmps.getD 64 undef) hfr).symm.trans lit_64
      obtain ⟨F, hF0⟩ : ∃ F : (Nat → Value) → Act, F = fun u => ⟨#[a0.tmps.getD 0 undef, a0.tmps.getD 1 undef, a0.tmps.getD 2 undef, a0.tmps.getD 3 undef, a0.tmps.getD 4 undef, a0.tmps.getD 5 undef, a0.tmps.getD 6 undef, a0.tmps.getD 7 undef, a0.tmps.getD 8 undef, a0.tmps.getD 9 undef, a0.tmps.getD 10 undef, a0.tmps.getD 11 undef, a0.tmps.getD 12 undef, a0.tmps.getD 13 undef, a0.tmps.getD 14 undef, a0.tmps.getD 15 undef, a0.tmps.getD 16 undef, a0.tmps.getD 17 undef, a0.tmps.getD 18 undef, a0.tmps.getD 19 undef, a0.tmps.getD 20 undef, a0.tmps.getD 21 undef, a0.tmps.getD 22 undef, a0.tmps.getD 23 undef, a0.tmps.getD 24 undef, a0.tmps.getD 25 undef, a0.tmps.getD 26 undef, a0.tmps.getD 27 undef, a0.tmps.getD 28 undef, a0.tmps.getD 29 undef, a0.tmps.getD 30 undef, a0.tmps.getD 31 undef, a0.tmps.getD 32 undef, a0.tmps.getD 33 undef, a0.tmps.getD 34 undef, a0.tmps.getD 35 undef, a0.tmps.getD 36 undef, a0.tmps.getD 37 undef, a0.tmps.getD 38 undef, a0.tmps.getD 39 undef, a0.tmps.getD 40 undef, a0.tmps.getD 41 undef, a0.tmps.getD 42 undef, a0.tmps.getD 43 undef, a0.tmps.getD 44 undef, a0.tmps.getD 45 undef, a0.tmps.getD 46 undef, a0.tmps.getD 47 undef, a0.tmps.getD 48 undef, a0.tmps.getD 49 undef, a0.tmps.getD 50 undef, a0.tmps.getD 51 undef, a0.tmps.getD 52 undef, a0.tmps.getD 53 undef, a0.tmps.getD 54 undef, a0.tmps.getD 55 undef, a0.tmps.getD 56 undef, a0.tmps.getD 57 undef, a0.tmps.getD 58 undef, a0.tmps.getD 59 undef, a0.tmps.getD 60 undef, a0.tmps.getD 61 undef, a0.tmps.getD 62 undef, a0.tmps.getD 63 undef, a0.tmps.getD 64 undef, u 0, u 1, u 2, u 3, u 4, u 5, u 6, u 7, u 8, u 9, u 10, u 11, u 12, u 13, u 14, u 15, u 16, u 17, u 18, u 19, u 20, u 21, u 22, u 23, u 24, u 25, u 26, u 27, u 28, u 29, u 30], []⟩ := ⟨_, rfl⟩
      refine wp_region_wants_at F (fun u => by rw [hF0, ← hfr]; kernel_rfl) (by kernel_rfl) (by kernel_rfl) (by kernel_rfl) (by kernel_rfl) (CellsAt wr [(⟨ga, k * 8, none⟩, (.int .i64 x.n.op)), (⟨ga, k * 8 + 1, none⟩, (.string x.n.nm)), (⟨ga, k * 8 + 2, none⟩, (.int .i64 x.n.cmp)), (⟨ga, k * 8 + 3, none⟩, (.int .i64 x.n.val)), (⟨ga, k * 8 + 4, none⟩, (.int .i64 x.n.lo)), (⟨ga, k * 8 + 5, none⟩, (.int .i64 x.n.hi)), (⟨ga, k * 8 + 6, none⟩, (.int .i64 x.a)), (⟨ga, k * 8 + 7, none⟩, (.int .i64 x.b)), (⟨gb, k * 8, none⟩, (.int .i64 x.n.op)), (⟨gb, k * 8 + 1, none⟩, (.string x.n.nm)), (⟨gb, k * 8 + 2, none⟩, (.int .i64 x.n.cmp)), (⟨gb, k * 8 + 3, none⟩, (.int .i64 x.n.val)), (⟨gb, k * 8 + 4, none⟩, (.int .i64 x.n.lo)), (⟨gb, k * 8 + 5, none⟩, (.int .i64 x.n.hi)), (⟨gb, k * 8 + 6, none⟩, (.int .i64 x.a)), (⟨gb, k * 8 + 7, none⟩, (.int .i64 x.b)), (⟨gc, k * 8, none⟩, (.int .i64 x.n.op)), (⟨gc, k * 8 + 1, none⟩, (.string x.n.nm)), (⟨gc, k * 8 + 2, none⟩, (.int .i64 x.n.cmp)), (⟨gc, k * 8 + 3, none⟩, (.int .i64 x.n.val)), (⟨gc, k * 8 + 4, none⟩, (.int .i64 x.n.lo)), (⟨gc, k * 8 + 5, none⟩, (.int .i64 x.n.hi)), (⟨gc, k * 8 + 6, none⟩, (.int .i64 x.a)), (⟨gc, k * 8 + 7, none⟩, (.int .i64 x.b)), (⟨gd, k * 8, none⟩, (.int .i64 x.n.op)), (⟨gd, k * 8 + 1, none⟩, (.string x.n.nm)), (⟨gd, k * 8 + 2, none⟩, (.int .i64 x.n.cmp)), (⟨gd, k * 8 + 3, none⟩, (.int .i64 x.n.val)), (⟨gd, k * 8 + 4, none⟩, (.int .i64 x.n.lo)), (⟨gd, k * 8 + 5, none⟩, (.int .i64 x.n.hi)), (⟨gd, k * 8 + 6, none⟩, (.int .i64 x.a)), (⟨gd, k * 8 + 7, none⟩, (.int .i64 x.b))]) (fun _ _ hq h => h.keep hq) [Want.is (.slice (some ⟨ga, 0, none⟩) Y.length ca), Want.is (.int .i64 (k : Int)), Want.is (.pointer (some ⟨ga, k * 8, none⟩)), Want.is (.agg #[.int .i64 x.n.op, .string x.n.nm, .int .i64 x.n.cmp, .int .i64 x.n.val, .int .i64 x.n.lo, .int .i64 x.n.hi, .int .i64 x.a, .int .i64 x.b]), Want.is (.slice (some ⟨gb, 0, none⟩) Y.length cb), Want.is (.int .i64 (k : Int)), Want.is (.pointer (some ⟨gb, k * 8, none⟩)), Want.is (.agg #[.int .i64 x.n.op, .string x.n.nm, .int .i64 x.n.cmp, .int .i64 x.n.val, .int .i64 x.n.lo, .int .i64 x.n.hi, .int .i64 x.a, .int .i64 x.b]), Want.is (.bool false), Want.is (.bool false), Want.is (.slice (some ⟨ga, 0, none⟩) Y.length ca), Want.is (.int .i64 (k : Int)), Want.is (.pointer (some ⟨ga, k * 8, none⟩)), Want.is (.agg #[.int .i64 x.n.op, .string x.n.nm, .int .i64 x.n.cmp, .int .i64 x.n.val, .int .i64 x.n.lo, .int .i64 x.n.hi, .int .i64 x.a, .int .i64 x.b]), Want.is (.slice (some ⟨gc, 0, none⟩) Y.length cc), Want.is (.int .i64 (k : Int)), Want.is (.pointer (some ⟨gc, k * 8, none⟩)), Want.is (.agg #[.int .i64 x.n.op, .string x.n.nm, .int .i64 x.n.cmp, .int .i64 x.n.val, .int .i64 x.n.lo, .int .i64 x.n.hi, .int .i64 x.a, .int .i64 x.b]), Want.is (.bool false), Want.is (.bool false), Want.is (.bool false), Want.is (.slice (some ⟨ga, 0, none⟩) Y.length ca), Want.is (.int .i64 (k : Int)), Want.is (.pointer (some ⟨ga, k * 8, none⟩)), Want.is (.agg #[.int .i64 x.n.op, .string x.n.nm, .int .i64 x.n.cmp, .int .i64 x.n.val, .int .i64 x.n.lo, .int .i64 x.n.hi, .int .i64 x.a, .int .i64 x.b]), Want.is (.slice (some ⟨gd, 0, none⟩) Y.length cd), Want.is (.int .i64 (k : Int)), Want.is (.pointer (some ⟨gd, k * 8, none⟩)), Want.is (.agg #[.int .i64 x.n.op, .string x.n.nm, .int .i64 x.n.cmp, .int .i64 x.n.val, .int .i64 x.n.lo, .int .i64 x.n.hi, .int .i64 x.a, .int .i64 x.b]), Want.is (.bool false)] ((CellsAt.cons (a := ⟨ga, k * 8, none⟩) (v := (.int .i64 x.n.op)) (ya0) (CellsAt.cons (a := ⟨ga, k * 8 + 1, none⟩) (v := (.string x.n.nm)) (ya1) (CellsAt.cons (a := ⟨ga, k * 8 + 2, none⟩) (v := (.int .i64 x.n.cmp)) (ya2) (CellsAt.cons (a := ⟨ga, k * 8 + 3, none⟩) (v := (.int .i64 x.n.val)) (ya3) (CellsAt.cons (a := ⟨ga, k * 8 + 4, none⟩) (v := (.int .i64 x.n.lo)) (ya4) (CellsAt.cons (a := ⟨ga, k * 8 + 5, none⟩) (v := (.int .i64 x.n.hi)) (ya5) (CellsAt.cons (a := ⟨ga, k * 8 + 6, none⟩) (v := (.int .i64 x.a)) (ya6) (CellsAt.cons (a := ⟨ga, k * 8 + 7, none⟩) (v := (.int .i64 x.b)) (ya7) (CellsAt.cons (a := ⟨gb, k * 8, none⟩) (v := (.int .i64 x.n.op)) (yb0) (CellsAt.cons (a := ⟨gb, k * 8 + 1, none⟩) (v := (.string x.n.nm)) (yb1) (CellsAt.cons (a := ⟨gb, k * 8 + 2, none⟩) (v := (.int .i64 x.n.cmp)) (yb2) (CellsAt.cons (a := ⟨gb, k * 8 + 3, none⟩) (v := (.int .i64 x.n.val)) (yb3) (CellsAt.cons (a := ⟨gb, k * 8 + 4, none⟩) (v := (.int .i64 x.n.lo)) (yb4) (CellsAt.cons (a := ⟨gb, k * 8 + 5, none⟩) (v := (.int .i64 x.n.hi)) (yb5) (CellsAt.cons (a := ⟨gb, k * 8 + 6, none⟩) (v := (.int .i64 x.a)) (yb6) (CellsAt.cons (a := ⟨gb, k * 8 + 7, none⟩) (v := (.int .i64 x.b)) (yb7) (CellsAt.cons (a := ⟨gc, k * 8, none⟩) (v := (.int .i64 x.n.op)) (yc0) (CellsAt.cons (a := ⟨gc, k * 8 + 1, none⟩) (v := (.string x.n.nm)) (yc1) (CellsAt.cons (a := ⟨gc, k * 8 + 2, none⟩) (v := (.int .i64 x.n.cmp)) (yc2) (CellsAt.cons (a := ⟨gc, k * 8 + 3, none⟩) (v := (.int .i64 x.n.val)) (yc3) (CellsAt.cons (a := ⟨gc, k * 8 + 4, none⟩) (v := (.int .i64 x.n.lo)) (yc4) (CellsAt.cons (a := ⟨gc, k * 8 + 5, none⟩) (v := (.int .i64 x.n.hi)) (yc5) (CellsAt.cons (a := ⟨gc, k * 8 + 6, none⟩) (v := (.int .i64 x.a)) (yc6) (CellsAt.cons (a := ⟨gc, k * 8 + 7, none⟩) (v := (.int .i64 x.b)) (yc7) (CellsAt.cons (a := ⟨gd, k * 8, none⟩) (v := (.int .i64 x.n.op)) (yd0) (CellsAt.cons (a := ⟨gd, k * 8 + 1, none⟩) (v := (.string x.n.nm)) (yd1) (CellsAt.cons (a := ⟨gd, k * 8 + 2, none⟩) (v := (.int .i64 x.n.cmp)) (yd2) (CellsAt.cons (a := ⟨gd, k * 8 + 3, none⟩) (v := (.int .i64 x.n.val)) (yd3) (CellsAt.cons (a := ⟨gd, k * 8 + 4, none⟩) (v := (.int .i64 x.n.lo)) (yd4) (CellsAt.cons (a := ⟨gd, k * 8 + 5, none⟩) (v := (.int .i64 x.n.hi)) (yd5) (CellsAt.cons (a := ⟨gd, k * 8 + 6, none⟩) (v := (.int .i64 x.a)) (yd6) (CellsAt.cons (a := ⟨gd, k * 8 + 7, none⟩) (v := (.int .i64 x.b)) (yd7) (CellsAt.nil ((Alters.refl _))))))))))))))))))))))))))))))))))).keep ((Alters.refl _).drew)) (by decide) ?_
      clear hfr
      refine Steps.cons ?_ (Steps.cons ?_ (Steps.cons ?_ (Steps.cons ?_ (Steps.cons ?_ (Steps.cons ?_ (Steps.cons ?_ (Steps.cons ?_ (Steps.cons ?_ (Steps.cons ?_ (Steps.cons ?_ (Steps.cons ?_ (Steps.cons ?_ (Steps.cons ?_ (Steps.cons ?_ (Steps.cons ?_ (Steps.cons ?_ (Steps.cons ?_ (Steps.cons ?_ (Steps.cons ?_ (Steps.cons ?_ (Steps.cons ?_ (Steps.cons ?_ (Steps.cons ?_ (Steps.cons ?_ (Steps.cons ?_ (Steps.cons ?_ (Steps.cons ?_ (Steps.cons ?_ (Steps.cons ?_ (Steps.last ?_))))))))))))))))))))))))))))))
      · intro u W K hS hF hK
        generalize hA : F u = A at hK ⊢
        have a6 : A.tmps.getD 6 undef = (.slice (some ⟨ga, 0, none⟩) Y.length ca) := (show A.tmps.getD 6 undef = a0.tmps.getD 6 undef by rw [← hA, hF0]; kernel_rfl).trans h6
        clear hA hF0
        clear hF
        go_simp
        exact hK.out _ _ (Alters.refl _) rfl
      · intro u W K hS hF hK
        generalize hA : F u = A at hK ⊢
        have a10 : A.tmps.getD 10 undef = (.int .i64 (k : Int)) := (show A.tmps.getD 10 undef = a0.tmps.getD 10 undef by rw [← hA, hF0]; kernel_rfl).trans h10
        clear hA hF0
        clear hF
        go_simp
        exact hK.out _ _ (Alters.refl _) rfl
      · intro u W K hS hF hK
        have f0 : u 0 = .slice (some ⟨ga, 0, none⟩) Y.length ca := hF 0 (by kernel_rfl)
        have f1 : u 1 = .int .i64 (k : Int) := hF 1 (by kernel_rfl)
        generalize hA : F u = A at hK ⊢
        have a65 : A.tmps.getD 65 undef = u 0 := by rw [← hA, hF0]; kernel_rfl
        have a66 : A.tmps.getD 66 undef = u 1 := by rw [← hA, hF0]; kernel_rfl
        clear hA hF0
        simp only [f0, f1] at a65 a66
        clear hF
        go_simp
        exact hK.out _ _ (Alters.refl _) rfl
      · intro u W K hS hF hK
        have f2 : u 2 = .pointer (some ⟨ga, k * 8, none⟩) := hF 2 (by kernel_rfl)
        generalize hA : F u = A at hK ⊢
        have a67 : A.tmps.getD 67 undef = u 2 := by rw [← hA, hF0]; kernel_rfl
        clear hA hF0
        simp only [f2] at a67
        clear hF
        have x0 := hS.at (ga) (k * 8) ((.int .i64 x.n.op)) (by simp)
        have x1 := hS.at (ga) (k * 8 + 1) ((.string x.n.nm)) (by simp)
        have x2 := hS.at (ga) (k * 8 + 2) ((.int .i64 x.n.cmp)) (by simp)
        have x3 := hS.at (ga) (k * 8 + 3) ((.int .i64 x.n.val)) (by simp)
        have x4 := hS.at (ga) (k * 8 + 4) ((.int .i64 x.n.lo)) (by simp)
        have x5 := hS.at (ga) (k * 8 + 5) ((.int .i64 x.n.hi)) (by simp)
        have x6 := hS.at (ga) (k * 8 + 6) ((.int .i64 x.a)) (by simp)
        have x7 := hS.at (ga) (k * 8 + 7) ((.int .i64 x.b)) (by simp)
        go_simp
        exact hK.out _ _ (Alters.refl _) rfl
      · intro u W K hS hF hK
        generalize hA : F u = A at hK ⊢
        have a7 : A.tmps.getD 7 undef = (.slice (some ⟨gb, 0, none⟩) Y.length cb) := (show A.tmps.getD 7 undef = a0.tmps.getD 7 undef by rw [← hA, hF0]; kernel_rfl).trans h7
        clear hA hF0
        clear hF
        go_simp
        exact hK.out _ _ (Alters.refl _) rfl
      · intro u W K hS hF hK
        generalize hA : F u = A at hK ⊢
        have a10 : A.tmps.getD 10 undef = (.int .i64 (k : Int)) := (show A.tmps.getD 10 undef = a0.tmps.getD 10 undef by rw [← hA, hF0]; kernel_rfl).trans h10
        clear hA hF0
        clear hF
        go_simp
        exact hK.out _ _ (Alters.refl _) rfl
      · intro u W K hS hF hK
        have f4 : u 4 = .slice (some ⟨gb, 0, none⟩) Y.length cb := hF 4 (by kernel_rfl)
        have f5 : u 5 = .int .i64 (k : Int) := hF 5 (by kernel_rfl)
        generalize hA : F u = A at hK ⊢
        have a69 : A.tmps.getD 69 undef = u 4 := by rw [← hA, hF0]; kernel_rfl
        have a70 : A.tmps.getD 70 undef = u 5 := by rw [← hA, hF0]; kernel_rfl
        clear hA hF0
        simp only [f4, f5] at a69 a70
        clear hF
        go_simp
        exact hK.out _ _ (Alters.refl _) rfl
      · intro u W K hS hF hK
        have f6 : u 6 = .pointer (some ⟨gb, k * 8, none⟩) := hF 6 (by kernel_rfl)
        generalize hA : F u = A at hK ⊢
        have a71 : A.tmps.getD 71 undef = u 6 := by rw [← hA, hF0]; kernel_rfl
        clear hA hF0
        simp only [f6] at a71
        clear hF
        have x0 := hS.at (gb) (k * 8) ((.int .i64 x.n.op)) (by simp)
        have x1 := hS.at (gb) (k * 8 + 1) ((.string x.n.nm)) (by simp)
        have x2 := hS.at (gb) (k * 8 + 2) ((.int .i64 x.n.cmp)) (by simp)
        have x3 := hS.at (gb) (k * 8 + 3) ((.int .i64 x.n.val)) (by simp)
        have x4 := hS.at (gb) (k * 8 + 4) ((.int .i64 x.n.lo)) (by simp)
        have x5 := hS.at (gb) (k * 8 + 5) ((.int .i64 x.n.hi)) (by simp)
        have x6 := hS.at (gb) (k * 8 + 6) ((.int .i64 x.a)) (by simp)
        have x7 := hS.at (gb) (k * 8 + 7) ((.int .i64 x.b)) (by simp)
        go_simp
        exact hK.out _ _ (Alters.refl _) rfl
      · intro u W K hS hF hK
        have f3 : u 3 = .agg #[.int .i64 x.n.op, .string x.n.nm, .int .i64 x.n.cmp, .int .i64 x.n.val, .int .i64 x.n.lo, .int .i64 x.n.hi, .int .i64 x.a, .int .i64 x.b] := hF 3 (by kernel_rfl)
        have f7 : u 7 = .agg #[.int .i64 x.n.op, .string x.n.nm, .int .i64 x.n.cmp, .int .i64 x.n.val, .int .i64 x.n.lo, .int .i64 x.n.hi, .int .i64 x.a, .int .i64 x.b] := hF 7 (by kernel_rfl)
        generalize hA : F u = A at hK ⊢
        have a68 : A.tmps.getD 68 undef = u 3 := by rw [← hA, hF0]; kernel_rfl
        have a72 : A.tmps.getD 72 undef = u 7 := by rw [← hA, hF0]; kernel_rfl
        clear hA hF0
        simp only [f3, f7] at a68 a72
        clear hF
        go_simp
        exact hK.out _ _ (Alters.refl _) rfl
      · intro u W K hS hF hK
        have f8 : u 8 = .bool false := hF 8 (by kernel_rfl)
        generalize hA : F u = A at hK ⊢
        have a73 : A.tmps.getD 73 undef = u 8 := by rw [← hA, hF0]; kernel_rfl
        clear hA hF0
        simp only [f8] at a73
        clear hF
        go_simp
        exact hK.out _ _ (Alters.refl _) rfl
      · intro u W K hS hF hK
        have f9 : u 9 = .bool false := hF 9 (by kernel_rfl)
        generalize hA : F u = A at hK ⊢
        have a6 : A.tmps.getD 6 undef = (.slice (some ⟨ga, 0, none⟩) Y.length ca) := (show A.tmps.getD 6 undef = a0.tmps.getD 6 undef by rw [← hA, hF0]; kernel_rfl).trans h6
        have a74 : A.tmps.getD 74 undef = u 9 := by rw [← hA, hF0]; kernel_rfl
        have g74 : A.tmps[74]? = some (u 9) := by rw [← hA, hF0]; kernel_rfl
        clear hA hF0
        simp only [f9] at a6 g74
        clear hF
        go_simp
        exact hK.out _ _ (Alters.refl _) rfl
      · intro u W K hS hF hK
        have f9 : u 9 = .bool false := hF 9 (by kernel_rfl)
        generalize hA : F u = A at hK ⊢
        have a10 : A.tmps.getD 10 undef = (.int .i64 (k : Int)) := (show A.tmps.getD 10 undef = a0.tmps.getD 10 undef by rw [← hA, hF0]; kernel_rfl).trans h10
        have a74 : A.tmps.getD 74 undef = u 9 := by rw [← hA, hF0]; kernel_rfl
        have g74 : A.tmps[74]? = some (u 9) := by rw [← hA, hF0]; kernel_rfl
        clear hA hF0
        simp only [f9] at a10 g74
        clear hF
        go_simp
        exact hK.out _ _ (Alters.refl _) rfl
      · intro u W K hS hF hK
        have f9 : u 9 = .bool false := hF 9 (by kernel_rfl)
        have f10 : u 10 = .slice (some ⟨ga, 0, none⟩) Y.length ca := hF 10 (by kernel_rfl)
        have f11 : u 11 = .int .i64 (k : Int) := hF 11 (by kernel_rfl)
        generalize hA : F u = A at hK ⊢
        have a74 : A.tmps.getD 74 undef = u 9 := by rw [← hA, hF0]; kernel_rfl
        have a75 : A.tmps.getD 75 undef = u 10 := by rw [← hA, hF0]; kernel_rfl
        have a76 : A.tmps.getD 76 undef = u 11 := by rw [← hA, hF0]; kernel_rfl
        have g74 : A.tmps[74]? = some (u 9) := by rw [← hA, hF0]; kernel_rfl
        clear hA hF0
        simp only [f9, f10, f11] at a75 a76 g74
        clear hF
        go_simp
        exact hK.out _ _ (Alters.refl _) rfl
      · intro u W K hS hF hK
        have f9 : u 9 = .bool false := hF 9 (by kernel_rfl)
        have f12 : u 12 = .pointer (some ⟨ga, k * 8, none⟩) := hF 12 (by kernel_rfl)
        generalize hA : F u = A at hK ⊢
        have a74 : A.tmps.getD 74 undef = u 9 := by rw [← hA, hF0]; kernel_rfl
        have a77 : A.tmps.getD 77 undef = u 12 := by rw [← hA, hF0]; kernel_rfl
        have g74 : A.tmps[74]? = some (u 9) := by rw [← hA, hF0]; kernel_rfl
        clear hA hF0
        simp only [f9, f12] at a77 g74
        clear hF
        have x0 := hS.at (ga) (k * 8) ((.int .i64 x.n.op)) (by simp)
        have x1 := hS.at (ga) (k * 8 + 1) ((.string x.n.nm)) (by simp)
        have x2 := hS.at (ga) (k * 8 + 2) ((.int .i64 x.n.cmp)) (by simp)
        have x3 := hS.at (ga) (k * 8 + 3) ((.int .i64 x.n.val)) (by simp)
        have x4 := hS.at (ga) (k * 8 + 4) ((.int .i64 x.n.lo)) (by simp)
        have x5 := hS.at (ga) (k * 8 + 5) ((.int .i64 x.n.hi)) (by simp)
        have x6 := hS.at (ga) (k * 8 + 6) ((.int .i64 x.a)) (by simp)
        have x7 := hS.at (ga) (k * 8 + 7) ((.int .i64 x.b)) (by simp)
        go_simp
        exact hK.out _ _ (Alters.refl _) rfl
      · intro u W K hS hF hK
        have f9 : u 9 = .bool false := hF 9 (by kernel_rfl)
        generalize hA : F u = A at hK ⊢
        have a8 : A.tmps.getD 8 undef = (.slice (some ⟨gc, 0, none⟩) Y.length cc) := (show A.tmps.getD 8 undef = a0.tmps.getD 8 undef by rw [← hA, hF0]; kernel_rfl).trans h8
        have a74 : A.tmps.getD 74 undef = u 9 := by rw [← hA, hF0]; kernel_rfl
        have g74 : A.tmps[74]? = some (u 9) := by rw [← hA, hF0]; kernel_rfl
        clear hA hF0
        simp only [f9] at a8 g74
        clear hF
        go_simp
        exact hK.out _ _ (Alters.refl _) rfl
      · intro u W K hS hF hK
        have f9 : u 9 = .bool false := hF 9 (by kernel_rfl)
        generalize hA : F u = A at hK ⊢
        have a10 : A.tmps.getD 10 undef = (.int .i64 (k : Int)) := (show A.tmps.getD 10 undef = a0.tmps.getD 10 undef by rw [← hA, hF0]; kernel_rfl).trans h10
        have a74 : A.tmps.getD 74 undef = u 9 := by rw [← hA, hF0]; kernel_rfl
        have g74 : A.tmps[74]? = some (u 9) := by rw [← hA, hF0]; kernel_rfl
        clear hA hF0
        simp only [f9] at a10 g74
        clear hF
        go_simp
        exact hK.out _ _ (Alters.refl _) rfl
      · intro u W K hS hF hK
        have f9 : u 9 = .bool false := hF 9 (by kernel_rfl)
        have f14 : u 14 = .slice (some ⟨gc, 0, none⟩) Y.length cc := hF 14 (by kernel_rfl)
        have f15 : u 15 = .int .i64 (k : Int) := hF 15 (by kernel_rfl)
        generalize hA : F u = A at hK ⊢
        have a74 : A.tmps.getD 74 undef = u 9 := by rw [← hA, hF0]; kernel_rfl
        have a79 : A.tmps.getD 79 undef = u 14 := by rw [← hA, hF0]; kernel_rfl
        have a80 : A.tmps.getD 80 undef = u 15 := by rw [← hA, hF0]; kernel_rfl
        have g74 : A.tmps[74]? = some (u 9) := by rw [← hA, hF0]; kernel_rfl
        clear hA hF0
        simp only [f9, f14, f15] at a79 a80 g74
        clear hF
        go_simp
        exact hK.out _ _ (Alters.refl _) rfl
      · intro u W K hS hF hK
        have f9 : u 9 = .bool false := hF 9 (by kernel_rfl)
        have f16 : u 16 = .pointer (some ⟨gc, k * 8, none⟩) := hF 16 (by kernel_rfl)
        generalize hA : F u = A at hK ⊢
        have a74 : A.tmps.getD 74 undef = u 9 := by rw [← hA, hF0]; kernel_rfl
        have a81 : A.tmps.getD 81 undef = u 16 := by rw [← hA, hF0]; kernel_rfl
        have g74 : A.tmps[74]? = some (u 9) := by rw [← hA, hF0]; kernel_rfl
        clear hA hF0
        simp only [f9, f16] at a81 g74
        clear hF
        have x0 := hS.at (gc) (k * 8) ((.int .i64 x.n.op)) (by simp)
        have x1 := hS.at (gc) (k * 8 + 1) ((.string x.n.nm)) (by simp)
        have x2 := hS.at (gc) (k * 8 + 2) ((.int .i64 x.n.cmp)) (by simp)
        have x3 := hS.at (gc) (k * 8 + 3) ((.int .i64 x.n.val)) (by simp)
        have x4 := hS.at (gc) (k * 8 + 4) ((.int .i64 x.n.lo)) (by simp)
        have x5 := hS.at (gc) (k * 8 + 5) ((.int .i64 x.n.hi)) (by simp)
        have x6 := hS.at (gc) (k * 8 + 6) ((.int .i64 x.a)) (by simp)
        have x7 := hS.at (gc) (k * 8 + 7) ((.int .i64 x.b)) (by simp)
        go_simp
        exact hK.out _ _ (Alters.refl _) rfl
      · intro u W K hS hF hK
        have f9 : u 9 = .bool false := hF 9 (by kernel_rfl)
        have f13 : u 13 = .agg #[.int .i64 x.n.op, .string x.n.nm, .int .i64 x.n.cmp, .int .i64 x.n.val, .int .i64 x.n.lo, .int .i64 x.n.hi, .int .i64 x.a, .int .i64 x.b] := hF 13 (by kernel_rfl)
        have f17 : u 17 = .agg #[.int .i64 x.n.op, .string x.n.nm, .int .i64 x.n.cmp, .int .i64 x.n.val, .int .i64 x.n.lo, .int .i64 x.n.hi, .int .i64 x.a, .int .i64 x.b] := hF 17 (by kernel_rfl)
        generalize hA : F u = A at hK ⊢
        have a74 : A.tmps.getD 74 undef = u 9 := by rw [← hA, hF0]; kernel_rfl
        have a78 : A.tmps.getD 78 undef = u 13 := by rw [← hA, hF0]; kernel_rfl
        have a82 : A.tmps.getD 82 undef = u 17 := by rw [← hA, hF0]; kernel_rfl
        have g74 : A.tmps[74]? = some (u 9) := by rw [← hA, hF0]; kernel_rfl
        clear hA hF0
        simp only [f9, f13, f17] at a78 a82 g74
        clear hF
        go_simp
        exact hK.out _ _ (Alters.refl _) rfl
      · intro u W K hS hF hK
        have f9 : u 9 = .bool false := hF 9 (by kernel_rfl)
        have f18 : u 18 = .bool false := hF 18 (by kernel_rfl)
        generalize hA : F u = A at hK ⊢
        have a74 : A.tmps.getD 74 undef = u 9 := by rw [← hA, hF0]; kernel_rfl
        have a83 : A.tmps.getD 83 undef = u 18 := by rw [← hA, hF0]; kernel_rfl
        clear hA hF0
        simp only [f9, f18] at a74 a83
        clear hF
        go_simp
        exact hK.out _ _ (Alters.refl _) rfl
      · intro u W K hS hF hK
        have f19 : u 19 = .bool false := hF 19 (by kernel_rfl)
        generalize hA : F u = A at hK ⊢
        have a84 : A.tmps.getD 84 undef = u 19 := by rw [← hA, hF0]; kernel_rfl
        clear hA hF0
        simp only [f19] at a84
        clear hF
        go_simp
        exact hK.out _ _ (Alters.refl _) rfl
      · intro u W K hS hF hK
        have f20 : u 20 = .bool false := hF 20 (by kernel_rfl)
        generalize hA : F u = A at hK ⊢
        have a6 : A.tmps.getD 6 undef = (.slice (some ⟨ga, 0, none⟩) Y.length ca) := (show A.tmps.getD 6 undef = a0.tmps.getD 6 undef by rw [← hA, hF0]; kernel_rfl).trans h6
        have a85 : A.tmps.getD 85 undef = u 20 := by rw [← hA, hF0]; kernel_rfl
        have g85 : A.tmps[85]? = some (u 20) := by rw [← hA, hF0]; kernel_rfl
        clear hA hF0
        simp only [f20] at a6 g85
        clear hF
        go_simp
        exact hK.out _ _ (Alters.refl _) rfl
      · intro u W K hS hF hK
        have f20 : u 20 = .bool false := hF 20 (by kernel_rfl)
        generalize hA : F u = A at hK ⊢
        have a10 : A.tmps.getD 10 undef = (.int .i64 (k : Int)) := (show A.tmps.getD 10 undef = a0.tmps.getD 10 undef by rw [← hA, hF0]; kernel_rfl).trans h10
        have a85 : A.tmps.getD 85 undef = u 20 := by rw [← hA, hF0]; kernel_rfl
        have g85 : A.tmps[85]? = some (u 20) := by rw [← hA, hF0]; kernel_rfl
        clear hA hF0
        simp only [f20] at a10 g85
        clear hF
        go_simp
        exact hK.out _ _ (Alters.refl _) rfl
      · intro u W K hS hF hK
        have f20 : u 20 = .bool false := hF 20 (by kernel_rfl)
        have f21 : u 21 = .slice (some ⟨ga, 0, none⟩) Y.length ca := hF 21 (by kernel_rfl)
        have f22 : u 22 = .int .i64 (k : Int) := hF 22 (by kernel_rfl)
        generalize hA : F u = A at hK ⊢
        have a85 : A.tmps.getD 85 undef = u 20 := by rw [← hA, hF0]; kernel_rfl
        have a86 : A.tmps.getD 86 undef = u 21 := by rw [← hA, hF0]; kernel_rfl
        have a87 : A.tmps.getD 87 undef = u 22 := by rw [← hA, hF0]; kernel_rfl
        have g85 : A.tmps[85]? = some (u 20) := by rw [← hA, hF0]; kernel_rfl
        clear hA hF0
        simp only [f20, f21, f22] at a86 a87 g85
        clear hF
        go_simp
        exact hK.out _ _ (Alters.refl _) rfl
      · intro u W K hS hF hK
        have f20 : u 20 = .bool false := hF 20 (by kernel_rfl)
        have f23 : u 23 = .pointer (some ⟨ga, k * 8, none⟩) := hF 23 (by kernel_rfl)
        generalize hA : F u = A at hK ⊢
        have a85 : A.tmps.getD 85 undef = u 20 := by rw [← hA, hF0]; kernel_rfl
        have a88 : A.tmps.getD 88 undef = u 23 := by rw [← hA, hF0]; kernel_rfl
        have g85 : A.tmps[85]? = some (u 20) := by rw [← hA, hF0]; kernel_rfl
        clear hA hF0
        simp only [f20, f23] at a88 g85
        clear hF
        have x0 := hS.at (ga) (k * 8) ((.int .i64 x.n.op)) (by simp)
        have x1 := hS.at (ga) (k * 8 + 1) ((.string x.n.nm)) (by simp)
        have x2 := hS.at (ga) (k * 8 + 2) ((.int .i64 x.n.cmp)) (by simp)
        have x3 := hS.at (ga) (k * 8 + 3) ((.int .i64 x.n.val)) (by simp)
        have x4 := hS.at (ga) (k * 8 + 4) ((.int .i64 x.n.lo)) (by simp)
        have x5 := hS.at (ga) (k * 8 + 5) ((.int .i64 x.n.hi)) (by simp)
        have x6 := hS.at (ga) (k * 8 + 6) ((.int .i64 x.a)) (by simp)
        have x7 := hS.at (ga) (k * 8 + 7) ((.int .i64 x.b)) (by simp)
        go_simp
        exact hK.out _ _ (Alters.refl _) rfl
      · intro u W K hS hF hK
        have f20 : u 20 = .bool false := hF 20 (by kernel_rfl)
        generalize hA : F u = A at hK ⊢
        have a9 : A.tmps.getD 9 undef = (.slice (some ⟨gd, 0, none⟩) Y.length cd) := (show A.tmps.getD 9 undef = a0.tmps.getD 9 undef by rw [← hA, hF0]; kernel_rfl).trans h9
        have a85 : A.tmps.getD 85 undef = u 20 := by rw [← hA, hF0]; kernel_rfl
        have g85 : A.tmps[85]? = some (u 20) := by rw [← hA, hF0]; kernel_rfl
        clear hA hF0
        simp only [f20] at a9 g85
        clear hF
        go_simp
        exact hK.out _ _ (Alters.refl _) rfl
      · intro u W K hS hF hK
        have f20 : u 20 = .bool false := hF 20 (by kernel_rfl)
        generalize hA : F u = A at hK ⊢
        have a10 : A.tmps.getD 10 undef = (.int .i64 (k : Int)) := (show A.tmps.getD 10 undef = a0.tmps.getD 10 undef by rw [← hA, hF0]; kernel_rfl).trans h10
        have a85 : A.tmps.getD 85 undef = u 20 := by rw [← hA, hF0]; kernel_rfl
        have g85 : A.tmps[85]? = some (u 20) := by rw [← hA, hF0]; kernel_rfl
        clear hA hF0
        simp only [f20] at a10 g85
        clear hF
        go_simp
        exact hK.out _ _ (Alters.refl _) rfl
      · intro u W K hS hF hK
        have f20 : u 20 = .bool false := hF 20 (by kernel_rfl)
        have f25 : u 25 = .slice (some ⟨gd, 0, none⟩) Y.length cd := hF 25 (by kernel_rfl)
        have f26 : u 26 = .int .i64 (k : Int) := hF 26 (by kernel_rfl)
        generalize hA : F u = A at hK ⊢
        have a85 : A.tmps.getD 85 undef = u 20 := by rw [← hA, hF0]; kernel_rfl
        have a90 : A.tmps.getD 90 undef = u 25 := by rw [← hA, hF0]; kernel_rfl
        have a91 : A.tmps.getD 91 undef = u 26 := by rw [← hA, hF0]; kernel_rfl
        have g85 : A.tmps[85]? = some (u 20) := by rw [← hA, hF0]; kernel_rfl
        clear hA hF0
        simp only [f20, f25, f26] at a90 a91 g85
        clear hF
        go_simp
        exact hK.out _ _ (Alters.refl _) rfl
      · intro u W K hS hF hK
        have f20 : u 20 = .bool false := hF 20 (by kernel_rfl)
        have f27 : u 27 = .pointer (some ⟨gd, k * 8, none⟩) := hF 27 (by kernel_rfl)
        generalize hA : F u = A at hK ⊢
        have a85 : A.tmps.getD 85 undef = u 20 := by rw [← hA, hF0]; kernel_rfl
        have a92 : A.tmps.getD 92 undef = u 27 := by rw [← hA, hF0]; kernel_rfl
        have g85 : A.tmps[85]? = some (u 20) := by rw [← hA, hF0]; kernel_rfl
        clear hA hF0
        simp only [f20, f27] at a92 g85
        clear hF
        have x0 := hS.at (gd) (k * 8) ((.int .i64 x.n.op)) (by simp)
        have x1 := hS.at (gd) (k * 8 + 1) ((.string x.n.nm)) (by simp)
        have x2 := hS.at (gd) (k * 8 + 2) ((.int .i64 x.n.cmp)) (by simp)
        have x3 := hS.at (gd) (k * 8 + 3) ((.int .i64 x.n.val)) (by simp)
        have x4 := hS.at (gd) (k * 8 + 4) ((.int .i64 x.n.lo)) (by simp)
        have x5 := hS.at (gd) (k * 8 + 5) ((.int .i64 x.n.hi)) (by simp)
        have x6 := hS.at (gd) (k * 8 + 6) ((.int .i64 x.a)) (by simp)
        have x7 := hS.at (gd) (k * 8 + 7) ((.int .i64 x.b)) (by simp)
        go_simp
        exact hK.out _ _ (Alters.refl _) rfl
      · intro u W K hS hF hK
        have f20 : u 20 = .bool false := hF 20 (by kernel_rfl)
        have f24 : u 24 = .agg #[.int .i64 x.n.op, .string x.n.nm, .int .i64 x.n.cmp, .int .i64 x.n.val, .int .i64 x.n.lo, .int .i64 x.n.hi, .int .i64 x.a, .int .i64 x.b] := hF 24 (by kernel_rfl)
        have f28 : u 28 = .agg #[.int .i64 x.n.op, .string x.n.nm, .int .i64 x.n.cmp, .int .i64 x.n.val, .int .i64 x.n.lo, .int .i64 x.n.hi, .int .i64 x.a, .int .i64 x.b] := hF 28 (by kernel_rfl)
        generalize hA : F u = A at hK ⊢
        have a85 : A.tmps.getD 85 undef = u 20 := by rw [← hA, hF0]; kernel_rfl
        have a89 : A.tmps.getD 89 undef = u 24 := by rw [← hA, hF0]; kernel_rfl
        have a93 : A.tmps.getD 93 undef = u 28 := by rw [← hA, hF0]; kernel_rfl
        have g85 : A.tmps[85]? = some (u 20) := by rw [← hA, hF0]; kernel_rfl
        clear hA hF0
        simp only [f20, f24, f28] at a89 a93 g85
        clear hF
        go_simp
        exact hK.out _ _ (Alters.refl _) rfl
      · intro u W hS hF
        have f20 : u 20 = .bool false := hF 20 (by simp)
        have f29 : u 29 = .bool false := hF 29 (by simp)
        clear hF
        have HS := Go.Lib.hid hS
        clear hS
        simp only [hF0, h0, h1, h2, h3, h4, h5, h6, h7, h8, h9, h10, h11, h12, h13, h14, h15, h16, h17, h18, h19, h20, h21, h22, h23, h24, h25, h26, h27, h28, h29, h30, h31, h32, h33, h34, h35, h36, h37, h38, h39, h40, h41, h42, h43, h44, h45, h46, h47, h48, h49, h50, h51, h52, h53, h54, h55, h56, h57, h58, h59, h60, h61, h62, h63, h64, f20, f29]
        clear hF0 h0 h1 h2 h3 h4 h5 h6 h7 h8 h9 h10 h11 h12 h13 h14 h15 h16 h17 h18 h19 h20 h21 h22 h23 h24 h25 h26 h27 h28 h29 h30 h31 h32 h33 h34 h35 h36 h37 h38 h39 h40 h41 h42 h43 h44 h45 h46 h47 h48 h49 h50 h51 h52 h53 h54 h55 h56 h57 h58 h59 h60 h61 h62 h63 h64 f20 f29
        replace HS := Go.Lib.hid HS.out.quiet
        go_simp
        go_wp2_with fail
        go_roundw
        case rel => exact ⟨k + 1, by omega, by go_num, HL.out.keep HS.out⟩
        case measure => simp [intOf]; omega
end Go.Proofs.YtnpcakakjhiboaaDoor
