/- PlanOnce: the walk of the law. No condition. -/
import Derived.Test.YtnpcakakjhiboaaDoorLawP16
import Derived.Test.YtnpcakakjhiboaaDoorOnceP
import Derived.Test.YtnpcakakjhiboaaDoorSize41
import Derived.Test.YtnpcakakjhiboaaDoorLits2
namespace Go.Proofs.YtnpcakakjhiboaaDoor
open Go Go.RowKit Go.Lo Go.WideShapes

set_option maxRecDepth 100000 in
set_option maxHeartbeats 4000000 in
theorem planOnce_walk (t : Ft) (w : World) (hin : In AllD w t) (hw : ∀ n, n ∈ t.pre → n.top.n.wf) (hS : Shapes w) : Calls Tryd.prog 17 #[t.val] w (Said (.bool true) w) := by
  have HL := Go.Lib.hid ((LawP.zero w hS).box 28 hin)
  have HNUM := Go.Lib.hid (num_of hw)
  clear hin hS hw
  unfold Ft.val
  go_enter Tryd.func17, Tryd.ntmps17
  go_wp2_with fail
  generalize w.alloc _ = w1 at *
  refine (awake16_walk w1 HL.out.shapes).mono ?_
  rintro e w2 ⟨rfl, hq⟩
  replace HL := Go.Lib.hid (HL.out.keep hq)
  clear hq
  obtain ⟨x00, x01, x02, x03, x04, x05, x06⟩ := HL.out.seven (w.heap.size) 28 t (by simp)
  have HC := Go.Lib.hid (left_any16 AllD t 60 w2 (HL.out.inn (w.heap.size) 28 t (by simp)) (by decide))
  unfold Ft.val at HC
  go_wp2_with fail
  refine HC.out.mono ?_
  rintro e w3 ⟨rfl, hq⟩
  clear x00 x01 x02 x03 x04 x05 x06 HC
  replace HL := Go.Lib.hid (HL.out.keep hq)
  clear hq
  by_cases h0 : leftF (Ft.pl t) 60 ≤ 0
  · have b0 : decide (leftF (Ft.pl t) 60 ≤ 0) = true := by simpa using h0
    clear h0
    go_wp2_with fail
    go_ret
    exact ⟨rfl, HL.out.quiet⟩
  have hz0 := left_size16 h0
  have HZt : Hid (t.size ≤ 60) := Go.Lib.hid (by have := hz0; omega)
  have b0 : decide (leftF (Ft.pl t) 60 ≤ 0) = false := by simpa using h0
  clear hz0 h0
  obtain ⟨x00, x01, x02, x03, x04, x05, x06⟩ := HL.out.seven (w.heap.size) 28 t (by simp)
  have HC := Go.Lib.hid (sound_walk AllD t w3 (HL.out.inn (w.heap.size) 28 t (by simp)) HL.out.shapes (by have := HZt.out; omega))
  by_cases hf : first (Ft.pl t) = 0
  rotate_left
  · rw [show decide (first (Ft.pl t) = 0) = false by simpa using hf] at HC
    try unfold Ft.val at HC
    clear hf
    go_wp2_with fail
    refine HC.out.mono ?_
    rintro e w4 ⟨rfl, hq⟩
    clear x00 x01 x02 x03 x04 x05 x06 HC
    replace HL := Go.Lib.hid (HL.out.keep hq)
    clear hq
    go_wp2_with fail
    go_ret
    exact ⟨rfl, HL.out.quiet⟩
  rw [show decide (first (Ft.pl t) = 0) = true by simpa using hf] at HC
  try unfold Ft.val at HC
  have HSt := Go.Lib.hid ((first_zero _).1 hf)
  clear hf
  go_wp2_with fail
  refine HC.out.mono ?_
  rintro e w4 ⟨rfl, hq⟩
  clear x00 x01 x02 x03 x04 x05 x06 HC b0
  replace HL := Go.Lib.hid (HL.out.keep hq)
  clear hq
  obtain ⟨Y, hA⟩ : ∃ l, l = planOf (Ft.pl t) := ⟨_, rfl⟩
  have HA : Hid (planOf (Ft.pl t) = Y) := Go.Lib.hid hA.symm
  have HAL : Hid (Y.length ≤ 1000) := Go.Lib.hid (by rw [hA]; have := planOf_len (f := Ft.pl t); rw [pl_size] at this; have := HZt.out; omega)
  clear hA
  have HNE : Hid (∀ (i k : Nat) (x y : Stp), Y[i]? = some x → Y[k]? = some y → i ≠ k → x ≠ y) := Go.Lib.hid (fun i k x y h1 h2 h3 => by rw [← HA.out] at h1 h2; exact once_ne HSt.out h1 h2 h3)
  have HNM : Hid (∀ (i : Nat), i + 1 < Y.length → ∃ k y, i < k ∧ Y[k]? = some y ∧ (y.a = (i : Int) ∨ y.b = (i : Int))) := Go.Lib.hid (fun i h1 => by rw [← HA.out] at h1 ⊢; exact once_named HSt.out h1)
  have HLE : Hid (0 < Y.length ∧ Y.length ≤ (normOf (Ft.pl t)).size) := Go.Lib.hid (by rw [← HA.out]; exact once_len HSt.out)
  obtain ⟨x00, x01, x02, x03, x04, x05, x06⟩ := HL.out.seven (w.heap.size) 28 t (by simp)
  have HC := Go.Lib.hid (plan_of (f := Ft.pl t) rfl (HL.out.inn (w.heap.size) 28 t (by simp)) HL.out.shapes (by (repeat first | rw [exOne_size] | rw [exTwo_size] | rw [pl_size]); have := HZt.out; omega) HNUM.out HA.out)
  unfold Ft.val at HC
  go_wp2_with fail
  refine HC.out.mono ?_
  rintro e w5 ⟨aa, ca, rfl, ha, hq⟩
  clear x00 x01 x02 x03 x04 x05 x06 HC
  replace HL := Go.Lib.hid ((HL.out.keep hq).row ha)
  clear ha 
  clear hq
  have hyl := HAL.out
  go_wp2_with fail
  go_loopw [6] (fun i wr => ∃ k : Nat, k ≤ Y.length ∧ i = .int .i64 k ∧ (LawP w [(w.heap.size, 28, t)] [] [(aa, Y)]) wr) (fun i _ => Y.length - (intOf i).toNat)
  case atStart => exact ⟨0, Nat.zero_le _, rfl, HL.out⟩
  case round =>
    clear HL
    obtain ⟨i, hi, rfl, hl⟩ := hrel
    have HL := Go.Lib.hid hl
    clear hl
    by_cases hlt : i < Y.length
    rotate_left
    · have HI := Go.Lib.hid hi
      clear hi
      obtain rfl : i = Y.length := by have := HI.out; omega
      have g0 : decide (0 < Y.length) = true := by simpa using HLE.out.1
      go_upto_region 20 with (fail)
      obtain ⟨x0, x1, x2, x3, x4, x5, x6⟩ := HL.out.seven (w.heap.size) 28 t (by simp)
      have HC := Go.Lib.hid (normOf_v AllD t wr (HL.out.inn (w.heap.size) 28 t (by simp)) HL.out.shapes (by have := HZt.out; omega) allD)
      unfold Ft.val at HC
      go_wp2_with fail
      refine HC.out.mono ?_
      rintro e w7 ⟨v, rfl, ⟨ta, rfl, hpa, hia⟩, hq⟩
      clear x0 x1 x2 x3 x4 x5 x6 HC
      replace HL := Go.Lib.hid (HL.out.keep hq)
      clear hq
      have hsz : (normOf (Ft.pl t)).size = ta.size := by rw [← hpa, pl_size]
      have HC := Go.Lib.hid (size41_walk AllD ta w7 hia (by rw [← hsz]; have := normOf_size16 (Ft.pl t) HSt.out; rw [pl_size] at this; have := HZt.out; omega))
      have g1 : decide (Y.length ≤ ta.size) = true := by rw [← hsz]; simpa using HLE.out.2
      clear hpa hia hsz
      unfold Ft.val at HC ⊢
      go_wp2_with fail
      refine HC.out.mono ?_
      rintro e w8 ⟨rfl, hq⟩
      clear HC
      replace HL := Go.Lib.hid (HL.out.keep hq)
      clear hq
      go_wp2_with fail
      go_ret
      exact ⟨rfl, HL.out.quiet⟩
    have hi2 : Y[i]? = some Y[i] := by simp [hlt]
    have HLT := Go.Lib.hid hlt
    have HI2 := Go.Lib.hid hi2
    clear hi hi2
    have gi1 : (i : Int) + 1 ≤ 9223372036854775807 := by omega
    go_wp2_with fail
    go_loopw [7, 8] (fun b j W => ∃ (c : Bool) (k : Nat), i < k ∧ k ≤ Y.length ∧ b = .bool c ∧ j = .int .i64 k ∧ (c = true ↔ (i + 1 = Y.length ∨ ∃ (q : Nat) (y : Stp), i < q ∧ q < k ∧ Y[q]? = some y ∧ (y.a = (i : Int) ∨ y.b = (i : Int)))) ∧ (LawP w [(w.heap.size, 28, t)] [] [(aa, Y)]) W) (fun _ j _ => Y.length - (intOf j).toNat)
    case atStart =>
      refine ⟨((i : Int) == (Y.length : Int) - 1), i + 1, by omega, by omega, rfl, by simp, ?_, HL.out⟩
      rw [beq_iff_eq]
      constructor
      · intro h; exact .inl (by omega)
      · rintro (h | ⟨q, y, h1, h2, -⟩)
        · omega
        · omega
    case round =>
      clear HL
      obtain ⟨c, k, hik, hk, rfl, rfl, hc, hl⟩ := hrel
      have HL := Go.Lib.hid hl
      have HC := Go.Lib.hid hc
      clear hl hc
      by_cases hlt2 : k < Y.length
      rotate_left
      · have HK := Go.Lib.hid hk
        have HIK := Go.Lib.hid hik
        obtain rfl : c = true := by
          refine HC.out.2 ?_
          by_cases he : i + 1 = Y.length
          · exact .inl he
          · obtain ⟨q, y, h1, h2, h3⟩ := HNM.out i (by have := HLT.out; omega)
            refine .inr ⟨q, y, h1, ?_, h2, h3⟩
            rcases Nat.lt_or_ge q Y.length with h' | h'
            · omega
            · rw [List.getElem?_eq_none h'] at h2; cases h2
        clear hik hk
        obtain rfl : k = Y.length := by have := HK.out; omega
        clear HC HK HIK
        go_wp2_with fail
        go_roundw
        case rel => exact ⟨i + 1, by omega, by go_num, HL.out⟩
        case measure => simp [intOf]; omega
      have hk2 : Y[k]? = some Y[k] := by simp [hlt2]
      have HXY := Go.Lib.hid (HNE.out i k _ _ HI2.out hk2 (by omega))
      obtain ⟨g, rfl, qx⟩ := (HL.out.st aa Y (by simp)).at HI2.out
      obtain ⟨g', e9, qy⟩ := (HL.out.st (some ⟨g, 0, none⟩) Y (by simp)).at hk2
      obtain rfl : g = g' := by simpa using e9
      clear e9
  
      have yx0 := qx 0 _ rfl
      have yx1 := qx 1 _ rfl
      have yx2 := qx 2 _ rfl
      have yx3 := qx 3 _ rfl
      have yx4 := qx 4 _ rfl
      have yx5 := qx 5 _ rfl
      have yx6 := qx 6 _ rfl
      have yx7 := qx 7 _ rfl
      have yy0 := qy 0 _ rfl
      have yy1 := qy 1 _ rfl
      have yy2 := qy 2 _ rfl
      have yy3 := qy 3 _ rfl
      have yy4 := qy 4 _ rfl
      have yy5 := qy 5 _ rfl
      have yy6 := qy 6 _ rfl
      have yy7 := qy 7 _ rfl
      have HK2 := Go.Lib.hid hk2
      have HIK := Go.Lib.hid hik
      have HLK := Go.Lib.hid hlt2
      clear qx qy hk2 hik hk
      simp only [Nat.add_zero] at *
      generalize Y[i] = x at *
      generalize Y[k] = y at *
      go_upto_region 15 with (fail)
      generalize hfr : Act.mk _ _ = a0
      have h0 : a0.tmps.getD 0 undef = _ := (congrArg (fun a : Act => a.tmps.getD 0 undef) hfr).symm.trans lit_0
      have h1 : a0.tmps.getD 1 undef = _ := (congrArg (fun a : Act => a.tmps.getD 1 undef) hfr).symm.trans lit_1
      have h2 : a0.tmps.getD 2 undef = _ := (congrArg (fun a : Act => a.tmps.getD 2 undef) hfr).symm.trans lit_2
      have h3 : a0.tmps.getD 3 undef = _ := (congrArg (fun a : Act => a.tmps.getD 3 undef) hfr).symm.trans lit_3
      have h4 : a0.tmps.getD 4 undef = _ := (congrArg (fun a : Act => a.tmps.getD 4 undef) hfr).symm.trans lit_4
      have h5 : a0.tmps.getD 5 undef = _ := (congrArg (fun a : Act => a.tmps.getD 5 undef) hfr).symm.trans lit_5
      have h6 : a0.tmps.getD 6 undef = _ := (congrArg (fun a : Act => a.tmps.getD 6 undef) hfr).symm.trans lit_6
      have h7 : a0.tmps.getD 7 undef = _ := (congrArg (fun a : Act => a.tmps.getD 7 undef) hfr).symm.trans lit_7
      have h8 : a0.tmps.getD 8 undef = _ := (congrArg (fun a : Act => a.tmps.getD 8 undef) hfr).symm.trans lit_8
      have h9 : a0.tmps.getD 9 undef = _ := (congrArg (fun a : Act => a.tmps.getD 9 undef) hfr).symm.trans lit_9
      have h10 : a0.tmps.getD 10 undef = _ := (congrArg (fun a : Act => a.tmps.getD 10 undef) hfr).symm.trans lit_10
      have h11 : a0.tmps.getD 11 undef = _ := (congrArg (fun a : Act => a.tmps.getD 11 undef) hfr).symm.trans lit_11
      have h12 : a0.tmps.getD 12 undef = _ := (congrArg (fun a : Act => a.tmps.getD 12 undef) hfr).symm.trans lit_12
      have h13 : a0.tmps.getD 13 undef = _ := (congrArg (fun a : Act => a.tmps.getD 13 undef) hfr).symm.trans lit_13
      have h14 : a0.tmps.getD 14 undef = _ := (congrArg (fun a : Act => a.tmps.getD 14 undef) hfr).symm.trans lit_14
      have h15 : a0.tmps.getD 15 undef = _ := (congrArg (fun a : Act => a.tmps.getD 15 undef) hfr).symm.trans lit_15
      have h16 : a0.tmps.getD 16 undef = _ := (congrArg (fun a : Act => a.tmps.getD 16 undef) hfr).symm.trans lit_16
      have h17 : a0.tmps.getD 17 undef = _ := (congrArg (fun a : Act => a.tmps.getD 17 undef) hfr).symm.trans lit_17
      have h18 : a0.tmps.getD 18 undef = _ := (congrArg (fun a : Act => a.tmps.getD 18 undef) hfr).symm.trans lit_18
      have h19 : a0.tmps.getD 19 undef = _ := (congrArg (fun a : Act => a.tmps.getD 19 undef) hfr).symm.trans lit_19
      have h20 : a0.tmps.getD 20 undef = _ := (congrArg (fun a : Act => a.tmps.getD 20 undef) hfr).symm.trans lit_20
      have h21 : a0.tmps.getD 21 undef = _ := (congrArg (fun a : Act => a.tmps.getD 21 undef) hfr).symm.trans lit_21
      have h22 : a0.tmps.getD 22 undef = _ := (congrArg (fun a : Act => a.tmps.getD 22 undef) hfr).symm.trans lit_22
      have h23 : a0.tmps.getD 23 undef = _ := (congrArg (fun a : Act => a.tmps.getD 23 undef) hfr).symm.trans lit_23
      have h24 : a0.tmps.getD 24 undef = _ := (congrArg (fun a : Act => a.tmps.getD 24 undef) hfr).symm.trans lit_24
      have h25 : a0.tmps.getD 25 undef = _ := (congrArg (fun a : Act => a.tmps.getD 25 undef) hfr).symm.trans lit_25
      have h26 : a0.tmps.getD 26 undef = _ := (congrArg (fun a : Act => a.tmps.getD 26 undef) hfr).symm.trans lit_26
      have h27 : a0.tmps.getD 27 undef = _ := (congrArg (fun a : Act => a.tmps.getD 27 undef) hfr).symm.trans lit_27
      have h28 : a0.tmps.getD 28 undef = _ := (congrArg (fun a : Act => a.tmps.getD 28 undef) hfr).symm.trans lit_28
      have h29 : a0.tmps.getD 29 undef = _ := (congrArg (fun a : Act => a.tmps.getD 29 undef) hfr).symm.trans lit_29
      have h30 : a0.tmps.getD 30 undef = _ := (congrArg (fun a : Act => a.tmps.getD 30 undef) hfr).symm.trans lit_30
      have h31 : a0.tmps.getD 31 undef = _ := (congrArg (fun a : Act => a.tmps.getD 31 undef) hfr).symm.trans lit_31
      have h32 : a0.tmps.getD 32 undef = _ := (congrArg (fun a : Act => a.tmps.getD 32 undef) hfr).symm.trans lit_32
      have h33 : a0.tmps.getD 33 undef = _ := (congrArg (fun a : Act => a.tmps.getD 33 undef) hfr).symm.trans lit_33
      have h34 : a0.tmps.getD 34 undef = _ := (congrArg (fun a : Act => a.tmps.getD 34 undef) hfr).symm.trans lit_34
      have h35 : a0.tmps.getD 35 undef = _ := (congrArg (fun a : Act => a.tmps.getD 35 undef) hfr).symm.trans lit_35
      have h36 : a0.tmps.getD 36 undef = _ := (congrArg (fun a : Act => a.tmps.getD 36 undef) hfr).symm.trans lit_36
      have h37 : a0.tmps.getD 37 undef = _ := (congrArg (fun a : Act => a.tmps.getD 37 undef) hfr).symm.trans lit_37
      have h38 : a0.tmps.getD 38 undef = _ := (congrArg (fun a : Act => a.tmps.getD 38 undef) hfr).symm.trans lit_38
      have h39 : a0.tmps.getD 39 undef = _ := (congrArg (fun a : Act => a.tmps.getD 39 undef) hfr).symm.trans lit_39
      have h40 : a0.tmps.getD 40 undef = _ := (congrArg (fun a : Act => a.tmps.getD 40 undef) hfr).symm.trans lit_40
      have h41 : a0.tmps.getD 41 undef = _ := (congrArg (fun a : Act => a.tmps.getD 41 undef) hfr).symm.trans lit_41
      have h51 : a0.tmps.getD 51 undef = _ := (congrArg (fun a : Act => a.tmps.getD 51 undef) hfr).symm.trans lit_51
      have h52 : a0.tmps.getD 52 undef = _ := (congrArg (fun a : Act => a.tmps.getD 52 undef) hfr).symm.trans lit_52
      have h53 : a0.tmps.getD 53 undef = _ := (congrArg (fun a : Act => a.tmps.getD 53 undef) hfr).symm.trans lit_53
      have h54 : a0.tmps.getD 54 undef = _ := (congrArg (fun a : Act => a.tmps.getD 54 undef) hfr).symm.trans lit_54
      have h55 : a0.tmps.getD 55 undef = _ := (congrArg (fun a : Act => a.tmps.getD 55 undef) hfr).symm.trans lit_55
      have h56 : a0.tmps.getD 56 undef = _ := (congrArg (fun a : Act => a.tmps.getD 56 undef) hfr).symm.trans lit_56
      have h57 : a0.tmps.getD 57 undef = _ := (congrArg (fun a : Act => a.tmps.getD 57 undef) hfr).symm.trans lit_57
      have h58 : a0.tmps.getD 58 undef = _ := (congrArg (fun a : Act => a.tmps.getD 58 undef) hfr).symm.trans lit_58
      have h59 : a0.tmps.getD 59 undef = _ := (congrArg (fun a : Act => a.tmps.getD 59 undef) hfr).symm.trans lit_59
      have h60 : a0.tmps.getD 60 undef = _ := (congrArg (fun a : Act => a.tmps.getD 60 undef) hfr).symm.trans lit_60
      have h61 : a0.tmps.getD 61 undef = _ := (congrArg (fun a : Act => a.tmps.getD 61 undef) hfr).symm.trans lit_61
      have h62 : a0.tmps.getD 62 undef = _ := (congrArg (fun a : Act => a.tmps.getD 62 undef) hfr).symm.trans lit_62
      have h63 : a0.tmps.getD 63 undef = _ := (congrArg (fun a : Act => a.tmps.getD 63 undef) hfr).symm.trans lit_63
      have h64 : a0.tmps.getD 64 undef = _ := (congrArg (fun a : Act => a.tmps.getD 64 undef) hfr).symm.trans lit_64
      have h65 : a0.tmps.getD 65 undef = _ := (congrArg (fun a : Act => a.tmps.getD 65 undef) hfr).symm.trans lit_65
      have h66 : a0.tmps.getD 66 undef = _ := (congrArg (fun a : Act => a.tmps.getD 66 undef) hfr).symm.trans lit_66
      have h67 : a0.tmps.getD 67 undef = _ := (congrArg (fun a : Act => a.tmps.getD 67 undef) hfr).symm.trans lit_67
      have h68 : a0.tmps.getD 68 undef = _ := (congrArg (fun a : Act => a.tmps.getD 68 undef) hfr).symm.trans lit_68
      have h69 : a0.tmps.getD 69 undef = _ := (congrArg (fun a : Act => a.tmps.getD 69 undef) hfr).symm.trans lit_69
      have h70 : a0.tmps.getD 70 undef = _ := (congrArg (fun a : Act => a.tmps.getD 70 undef) hfr).symm.trans lit_70
      have h71 : a0.tmps.getD 71 undef = _ := (congrArg (fun a : Act => a.tmps.getD 71 undef) hfr).symm.trans lit_71
      have h72 : a0.tmps.getD 72 undef = _ := (congrArg (fun a : Act => a.tmps.getD 72 undef) hfr).symm.trans lit_72
      have h73 : a0.tmps.getD 73 undef = _ := (congrArg (fun a : Act => a.tmps.getD 73 undef) hfr).symm.trans lit_73
      have h74 : a0.tmps.getD 74 undef = _ := (congrArg (fun a : Act => a.tmps.getD 74 undef) hfr).symm.trans lit_74
      have h75 : a0.tmps.getD 75 undef = _ := (congrArg (fun a : Act => a.tmps.getD 75 undef) hfr).symm.trans lit_75
      have h76 : a0.tmps.getD 76 undef = _ := (congrArg (fun a : Act => a.tmps.getD 76 undef) hfr).symm.trans lit_76
      have h77 : a0.tmps.getD 77 undef = _ := (congrArg (fun a : Act => a.tmps.getD 77 undef) hfr).symm.trans lit_77
      have h78 : a0.tmps.getD 78 undef = _ := (congrArg (fun a : Act => a.tmps.getD 78 undef) hfr).symm.trans lit_78
      have h79 : a0.tmps.getD 79 undef = _ := (congrArg (fun a : Act => a.tmps.getD 79 undef) hfr).symm.trans lit_79
      have h80 : a0.tmps.getD 80 undef = _ := (congrArg (fun a : Act => a.tmps.getD 80 undef) hfr).symm.trans lit_80
      have h81 : a0.tmps.getD 81 undef = _ := (congrArg (fun a : Act => a.tmps.getD 81 undef) hfr).symm.trans lit_81
      have h82 : a0.tmps.getD 82 undef = _ := (congrArg (fun a : Act => a.tmps.getD 82 undef) hfr).symm.trans lit_82
      obtain ⟨F, hF0⟩ : ∃ F : (Nat → Value) → Act, F = fun u => ⟨#[a0.tmps.getD 0 undef, a0.tmps.getD 1 undef, a0.tmps.getD 2 undef, a0.tmps.getD 3 undef, a0.tmps.getD 4 undef, a0.tmps.getD 5 undef, a0.tmps.getD 6 undef, a0.tmps.getD 7 undef, a0.tmps.getD 8 undef, a0.tmps.getD 9 undef, a0.tmps.getD 10 undef, a0.tmps.getD 11 undef, a0.tmps.getD 12 undef, a0.tmps.getD 13 undef, a0.tmps.getD 14 undef, a0.tmps.getD 15 undef, a0.tmps.getD 16 undef, a0.tmps.getD 17 undef, a0.tmps.getD 18 undef, a0.tmps.getD 19 undef, a0.tmps.getD 20 undef, a0.tmps.getD 21 undef, a0.tmps.getD 22 undef, a0.tmps.getD 23 undef, a0.tmps.getD 24 undef, a0.tmps.getD 25 undef, a0.tmps.getD 26 undef, a0.tmps.getD 27 undef, a0.tmps.getD 28 undef, a0.tmps.getD 29 undef, a0.tmps.getD 30 undef, a0.tmps.getD 31 undef, a0.tmps.getD 32 undef, a0.tmps.getD 33 undef, a0.tmps.getD 34 undef, a0.tmps.getD 35 undef, a0.tmps.getD 36 undef, a0.tmps.getD 37 undef, a0.tmps.getD 38 undef, a0.tmps.getD 39 undef, a0.tmps.getD 40 undef, a0.tmps.getD 41 undef, u 0, u 1, u 2, u 3, u 4, u 5, u 6, u 7, u 8, a0.tmps.getD 51 undef, a0.tmps.getD 52 undef, a0.tmps.getD 53 undef, a0.tmps.getD 54 undef, a0.tmps.getD 55 undef, a0.tmps.getD 56 undef, a0.tmps.getD 57 undef, a0.tmps.getD 58 undef, a0.tmps.getD 59 undef, a0.tmps.getD 60 undef, a0.tmps.getD 61 undef, a0.tmps.getD 62 undef, a0.tmps.getD 63 undef, a0.tmps.getD 64 undef, a0.tmps.getD 65 undef, a0.tmps.getD 66 undef, a0.tmps.getD 67 undef, a0.tmps.getD 68 undef, a0.tmps.getD 69 undef, a0.tmps.getD 70 undef, a0.tmps.getD 71 undef, a0.tmps.getD 72 undef, a0.tmps.getD 73 undef, a0.tmps.getD 74 undef, a0.tmps.getD 75 undef, a0.tmps.getD 76 undef, a0.tmps.getD 77 undef, a0.tmps.getD 78 undef, a0.tmps.getD 79 undef, a0.tmps.getD 80 undef, a0.tmps.getD 81 undef, a0.tmps.getD 82 undef], []⟩ := ⟨_, rfl⟩
      refine wp_region_wants_at F (fun u => by rw [hF0, ← hfr]; kernel_rfl) (by kernel_rfl) (by kernel_rfl) (by kernel_rfl) (by kernel_rfl) (CellsAt wr [(⟨g, i * 8, none⟩, (.int .i64 x.n.op)), (⟨g, i * 8 + 1, none⟩, (.string x.n.nm)), (⟨g, i * 8 + 2, none⟩, (.int .i64 x.n.cmp)), (⟨g, i * 8 + 3, none⟩, (.int .i64 x.n.val)), (⟨g, i * 8 + 4, none⟩, (.int .i64 x.n.lo)), (⟨g, i * 8 + 5, none⟩, (.int .i64 x.n.hi)), (⟨g, i * 8 + 6, none⟩, (.int .i64 x.a)), (⟨g, i * 8 + 7, none⟩, (.int .i64 x.b)), (⟨g, k * 8, none⟩, (.int .i64 y.n.op)), (⟨g, k * 8 + 1, none⟩, (.string y.n.nm)), (⟨g, k * 8 + 2, none⟩, (.int .i64 y.n.cmp)), (⟨g, k * 8 + 3, none⟩, (.int .i64 y.n.val)), (⟨g, k * 8 + 4, none⟩, (.int .i64 y.n.lo)), (⟨g, k * 8 + 5, none⟩, (.int .i64 y.n.hi)), (⟨g, k * 8 + 6, none⟩, (.int .i64 y.a)), (⟨g, k * 8 + 7, none⟩, (.int .i64 y.b))]) (fun _ _ hq h => h.keep hq) [Want.is (.slice (some ⟨g, 0, none⟩) Y.length ca), Want.is (.int .i64 (i : Int)), Want.is (.pointer (some ⟨g, i * 8, none⟩)), Want.is (.agg #[.int .i64 x.n.op, .string x.n.nm, .int .i64 x.n.cmp, .int .i64 x.n.val, .int .i64 x.n.lo, .int .i64 x.n.hi, .int .i64 x.a, .int .i64 x.b]), Want.is (.slice (some ⟨g, 0, none⟩) Y.length ca), Want.is (.int .i64 (k : Int)), Want.is (.pointer (some ⟨g, k * 8, none⟩)), Want.is (.agg #[.int .i64 y.n.op, .string y.n.nm, .int .i64 y.n.cmp, .int .i64 y.n.val, .int .i64 y.n.lo, .int .i64 y.n.hi, .int .i64 y.a, .int .i64 y.b])] ((CellsAt.cons (a := ⟨g, i * 8, none⟩) (v := (.int .i64 x.n.op)) (yx0) (CellsAt.cons (a := ⟨g, i * 8 + 1, none⟩) (v := (.string x.n.nm)) (yx1) (CellsAt.cons (a := ⟨g, i * 8 + 2, none⟩) (v := (.int .i64 x.n.cmp)) (yx2) (CellsAt.cons (a := ⟨g, i * 8 + 3, none⟩) (v := (.int .i64 x.n.val)) (yx3) (CellsAt.cons (a := ⟨g, i * 8 + 4, none⟩) (v := (.int .i64 x.n.lo)) (yx4) (CellsAt.cons (a := ⟨g, i * 8 + 5, none⟩) (v := (.int .i64 x.n.hi)) (yx5) (CellsAt.cons (a := ⟨g, i * 8 + 6, none⟩) (v := (.int .i64 x.a)) (yx6) (CellsAt.cons (a := ⟨g, i * 8 + 7, none⟩) (v := (.int .i64 x.b)) (yx7) (CellsAt.cons (a := ⟨g, k * 8, none⟩) (v := (.int .i64 y.n.op)) (yy0) (CellsAt.cons (a := ⟨g, k * 8 + 1, none⟩) (v := (.string y.n.nm)) (yy1) (CellsAt.cons (a := ⟨g, k * 8 + 2, none⟩) (v := (.int .i64 y.n.cmp)) (yy2) (CellsAt.cons (a := ⟨g, k * 8 + 3, none⟩) (v := (.int .i64 y.n.val)) (yy3) (CellsAt.cons (a := ⟨g, k * 8 + 4, none⟩) (v := (.int .i64 y.n.lo)) (yy4) (CellsAt.cons (a := ⟨g, k * 8 + 5, none⟩) (v := (.int .i64 y.n.hi)) (yy5) (CellsAt.cons (a := ⟨g, k * 8 + 6, none⟩) (v := (.int .i64 y.a)) (yy6) (CellsAt.cons (a := ⟨g, k * 8 + 7, none⟩) (v := (.int .i64 y.b)) (yy7) (CellsAt.nil ((Alters.refl _))))))))))))))))))).keep ((Alters.refl _).drew)) (by decide) ?_
      clear hfr
      refine Steps.cons ?_ (Steps.cons ?_ (Steps.cons ?_ (Steps.cons ?_ (Steps.cons ?_ (Steps.cons ?_ (Steps.cons ?_ (Steps.cons ?_ (Steps.last ?_))))))))
      · intro u W K hS hF hK
        generalize hA : F u = A at hK ⊢
        have a5 : A.tmps.getD 5 undef = (.slice (some ⟨g, 0, none⟩) Y.length ca) := (show A.tmps.getD 5 undef = a0.tmps.getD 5 undef by rw [← hA, hF0]; kernel_rfl).trans h5
        clear hA hF0
        clear hF
        go_simp
        exact hK.out _ _ (Alters.refl _) rfl
      · intro u W K hS hF hK
        generalize hA : F u = A at hK ⊢
        have a6 : A.tmps.getD 6 undef = (.int .i64 (i : Int)) := (show A.tmps.getD 6 undef = a0.tmps.getD 6 undef by rw [← hA, hF0]; kernel_rfl).trans h6
        clear hA hF0
        clear hF
        go_simp
        exact hK.out _ _ (Alters.refl _) rfl
      · intro u W K hS hF hK
        have f0 : u 0 = .slice (some ⟨g, 0, none⟩) Y.length ca := hF 0 (by kernel_rfl)
        have f1 : u 1 = .int .i64 (i : Int) := hF 1 (by kernel_rfl)
        generalize hA : F u = A at hK ⊢
        have a42 : A.tmps.getD 42 undef = u 0 := by rw [← hA, hF0]; kernel_rfl
        have a43 : A.tmps.getD 43 undef = u 1 := by rw [← hA, hF0]; kernel_rfl
        clear hA hF0
        simp only [f0, f1] at a42 a43
        clear hF
        go_simp
        exact hK.out _ _ (Alters.refl _) rfl
      · intro u W K hS hF hK
        have f2 : u 2 = .pointer (some ⟨g, i * 8, none⟩) := hF 2 (by kernel_rfl)
        generalize hA : F u = A at hK ⊢
        have a44 : A.tmps.getD 44 undef = u 2 := by rw [← hA, hF0]; kernel_rfl
        clear hA hF0
        simp only [f2] at a44
        clear hF
        have x0 := hS.at (g) (i * 8) ((.int .i64 x.n.op)) (by simp)
        have x1 := hS.at (g) (i * 8 + 1) ((.string x.n.nm)) (by simp)
        have x2 := hS.at (g) (i * 8 + 2) ((.int .i64 x.n.cmp)) (by simp)
        have x3 := hS.at (g) (i * 8 + 3) ((.int .i64 x.n.val)) (by simp)
        have x4 := hS.at (g) (i * 8 + 4) ((.int .i64 x.n.lo)) (by simp)
        have x5 := hS.at (g) (i * 8 + 5) ((.int .i64 x.n.hi)) (by simp)
        have x6 := hS.at (g) (i * 8 + 6) ((.int .i64 x.a)) (by simp)
        have x7 := hS.at (g) (i * 8 + 7) ((.int .i64 x.b)) (by simp)
        go_simp
        exact hK.out _ _ (Alters.refl _) rfl
      · intro u W K hS hF hK
        generalize hA : F u = A at hK ⊢
        have a5 : A.tmps.getD 5 undef = (.slice (some ⟨g, 0, none⟩) Y.length ca) := (show A.tmps.getD 5 undef = a0.tmps.getD 5 undef by rw [← hA, hF0]; kernel_rfl).trans h5
        clear hA hF0
        clear hF
        go_simp
        exact hK.out _ _ (Alters.refl _) rfl
      · intro u W K hS hF hK
        generalize hA : F u = A at hK ⊢
        have a8 : A.tmps.getD 8 undef = (.int .i64 (k : Int)) := (show A.tmps.getD 8 undef = a0.tmps.getD 8 undef by rw [← hA, hF0]; kernel_rfl).trans h8
        clear hA hF0
        clear hF
        go_simp
        exact hK.out _ _ (Alters.refl _) rfl
      · intro u W K hS hF hK
        have f4 : u 4 = .slice (some ⟨g, 0, none⟩) Y.length ca := hF 4 (by kernel_rfl)
        have f5 : u 5 = .int .i64 (k : Int) := hF 5 (by kernel_rfl)
        generalize hA : F u = A at hK ⊢
        have a46 : A.tmps.getD 46 undef = u 4 := by rw [← hA, hF0]; kernel_rfl
        have a47 : A.tmps.getD 47 undef = u 5 := by rw [← hA, hF0]; kernel_rfl
        clear hA hF0
        simp only [f4, f5] at a46 a47
        clear hF
        go_simp
        exact hK.out _ _ (Alters.refl _) rfl
      · intro u W K hS hF hK
        have f6 : u 6 = .pointer (some ⟨g, k * 8, none⟩) := hF 6 (by kernel_rfl)
        generalize hA : F u = A at hK ⊢
        have a48 : A.tmps.getD 48 undef = u 6 := by rw [← hA, hF0]; kernel_rfl
        clear hA hF0
        simp only [f6] at a48
        clear hF
        have x0 := hS.at (g) (k * 8) ((.int .i64 y.n.op)) (by simp)
        have x1 := hS.at (g) (k * 8 + 1) ((.string y.n.nm)) (by simp)
        have x2 := hS.at (g) (k * 8 + 2) ((.int .i64 y.n.cmp)) (by simp)
        have x3 := hS.at (g) (k * 8 + 3) ((.int .i64 y.n.val)) (by simp)
        have x4 := hS.at (g) (k * 8 + 4) ((.int .i64 y.n.lo)) (by simp)
        have x5 := hS.at (g) (k * 8 + 5) ((.int .i64 y.n.hi)) (by simp)
        have x6 := hS.at (g) (k * 8 + 6) ((.int .i64 y.a)) (by simp)
        have x7 := hS.at (g) (k * 8 + 7) ((.int .i64 y.b)) (by simp)
        go_simp
        exact hK.out _ _ (Alters.refl _) rfl
      · intro u W hS hF
        have f3 : u 3 = .agg #[.int .i64 x.n.op, .string x.n.nm, .int .i64 x.n.cmp, .int .i64 x.n.val, .int .i64 x.n.lo, .int .i64 x.n.hi, .int .i64 x.a, .int .i64 x.b] := hF 3 (by simp)
        have f7 : u 7 = .agg #[.int .i64 y.n.op, .string y.n.nm, .int .i64 y.n.cmp, .int .i64 y.n.val, .int .i64 y.n.lo, .int .i64 y.n.hi, .int .i64 y.a, .int .i64 y.b] := hF 7 (by simp)
        clear hF
        have HS := Go.Lib.hid hS
        clear hS
        simp only [hF0, h0, h1, h2, h3, h4, h5, h6, h7, h8, h9, h10, h11, h12, h13, h14, h15, h16, h17, h18, h19, h20, h21, h22, h23, h24, h25, h26, h27, h28, h29, h30, h31, h32, h33, h34, h35, h36, h37, h38, h39, h40, h41, h51, h52, h53, h54, h55, h56, h57, h58, h59, h60, h61, h62, h63, h64, h65, h66, h67, h68, h69, h70, h71, h72, h73, h74, h75, h76, h77, h78, h79, h80, h81, h82, f3, f7]
        clear hF0 h0 h1 h2 h3 h4 h5 h6 h7 h8 h9 h10 h11 h12 h13 h14 h15 h16 h17 h18 h19 h20 h21 h22 h23 h24 h25 h26 h27 h28 h29 h30 h31 h32 h33 h34 h35 h36 h37 h38 h39 h40 h41 h51 h52 h53 h54 h55 h56 h57 h58 h59 h60 h61 h62 h63 h64 h65 h66 h67 h68 h69 h70 h71 h72 h73 h74 h75 h76 h77 h78 h79 h80 h81 h82 f3 f7
        go_simp
        rw [step_if HXY.out]
        replace HL := Go.Lib.hid (HL.out.keep HS.out.quiet)
        have a6 := HS.out.at (g) (k * 8 + 6) ((.int .i64 y.a)) (by simp)
        have a7 := HS.out.at (g) (k * 8 + 7) ((.int .i64 y.b)) (by simp)
        clear HS
        have hik := HIK.out
        have hlk := HLK.out
        have hlt := HLT.out
        cases b1 : (y.a == (i : Int))
        · cases b2 : (y.b == (i : Int))
          · rcases c with _ | _
            · go_wp2_with fail
              go_roundw
              case rel => exact ⟨_, k + 1, by omega, by omega, rfl, by go_num, named_step HK2.out HIK.out HC.out (by simp [b1, b2]), HL.out⟩
              case measure => simp [intOf]; omega
            · go_wp2_with fail
              go_roundw
              case rel => exact ⟨_, k + 1, by omega, by omega, rfl, by go_num, named_step HK2.out HIK.out HC.out (by simp [b1, b2]), HL.out⟩
              case measure => simp [intOf]; omega
          · rcases c with _ | _
            · go_wp2_with fail
              go_roundw
              case rel => exact ⟨_, k + 1, by omega, by omega, rfl, by go_num, named_step HK2.out HIK.out HC.out (by simp [b1, b2]), HL.out⟩
              case measure => simp [intOf]; omega
            · go_wp2_with fail
              go_roundw
              case rel => exact ⟨_, k + 1, by omega, by omega, rfl, by go_num, named_step HK2.out HIK.out HC.out (by simp [b1, b2]), HL.out⟩
              case measure => simp [intOf]; omega
        · cases b2 : (y.b == (i : Int))
          · rcases c with _ | _
            · go_wp2_with fail
              go_roundw
              case rel => exact ⟨_, k + 1, by omega, by omega, rfl, by go_num, named_step HK2.out HIK.out HC.out (by simp [b1, b2]), HL.out⟩
              case measure => simp [intOf]; omega
            · go_wp2_with fail
              go_roundw
              case rel => exact ⟨_, k + 1, by omega, by omega, rfl, by go_num, named_step HK2.out HIK.out HC.out (by simp [b1, b2]), HL.out⟩
              case measure => simp [intOf]; omega
          · rcases c with _ | _
            · go_wp2_with fail
              go_roundw
              case rel => exact ⟨_, k + 1, by omega, by omega, rfl, by go_num, named_step HK2.out HIK.out HC.out (by simp [b1, b2]), HL.out⟩
              case measure => simp [intOf]; omega
            · go_wp2_with fail
              go_roundw
              case rel => exact ⟨_, k + 1, by omega, by omega, rfl, by go_num, named_step HK2.out HIK.out HC.out (by simp [b1, b2]), HL.out⟩
              case measure => simp [intOf]; omega
end Go.Proofs.YtnpcakakjhiboaaDoor
