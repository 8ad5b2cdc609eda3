/- NormTells: the walk of the law. No condition. -/
import Derived.Test.YtnpcakakjhiboaaDoorLawAt
import Derived.Test.YtnpcakakjhiboaaDoorOpenF
import Derived.Test.YtnpcakakjhiboaaDoorAwake14
import Derived.Test.YtnpcakakjhiboaaDoorOf14
import Derived.Test.YtnpcakakjhiboaaDoorPlain
import Derived.Test.YtnpcakakjhiboaaDoorNodes8
namespace Go.Proofs.YtnpcakakjhiboaaDoor
open Go.RowKit Go.Lo Go.WideShapes

theorem normOf_size (f : Fm) (n : Nat) (h : f.size ≤ n) : (normOf f).size ≤ 4 * n + 1 := by
  unfold normOf
  split
  · rename_i hf
    have := made_size f ((first_zero f).1 hf)
    omega
  · rw [leaf_size]; omega

theorem left_size {t : Ft} {n : Int} (h : ¬ leftF (Ft.pl t) n ≤ 0) : (t.size : Int) ≤ n := by
  have := ((leftF_range (Ft.pl t) n).2.2 (by omega)).1
  rw [show (Ft.pl t).size = t.size from Tr.map_size _ _] at this
  omega

set_option maxRecDepth 100000 in
set_option maxHeartbeats 4000000 in
theorem normTells_walk (t : Ft) (w : World) (hin : In AllD w t) (_hw : ∀ n, n ∈ t.pre → n.top.n.wf) (hS : Shapes w) : Calls Tryd.prog 3 #[t.val] w (Said (.bool true) w) := by
  have HL := Go.Lib.hid ((LawAt.zero w hS).box 28 hin)
  clear hin hS
  unfold Ft.val
  go_enter Tryd.func3, Tryd.ntmps3
  go_wp2_with fail
  generalize w.alloc _ = w1 at *
  refine (awake_walk w1 HL.out.shapes).mono ?_
  rintro e w2 ⟨rfl, hq⟩
  replace HL := Go.Lib.hid (HL.out.keep hq)
  clear hq
  obtain ⟨x00, x01, x02, x03, x04, x05, x06⟩ := HL.out.seven (w.heap.size) 28 t (by simp)
  have HC := Go.Lib.hid (left_any AllD t 60 w2 (HL.out.inn (w.heap.size) 28 t (by simp)) (by decide))
  unfold Ft.val at HC
  go_wp2_with fail
  refine HC.out.mono ?_
  rintro e w3 ⟨rfl, hq⟩
  clear x00 x01 x02 x03 x04 x05 x06 HC
  replace HL := Go.Lib.hid (HL.out.keep hq)
  clear hq
  by_cases h0 : leftF (Ft.pl t) 60 ≤ 0
  · go_wp2
    go_ret
    exact ⟨rfl, HL.out.quiet⟩
  have hz := left_size h0
  have HZ : Hid (t.size ≤ 60) := by have := hz; exact Go.Lib.hid (by omega)
  clear hz
  obtain ⟨x00, x01, x02, x03, x04, x05, x06⟩ := HL.out.seven (w.heap.size) 28 t (by simp)
  have HC := Go.Lib.hid (plain_any AllD t (by have := HZ.out; omega) w3 (HL.out.inn (w.heap.size) 28 t (by simp)))
  unfold Ft.val at HC
  go_wp2_with fail
  refine HC.out.mono ?_
  rintro e w4 ⟨t5, rfl, hp, hi, hq⟩
  clear x00 x01 x02 x03 x04 x05 x06 HC
  replace HL := Go.Lib.hid (HL.out.keep hq)
  clear hq
  replace HL := Go.Lib.hid (HL.out.box 33 (t := t5) (hi.mono (fun _ _ _ => trivial)))
  have HPt5 : Hid (Ft.pl t5 = Ft.pl t) := hp
  clear hi hp
  unfold Ft.val
  go_upto_region 8 with (fail)
  generalize w4.alloc _ = w5 at *
  have HZ5 : Hid (t5.size ≤ 60) := by rw [size_of HPt5.out, show (Ft.pl t).size = t.size from Tr.map_size _ _]; exact HZ
  obtain ⟨x00, x01, x02, x03, x04, x05, x06⟩ := HL.out.seven (w4.heap.size) 33 t5 (by simp)
  have HC := Go.Lib.hid (of14_v AllD t5 w5 (HL.out.inn (w4.heap.size) 33 t5 (by simp)) (by have := HZ5.out; omega) allD)
  unfold Ft.val at HC
  go_wp2_with fail
  refine HC.out.mono ?_
  rintro e w6 ⟨v, rfl, ⟨t6, rfl, hp, hi⟩, hq⟩
  clear x00 x01 x02 x03 x04 x05 x06 HC
  replace HL := Go.Lib.hid (HL.out.keep hq)
  clear hq
  rw [HPt5.out] at hp
  replace HL := Go.Lib.hid (HL.out.box 33 (t := t6) (hi.mono (fun _ _ _ => trivial)))
  have HPt6 : Hid (Ft.pl t6 = normOf (Ft.pl t)) := hp
  clear hi hp
  unfold Ft.val
  go_upto_region 9 with (fail)
  generalize w6.alloc _ = w7 at *
  obtain ⟨x00, x01, x02, x03, x04, x05, x06⟩ := HL.out.seven (w.heap.size) 28 t (by simp)
  have HC := Go.Lib.hid (normOf_v AllD t w7 (HL.out.inn (w.heap.size) 28 t (by simp)) HL.out.shapes (by have := HZ.out; omega) allD)
  unfold Ft.val at HC
  go_wp2_with fail
  refine HC.out.mono ?_
  rintro e w8 ⟨v, rfl, ⟨t7, rfl, hp, hi⟩, hq⟩
  clear x00 x01 x02 x03 x04 x05 x06 HC
  replace HL := Go.Lib.hid (HL.out.keep hq)
  clear hq
  replace HL := Go.Lib.hid (HL.out.box 28 (t := t7) (hi.mono (fun _ _ _ => trivial)))
  have HPt7 : Hid (Ft.pl t7 = normOf (Ft.pl t)) := hp
  clear hi hp
  unfold Ft.val
  go_upto_region 10 with (fail)
  generalize w8.alloc _ = w9 at *
  have HZ7 : Hid (t7.size ≤ 241) := by rw [size_of HPt7.out]; exact normOf_size _ 60 (by rw [show (Ft.pl t).size = t.size from Tr.map_size _ _]; exact HZ.out)
  by_cases hf : first (Ft.pl t) = 0
  · have HF := Go.Lib.hid hf
    have HCO : Hid (core (Ft.pl t) = same (Ft.pl t) (normOf (Ft.pl t))) := Go.Lib.hid (by unfold core; rw [hf]; simp)
    clear hf
    refine wp_region_wants (by kernel_rfl) (by kernel_rfl) (by kernel_rfl) (by kernel_rfl) (LawAt w [(w8.heap.size, 28, t7), (w6.heap.size, 33, t6), (w4.heap.size, 33, t5), (w.heap.size, 28, t)] []) (fun _ _ hq h => h.keep hq) [Want.is (Ft.val t7), Want.fm AllD (normOf (Ft.pl t)), Want.is (Ft.val t6), Want.is (.bool true), Want.is (.bool true), Want.is (Ft.val t), Want.is (.bool (core (Ft.pl t))), Want.is (Ft.val t5), Want.is (.int .i64 0), Want.is (.bool true), Want.is (.bool true), Want.is (Ft.val t5), Want.is (Ft.val t6), Want.is (.bool (core (Ft.pl t))), Want.is (.bool (core (Ft.pl t))), Want.is (.bool true), Want.is (.bool true)] (HL.out.keep ((Alters.refl _).drew)) (by decide) ?_
    refine Steps.cons ?_ (Steps.cons ?_ (Steps.cons ?_ (Steps.cons ?_ (Steps.cons ?_ (Steps.cons ?_ (Steps.cons ?_ (Steps.cons ?_ (Steps.cons ?_ (Steps.cons ?_ (Steps.cons ?_ (Steps.cons ?_ (Steps.cons ?_ (Steps.cons ?_ (Steps.cons ?_ (Steps.cons ?_ (Steps.cons ?_ (Steps.last ?_)))))))))))))))))
    · intro u W K hS hF hK
      simp only [putsFrom, Act.put, Nat.reduceAdd, List.setIfInBounds_toArray, List.set_cons_zero, List.set_cons_succ] at hK ⊢
      clear hF
      obtain ⟨x0, x1, x2, x3, x4, x5, x6⟩ := hS.seven (w8.heap.size) 28 t7 (by simp)
      go_simp
      exact hK.out _ _ (Alters.refl _) rfl
    · intro u W K hS hF hK
      have f0 : u 0 = Ft.val t7 := hF 0 (by kernel_rfl)
      simp only [putsFrom, Act.put, Nat.reduceAdd, List.setIfInBounds_toArray, List.set_cons_zero, List.set_cons_succ, f0] at hK ⊢
      clear hF
      go_simp
      refine (plain_any AllD t7 (by have := HZ7.out; omega) W (hS.inn (w8.heap.size) 28 t7 (by simp))).mono ?_
      rintro e W2 ⟨t9, rfl, hp9, hi9, hq⟩
      exact hK.out _ _ hq ⟨t9, rfl, by rw [hp9, HPt7.out], hi9.mono (fun _ _ _ => trivial)⟩
    · intro u W K hS hF hK
      simp only [putsFrom, Act.put, Nat.reduceAdd, List.setIfInBounds_toArray, List.set_cons_zero, List.set_cons_succ] at hK ⊢
      clear hF
      obtain ⟨x0, x1, x2, x3, x4, x5, x6⟩ := hS.seven (w6.heap.size) 33 t6 (by simp)
      go_simp
      exact hK.out _ _ (Alters.refl _) rfl
    · intro u W K hS hF hK
      have f1 : MadeIn AllD (normOf (Ft.pl t)) (u 1) W := hF 1 (by kernel_rfl)
      have f2 : u 2 = Ft.val t6 := hF 2 (by kernel_rfl)
      simp only [putsFrom, Act.put, Nat.reduceAdd, List.setIfInBounds_toArray, List.set_cons_zero, List.set_cons_succ, f2] at hK ⊢
      clear hF
      obtain ⟨ta, ea, hpa, hia⟩ := f1
      simp only [ea] at hK ⊢
      go_simp
      refine (same8_any AllD ta t6 W hia (hS.inn (w6.heap.size) 33 t6 (by simp))).mono ?_
      rintro e W2 ⟨rfl, hq⟩
      exact hK.out _ _ hq (show Value.bool (same (Ft.pl ta) (Ft.pl t6)) = .bool true by rw [hpa, HPt6.out, same_self])
    · intro u W K hS hF hK
      have f3 : u 3 = .bool true := hF 3 (by kernel_rfl)
      simp only [putsFrom, Act.put, Nat.reduceAdd, List.setIfInBounds_toArray, List.set_cons_zero, List.set_cons_succ, f3] at hK ⊢
      clear hF
      go_simp
      exact hK.out _ _ (Alters.refl _) rfl
    · intro u W K hS hF hK
      have f4 : u 4 = .bool true := hF 4 (by kernel_rfl)
      simp only [putsFrom, Act.put, Nat.reduceAdd, List.setIfInBounds_toArray, List.set_cons_zero, List.set_cons_succ, f4] at hK ⊢
      clear hF
      obtain ⟨x0, x1, x2, x3, x4, x5, x6⟩ := hS.seven (w.heap.size) 28 t (by simp)
      go_simp
      exact hK.out _ _ (Alters.refl _) rfl
    · intro u W K hS hF hK
      have f4 : u 4 = .bool true := hF 4 (by kernel_rfl)
      have f5 : u 5 = Ft.val t := hF 5 (by kernel_rfl)
      simp only [putsFrom, Act.put, Nat.reduceAdd, List.setIfInBounds_toArray, List.set_cons_zero, List.set_cons_succ, f4, f5] at hK ⊢
      clear hF
      go_simp
      refine (core_walk AllD t W (hS.inn (w.heap.size) 28 t (by simp)) hS.shapes (by have := HZ.out; omega)).mono ?_
      rintro e W2 ⟨rfl, hq⟩
      exact hK.out _ _ hq rfl
    · intro u W K hS hF hK
      have f4 : u 4 = .bool true := hF 4 (by kernel_rfl)
      simp only [putsFrom, Act.put, Nat.reduceAdd, List.setIfInBounds_toArray, List.set_cons_zero, List.set_cons_succ, f4] at hK ⊢
      clear hF
      obtain ⟨x0, x1, x2, x3, x4, x5, x6⟩ := hS.seven (w4.heap.size) 33 t5 (by simp)
      go_simp
      exact hK.out _ _ (Alters.refl _) rfl
    · intro u W K hS hF hK
      have f4 : u 4 = .bool true := hF 4 (by kernel_rfl)
      have f7 : u 7 = Ft.val t5 := hF 7 (by kernel_rfl)
      simp only [putsFrom, Act.put, Nat.reduceAdd, List.setIfInBounds_toArray, List.set_cons_zero, List.set_cons_succ, f4, f7] at hK ⊢
      clear hF
      go_simp
      refine (first8_walk AllD t5 (by have := HZ5.out; omega) W (hS.inn (w4.heap.size) 33 t5 (by simp))).mono ?_
      rintro e W2 ⟨rfl, hq⟩
      exact hK.out _ _ hq (show Value.int .i64 (first (Ft.pl t5)) = .int .i64 0 by rw [HPt5.out, HF.out])
    · intro u W K hS hF hK
      have f4 : u 4 = .bool true := hF 4 (by kernel_rfl)
      have f8 : u 8 = .int .i64 0 := hF 8 (by kernel_rfl)
      simp only [putsFrom, Act.put, Nat.reduceAdd, List.setIfInBounds_toArray, List.set_cons_zero, List.set_cons_succ, f4, f8] at hK ⊢
      clear hF
      go_simp
      exact hK.out _ _ (Alters.refl _) rfl
    · intro u W K hS hF hK
      have f4 : u 4 = .bool true := hF 4 (by kernel_rfl)
      have f9 : u 9 = .bool true := hF 9 (by kernel_rfl)
      simp only [putsFrom, Act.put, Nat.reduceAdd, List.setIfInBounds_toArray, List.set_cons_zero, List.set_cons_succ, f4, f9] at hK ⊢
      clear hF
      go_simp
      exact hK.out _ _ (Alters.refl _) rfl
    · intro u W K hS hF hK
      have f10 : u 10 = .bool true := hF 10 (by kernel_rfl)
      simp only [putsFrom, Act.put, Nat.reduceAdd, List.setIfInBounds_toArray, List.set_cons_zero, List.set_cons_succ, f10] at hK ⊢
      clear hF
      obtain ⟨x0, x1, x2, x3, x4, x5, x6⟩ := hS.seven (w4.heap.size) 33 t5 (by simp)
      go_simp
      exact hK.out _ _ (Alters.refl _) rfl
    · intro u W K hS hF hK
      have f10 : u 10 = .bool true := hF 10 (by kernel_rfl)
      simp only [putsFrom, Act.put, Nat.reduceAdd, List.setIfInBounds_toArray, List.set_cons_zero, List.set_cons_succ, f10] at hK ⊢
      clear hF
      obtain ⟨x0, x1, x2, x3, x4, x5, x6⟩ := hS.seven (w6.heap.size) 33 t6 (by simp)
      go_simp
      exact hK.out _ _ (Alters.refl _) rfl
    · intro u W K hS hF hK
      have f10 : u 10 = .bool true := hF 10 (by kernel_rfl)
      have f11 : u 11 = Ft.val t5 := hF 11 (by kernel_rfl)
      have f12 : u 12 = Ft.val t6 := hF 12 (by kernel_rfl)
      simp only [putsFrom, Act.put, Nat.reduceAdd, List.setIfInBounds_toArray, List.set_cons_zero, List.set_cons_succ, f10, f11, f12] at hK ⊢
      clear hF
      go_simp
      refine (same8_any AllD t5 t6 W (hS.inn (w4.heap.size) 33 t5 (by simp)) (hS.inn (w6.heap.size) 33 t6 (by simp))).mono ?_
      rintro e W2 ⟨rfl, hq⟩
      exact hK.out _ _ hq (show Value.bool (same (Ft.pl t5) (Ft.pl t6)) = .bool (core (Ft.pl t)) by rw [HPt5.out, HPt6.out, HCO.out])
    · intro u W K hS hF hK
      have f4 : u 4 = .bool true := hF 4 (by kernel_rfl)
      have f10 : u 10 = .bool true := hF 10 (by kernel_rfl)
      have f13 : u 13 = .bool (core (Ft.pl t)) := hF 13 (by kernel_rfl)
      simp only [putsFrom, Act.put, Nat.reduceAdd, List.setIfInBounds_toArray, List.set_cons_zero, List.set_cons_succ, f4, f10, f13] at hK ⊢
      clear hF
      go_simp
      exact hK.out _ _ (Alters.refl _) rfl
    · intro u W K hS hF hK
      have f4 : u 4 = .bool true := hF 4 (by kernel_rfl)
      have f6 : u 6 = .bool (core (Ft.pl t)) := hF 6 (by kernel_rfl)
      have f14 : u 14 = .bool (core (Ft.pl t)) := hF 14 (by kernel_rfl)
      simp only [putsFrom, Act.put, Nat.reduceAdd, List.setIfInBounds_toArray, List.set_cons_zero, List.set_cons_succ, f4, f6, f14] at hK ⊢
      clear hF
      go_simp
      exact hK.out _ _ (Alters.refl _) rfl
    · intro u W K hS hF hK
      have f4 : u 4 = .bool true := hF 4 (by kernel_rfl)
      have f15 : u 15 = .bool true := hF 15 (by kernel_rfl)
      simp only [putsFrom, Act.put, Nat.reduceAdd, List.setIfInBounds_toArray, List.set_cons_zero, List.set_cons_succ, f4, f15] at hK ⊢
      clear hF
      go_simp
      exact hK.out _ _ (Alters.refl _) rfl
    · intro u W hS hF
      have f16 : u 16 = .bool true := hF 16 (by simp)
      simp only [putsFrom, Act.put, Nat.reduceAdd, List.setIfInBounds_toArray, List.set_cons_zero, List.set_cons_succ, f16]
      clear hF f16
      have HS := Go.Lib.hid hS
      clear hS
      go_simp
      go_wp2
      go_ret
      exact ⟨rfl, HS.out.quiet⟩
  
  · have HCO : Hid (core (Ft.pl t) = false) := Go.Lib.hid (by unfold core; simp [hf])
    have b1 : (first (Ft.pl t) == 0) = false := by simpa using hf
    obtain ⟨F0, hF0⟩ : ∃ n, n = first (Ft.pl t) := ⟨_, rfl⟩
    rw [← hF0] at b1 hf
    have HF : Hid (first (Ft.pl t) = F0) := Go.Lib.hid hF0.symm
    clear hf hF0
    refine wp_region_wants (by kernel_rfl) (by kernel_rfl) (by kernel_rfl) (by kernel_rfl) (LawAt w [(w8.heap.size, 28, t7), (w6.heap.size, 33, t6), (w4.heap.size, 33, t5), (w.heap.size, 28, t)] []) (fun _ _ hq h => h.keep hq) [Want.is (Ft.val t7), Want.fm AllD (normOf (Ft.pl t)), Want.is (Ft.val t6), Want.is (.bool true), Want.is (.bool true), Want.is (Ft.val t), Want.is (.bool false), Want.is (Ft.val t5), Want.is (.int .i64 F0), Want.is (.bool false), Want.is (.bool false), Want.any, Want.any, Want.any, Want.is (.bool false), Want.is (.bool true), Want.is (.bool true)] (HL.out.keep ((Alters.refl _).drew)) (by decide) ?_
    refine Steps.cons ?_ (Steps.cons ?_ (Steps.cons ?_ (Steps.cons ?_ (Steps.cons ?_ (Steps.cons ?_ (Steps.cons ?_ (Steps.cons ?_ (Steps.cons ?_ (Steps.cons ?_ (Steps.cons ?_ (Steps.cons ?_ (Steps.cons ?_ (Steps.cons ?_ (Steps.cons ?_ (Steps.cons ?_ (Steps.cons ?_ (Steps.last ?_)))))))))))))))))
    · intro u W K hS hF hK
      simp only [putsFrom, Act.put, Nat.reduceAdd, List.setIfInBounds_toArray, List.set_cons_zero, List.set_cons_succ] at hK ⊢
      clear hF
      obtain ⟨x0, x1, x2, x3, x4, x5, x6⟩ := hS.seven (w8.heap.size) 28 t7 (by simp)
      go_simp
      exact hK.out _ _ (Alters.refl _) rfl
    · intro u W K hS hF hK
      have f0 : u 0 = Ft.val t7 := hF 0 (by kernel_rfl)
      simp only [putsFrom, Act.put, Nat.reduceAdd, List.setIfInBounds_toArray, List.set_cons_zero, List.set_cons_succ, f0] at hK ⊢
      clear hF
      go_simp
      refine (plain_any AllD t7 (by have := HZ7.out; omega) W (hS.inn (w8.heap.size) 28 t7 (by simp))).mono ?_
      rintro e W2 ⟨t9, rfl, hp9, hi9, hq⟩
      exact hK.out _ _ hq ⟨t9, rfl, by rw [hp9, HPt7.out], hi9.mono (fun _ _ _ => trivial)⟩
    · intro u W K hS hF hK
      simp only [putsFrom, Act.put, Nat.reduceAdd, List.setIfInBounds_toArray, List.set_cons_zero, List.set_cons_succ] at hK ⊢
      clear hF
      obtain ⟨x0, x1, x2, x3, x4, x5, x6⟩ := hS.seven (w6.heap.size) 33 t6 (by simp)
      go_simp
      exact hK.out _ _ (Alters.refl _) rfl
    · intro u W K hS hF hK
      have f1 : MadeIn AllD (normOf (Ft.pl t)) (u 1) W := hF 1 (by kernel_rfl)
      have f2 : u 2 = Ft.val t6 := hF 2 (by kernel_rfl)
      simp only [putsFrom, Act.put, Nat.reduceAdd, List.setIfInBounds_toArray, List.set_cons_zero, List.set_cons_succ, f2] at hK ⊢
      clear hF
      obtain ⟨ta, ea, hpa, hia⟩ := f1
      simp only [ea] at hK ⊢
      go_simp
      refine (same8_any AllD ta t6 W hia (hS.inn (w6.heap.size) 33 t6 (by simp))).mono ?_
      rintro e W2 ⟨rfl, hq⟩
      exact hK.out _ _ hq (show Value.bool (same (Ft.pl ta) (Ft.pl t6)) = .bool true by rw [hpa, HPt6.out, same_self])
    · intro u W K hS hF hK
      have f3 : u 3 = .bool true := hF 3 (by kernel_rfl)
      simp only [putsFrom, Act.put, Nat.reduceAdd, List.setIfInBounds_toArray, List.set_cons_zero, List.set_cons_succ, f3] at hK ⊢
      clear hF
      go_simp
      exact hK.out _ _ (Alters.refl _) rfl
    · intro u W K hS hF hK
      have f4 : u 4 = .bool true := hF 4 (by kernel_rfl)
      simp only [putsFrom, Act.put, Nat.reduceAdd, List.setIfInBounds_toArray, List.set_cons_zero, List.set_cons_succ, f4] at hK ⊢
      clear hF
      obtain ⟨x0, x1, x2, x3, x4, x5, x6⟩ := hS.seven (w.heap.size) 28 t (by simp)
      go_simp
      exact hK.out _ _ (Alters.refl _) rfl
    · intro u W K hS hF hK
      have f4 : u 4 = .bool true := hF 4 (by kernel_rfl)
      have f5 : u 5 = Ft.val t := hF 5 (by kernel_rfl)
      simp only [putsFrom, Act.put, Nat.reduceAdd, List.setIfInBounds_toArray, List.set_cons_zero, List.set_cons_succ, f4, f5] at hK ⊢
      clear hF
      go_simp
      refine (core_walk AllD t W (hS.inn (w.heap.size) 28 t (by simp)) hS.shapes (by have := HZ.out; omega)).mono ?_
      rintro e W2 ⟨rfl, hq⟩
      exact hK.out _ _ hq (show Value.bool (core (Ft.pl t)) = .bool false by rw [HCO.out])
    · intro u W K hS hF hK
      have f4 : u 4 = .bool true := hF 4 (by kernel_rfl)
      simp only [putsFrom, Act.put, Nat.reduceAdd, List.setIfInBounds_toArray, List.set_cons_zero, List.set_cons_succ, f4] at hK ⊢
      clear hF
      obtain ⟨x0, x1, x2, x3, x4, x5, x6⟩ := hS.seven (w4.heap.size) 33 t5 (by simp)
      go_simp
      exact hK.out _ _ (Alters.refl _) rfl
    · intro u W K hS hF hK
      have f4 : u 4 = .bool true := hF 4 (by kernel_rfl)
      have f7 : u 7 = Ft.val t5 := hF 7 (by kernel_rfl)
      simp only [putsFrom, Act.put, Nat.reduceAdd, List.setIfInBounds_toArray, List.set_cons_zero, List.set_cons_succ, f4, f7] at hK ⊢
      clear hF
      go_simp
      refine (first8_walk AllD t5 (by have := HZ5.out; omega) W (hS.inn (w4.heap.size) 33 t5 (by simp))).mono ?_
      rintro e W2 ⟨rfl, hq⟩
      exact hK.out _ _ hq (show Value.int .i64 (first (Ft.pl t5)) = .int .i64 F0 by rw [HPt5.out, HF.out])
    · intro u W K hS hF hK
      have f4 : u 4 = .bool true := hF 4 (by kernel_rfl)
      have f8 : u 8 = .int .i64 F0 := hF 8 (by kernel_rfl)
      simp only [putsFrom, Act.put, Nat.reduceAdd, List.setIfInBounds_toArray, List.set_cons_zero, List.set_cons_succ, f4, f8] at hK ⊢
      clear hF
      go_simp
      exact hK.out _ _ (Alters.refl _) rfl
    · intro u W K hS hF hK
      have f4 : u 4 = .bool true := hF 4 (by kernel_rfl)
      have f9 : u 9 = .bool false := hF 9 (by kernel_rfl)
      simp only [putsFrom, Act.put, Nat.reduceAdd, List.setIfInBounds_toArray, List.set_cons_zero, List.set_cons_succ, f4, f9] at hK ⊢
      clear hF
      go_simp
      exact hK.out _ _ (Alters.refl _) rfl
    · intro u W K hS hF hK
      have f10 : u 10 = .bool false := hF 10 (by kernel_rfl)
      simp only [putsFrom, Act.put, Nat.reduceAdd, List.setIfInBounds_toArray, List.set_cons_zero, List.set_cons_succ, f10] at hK ⊢
      clear hF
      go_simp
      exact hK.out _ _ (Alters.refl _) trivial
    · intro u W K hS hF hK
      have f10 : u 10 = .bool false := hF 10 (by kernel_rfl)
      simp only [putsFrom, Act.put, Nat.reduceAdd, List.setIfInBounds_toArray, List.set_cons_zero, List.set_cons_succ, f10] at hK ⊢
      clear hF
      go_simp
      exact hK.out _ _ (Alters.refl _) trivial
    · intro u W K hS hF hK
      have f10 : u 10 = .bool false := hF 10 (by kernel_rfl)
      simp only [putsFrom, Act.put, Nat.reduceAdd, List.setIfInBounds_toArray, List.set_cons_zero, List.set_cons_succ, f10] at hK ⊢
      clear hF
      go_simp
      exact hK.out _ _ (Alters.refl _) trivial
    · intro u W K hS hF hK
      have f4 : u 4 = .bool true := hF 4 (by kernel_rfl)
      have f10 : u 10 = .bool false := hF 10 (by kernel_rfl)
      simp only [putsFrom, Act.put, Nat.reduceAdd, List.setIfInBounds_toArray, List.set_cons_zero, List.set_cons_succ, f4, f10] at hK ⊢
      clear hF
      go_simp
      exact hK.out _ _ (Alters.refl _) rfl
    · intro u W K hS hF hK
      have f4 : u 4 = .bool true := hF 4 (by kernel_rfl)
      have f6 : u 6 = .bool false := hF 6 (by kernel_rfl)
      have f14 : u 14 = .bool false := hF 14 (by kernel_rfl)
      simp only [putsFrom, Act.put, Nat.reduceAdd, List.setIfInBounds_toArray, List.set_cons_zero, List.set_cons_succ, f4, f6, f14] at hK ⊢
      clear hF
      go_simp
      exact hK.out _ _ (Alters.refl _) rfl
    · intro u W K hS hF hK
      have f4 : u 4 = .bool true := hF 4 (by kernel_rfl)
      have f15 : u 15 = .bool true := hF 15 (by kernel_rfl)
      simp only [putsFrom, Act.put, Nat.reduceAdd, List.setIfInBounds_toArray, List.set_cons_zero, List.set_cons_succ, f4, f15] at hK ⊢
      clear hF
      go_simp
      exact hK.out _ _ (Alters.refl _) rfl
    · intro u W hS hF
      have f16 : u 16 = .bool true := hF 16 (by simp)
      simp only [putsFrom, Act.put, Nat.reduceAdd, List.setIfInBounds_toArray, List.set_cons_zero, List.set_cons_succ, f16]
      clear hF f16
      have HS := Go.Lib.hid hS
      clear hS
      go_simp
      go_wp2
      go_ret
      exact ⟨rfl, HS.out.quiet⟩
end Go.Proofs.YtnpcakakjhiboaaDoor
