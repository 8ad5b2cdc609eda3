/- NormCore: the walk of the law. No condition. -/
import Derived.Test.YtnpcakakjhiboaaDoorNormTells
import Derived.Test.YtnpcakakjhiboaaDoorBare33
namespace Go.Proofs.YtnpcakakjhiboaaDoor
open Go.RowKit Go.Lo Go.WideShapes

set_option maxRecDepth 100000 in
set_option maxHeartbeats 4000000 in
theorem normCore_walk (t : Ft) (w : World) (hin : In AllD w t) (_hw : ∀ n, n ∈ t.pre → n.top.n.wf) (hS : Shapes w) : Calls Tryd.prog 4 #[t.val] w (Said (.bool true) w) := by
  have HL := Go.Lib.hid ((LawAt.zero w hS).box 28 hin)
  clear hin hS
  unfold Ft.val
  go_enter Tryd.func4, Tryd.ntmps4
  go_wp2_with fail
  generalize w.alloc _ = w1 at *
  refine (awake_walk w1 HL.out.shapes).mono ?_
  rintro e w2 ⟨rfl, hq⟩
  replace HL := Go.Lib.hid (HL.out.keep hq)
  clear hq
  obtain ⟨x00, x01, x02, x03, x04, x05, x06⟩ := HL.out.seven (w.heap.size) 28 t (by simp)
  have HC := Go.Lib.hid (left_any AllD t 60 w2 (HL.out.inn (w.heap.size) 28 t (by simp)) (by decide))
  unfold Ft.val at HC
  go_wp2_with fail
  refine HC.out.mono ?_
  rintro e w3 ⟨rfl, hq⟩
  clear x00 x01 x02 x03 x04 x05 x06 HC
  replace HL := Go.Lib.hid (HL.out.keep hq)
  clear hq
  by_cases h0 : leftF (Ft.pl t) 60 ≤ 0
  · go_wp2_with fail
    go_ret
    exact ⟨rfl, HL.out.quiet⟩
  have hz := left_size h0
  have HZ : Hid (t.size ≤ 60) := by have := hz; exact Go.Lib.hid (by omega)
  clear hz
  obtain ⟨x00, x01, x02, x03, x04, x05, x06⟩ := HL.out.seven (w.heap.size) 28 t (by simp)
  have HC := Go.Lib.hid (sound_walk AllD t w3 (HL.out.inn (w.heap.size) 28 t (by simp)) HL.out.shapes (by have := HZ.out; omega))
  by_cases hf : first (Ft.pl t) = 0
  rotate_left
  · rw [show decide (first (Ft.pl t) = 0) = false by simpa using hf] at HC
    unfold Ft.val at HC
    go_wp2_with fail
    refine HC.out.mono ?_
    rintro e w4 ⟨rfl, hq⟩
    clear x00 x01 x02 x03 x04 x05 x06 HC
    replace HL := Go.Lib.hid (HL.out.keep hq)
    clear hq
    go_wp2_with fail
    go_ret
    exact ⟨rfl, HL.out.quiet⟩
  rw [show decide (first (Ft.pl t) = 0) = true by simpa using hf] at HC
  unfold Ft.val at HC
  have hsd := (first_zero _).1 hf
  have HN := Go.Lib.hid (normOf_nf hsd)
  have HT := Go.Lib.hid (normOf_twice hsd)
  clear hf hsd
  go_wp2_with fail
  refine HC.out.mono ?_
  rintro e w4 ⟨rfl, hq⟩
  clear x00 x01 x02 x03 x04 x05 x06 HC
  replace HL := Go.Lib.hid (HL.out.keep hq)
  clear hq
  obtain ⟨x00, x01, x02, x03, x04, x05, x06⟩ := HL.out.seven (w.heap.size) 28 t (by simp)
  have HC := Go.Lib.hid (normOf_v AllD t w4 (HL.out.inn (w.heap.size) 28 t (by simp)) HL.out.shapes (by have := HZ.out; omega) allD)
  unfold Ft.val at HC
  go_wp2_with fail
  refine HC.out.mono ?_
  rintro e w5 ⟨v, rfl, ⟨t5, rfl, hp, hi⟩, hq⟩
  clear x00 x01 x02 x03 x04 x05 x06 HC
  replace HL := Go.Lib.hid (HL.out.keep hq)
  clear hq
  replace HL := Go.Lib.hid (HL.out.box 28 (t := t5) (hi.mono (fun _ _ _ => trivial)))
  have HPt5 : Hid (Ft.pl t5 = normOf (Ft.pl t)) := hp
  clear hi hp
  unfold Ft.val
  go_upto_region 8 with (fail)
  generalize w5.alloc _ = w6 at *
  have HZ5 : Hid (t5.size ≤ 241) := by rw [size_of HPt5.out]; exact normOf_size _ 60 (by rw [show (Ft.pl t).size = t.size from Tr.map_size _ _]; exact HZ.out)
  obtain ⟨x00, x01, x02, x03, x04, x05, x06⟩ := HL.out.seven (w5.heap.size) 28 t5 (by simp)
  have hop : t5.top.n.op ≠ 6 ∧ t5.top.n.op ≠ 7 ∧ t5.top.n.op ≠ 10 ∧ t5.top.n.op ≠ 12 := by
    rw [← pl_op2, HPt5.out]
    have := HN.out.ops
    omega
  obtain ⟨n6, n7, n10, n12⟩ := hop
  have b6 : (t5.top.n.op == 6) = false := by simpa using n6
  have b7 : (t5.top.n.op == 7) = false := by simpa using n7
  have b10 : (t5.top.n.op == 10) = false := by simpa using n10
  have b12 : (t5.top.n.op == 12) = false := by simpa using n12
  clear n6 n7 n10 n12
  go_upto_region 10 with (fail)
  clear x00 x01 x02 x03 x04 x05 x06 b6 b7 b10 b12
  refine wp_region_wants (by kernel_rfl) (by kernel_rfl) (by kernel_rfl) (by kernel_rfl) (LawAt w [(w5.heap.size, 28, t5), (w.heap.size, 28, t)] []) (fun _ _ hq h => h.keep hq) [Want.is (Ft.val t5), Want.is (.bool true), Want.is (.bool true), Want.is (Ft.val t5), Want.is (.bool true), Want.is (.bool true), Want.is (.bool true), Want.is (Ft.val t5), Want.fm AllD (normOf (Ft.pl t)), Want.is (Ft.val t5), Want.is (.bool true), Want.is (.bool true), Want.is (.bool true), Want.is (Ft.val t5), Want.is (.bool true), Want.is (.bool true)] (HL.out.keep ((Alters.refl _).drew)) (by decide) ?_
  refine Steps.cons ?_ (Steps.cons ?_ (Steps.cons ?_ (Steps.cons ?_ (Steps.cons ?_ (Steps.cons ?_ (Steps.cons ?_ (Steps.cons ?_ (Steps.cons ?_ (Steps.cons ?_ (Steps.cons ?_ (Steps.cons ?_ (Steps.cons ?_ (Steps.cons ?_ (Steps.cons ?_ (Steps.cons ?_ (Steps.last ?_))))))))))))))))
  · intro u W K hS hF hK
    simp only [putsFrom, Act.put, Nat.reduceAdd, List.setIfInBounds_toArray, List.set_cons_zero, List.set_cons_succ] at hK ⊢
    clear hF
    obtain ⟨x0, x1, x2, x3, x4, x5, x6⟩ := hS.seven (w5.heap.size) 28 t5 (by simp)
    go_simp
    exact hK.out _ _ (Alters.refl _) rfl
  · intro u W K hS hF hK
    have f0 : u 0 = Ft.val t5 := hF 0 (by kernel_rfl)
    simp only [putsFrom, Act.put, Nat.reduceAdd, List.setIfInBounds_toArray, List.set_cons_zero, List.set_cons_succ, f0] at hK ⊢
    clear hF
    go_simp
    refine (sound_walk AllD t5 W (hS.inn (w5.heap.size) 28 t5 (by simp)) hS.shapes (by have := HZ5.out; omega)).mono ?_
    rintro e W2 ⟨rfl, hq⟩
    exact hK.out _ _ hq (show Value.bool (decide (first (Ft.pl t5) = 0)) = .bool true by rw [HPt5.out, (first_zero _).2 HN.out.sound]; rfl)
  · intro u W K hS hF hK
    have f1 : u 1 = .bool true := hF 1 (by kernel_rfl)
    simp only [putsFrom, Act.put, Nat.reduceAdd, List.setIfInBounds_toArray, List.set_cons_zero, List.set_cons_succ, f1] at hK ⊢
    clear hF
    go_simp
    exact hK.out _ _ (Alters.refl _) rfl
  · intro u W K hS hF hK
    have f2 : u 2 = .bool true := hF 2 (by kernel_rfl)
    simp only [putsFrom, Act.put, Nat.reduceAdd, List.setIfInBounds_toArray, List.set_cons_zero, List.set_cons_succ, f2] at hK ⊢
    clear hF
    obtain ⟨x0, x1, x2, x3, x4, x5, x6⟩ := hS.seven (w5.heap.size) 28 t5 (by simp)
    go_simp
    exact hK.out _ _ (Alters.refl _) rfl
  · intro u W K hS hF hK
    have f2 : u 2 = .bool true := hF 2 (by kernel_rfl)
    have f3 : u 3 = Ft.val t5 := hF 3 (by kernel_rfl)
    simp only [putsFrom, Act.put, Nat.reduceAdd, List.setIfInBounds_toArray, List.set_cons_zero, List.set_cons_succ, f2, f3] at hK ⊢
    clear hF
    go_simp
    refine (core_walk AllD t5 W (hS.inn (w5.heap.size) 28 t5 (by simp)) hS.shapes (by have := HZ5.out; omega)).mono ?_
    rintro e W2 ⟨rfl, hq⟩
    exact hK.out _ _ hq (show Value.bool (core (Ft.pl t5)) = .bool true by rw [HPt5.out, HN.out.core])
  · intro u W K hS hF hK
    have f2 : u 2 = .bool true := hF 2 (by kernel_rfl)
    have f4 : u 4 = .bool true := hF 4 (by kernel_rfl)
    simp only [putsFrom, Act.put, Nat.reduceAdd, List.setIfInBounds_toArray, List.set_cons_zero, List.set_cons_succ, f2, f4] at hK ⊢
    clear hF
    go_simp
    exact hK.out _ _ (Alters.refl _) rfl
  · intro u W K hS hF hK
    have f5 : u 5 = .bool true := hF 5 (by kernel_rfl)
    simp only [putsFrom, Act.put, Nat.reduceAdd, List.setIfInBounds_toArray, List.set_cons_zero, List.set_cons_succ, f5] at hK ⊢
    clear hF
    go_simp
    exact hK.out _ _ (Alters.refl _) rfl
  · intro u W K hS hF hK
    have f6 : u 6 = .bool true := hF 6 (by kernel_rfl)
    simp only [putsFrom, Act.put, Nat.reduceAdd, List.setIfInBounds_toArray, List.set_cons_zero, List.set_cons_succ, f6] at hK ⊢
    clear hF
    obtain ⟨x0, x1, x2, x3, x4, x5, x6⟩ := hS.seven (w5.heap.size) 28 t5 (by simp)
    go_simp
    exact hK.out _ _ (Alters.refl _) rfl
  · intro u W K hS hF hK
    have f6 : u 6 = .bool true := hF 6 (by kernel_rfl)
    have f7 : u 7 = Ft.val t5 := hF 7 (by kernel_rfl)
    simp only [putsFrom, Act.put, Nat.reduceAdd, List.setIfInBounds_toArray, List.set_cons_zero, List.set_cons_succ, f6, f7] at hK ⊢
    clear hF
    go_simp
    refine (normOf_v AllD t5 W (hS.inn (w5.heap.size) 28 t5 (by simp)) hS.shapes (by have := HZ5.out; omega) allD).mono ?_
    rintro e W2 ⟨v, rfl, hm, hq⟩
    rw [HPt5.out, HT.out] at hm
    exact hK.out _ _ hq hm
  · intro u W K hS hF hK
    have f6 : u 6 = .bool true := hF 6 (by kernel_rfl)
    simp only [putsFrom, Act.put, Nat.reduceAdd, List.setIfInBounds_toArray, List.set_cons_zero, List.set_cons_succ, f6] at hK ⊢
    clear hF
    obtain ⟨x0, x1, x2, x3, x4, x5, x6⟩ := hS.seven (w5.heap.size) 28 t5 (by simp)
    go_simp
    exact hK.out _ _ (Alters.refl _) rfl
  · intro u W K hS hF hK
    have f6 : u 6 = .bool true := hF 6 (by kernel_rfl)
    have f8 : MadeIn AllD (normOf (Ft.pl t)) (u 8) W := hF 8 (by kernel_rfl)
    have f9 : u 9 = Ft.val t5 := hF 9 (by kernel_rfl)
    simp only [putsFrom, Act.put, Nat.reduceAdd, List.setIfInBounds_toArray, List.set_cons_zero, List.set_cons_succ, f6, f9] at hK ⊢
    clear hF
    obtain ⟨ta, ea, hpa, hia⟩ := f8
    simp only [ea] at hK ⊢
    go_simp
    refine (same9_walk AllD ta t5 W hia (hS.inn (w5.heap.size) 28 t5 (by simp)) (by rw [size_of hpa, ← HPt5.out, show (Ft.pl t5).size = t5.size from Tr.map_size _ _]; have := HZ5.out; omega)).mono ?_
    rintro e W2 ⟨rfl, hq⟩
    exact hK.out _ _ hq (show Value.bool (same (Ft.pl ta) (Ft.pl t5)) = .bool true by rw [hpa, HPt5.out, same_self])
  · intro u W K hS hF hK
    have f6 : u 6 = .bool true := hF 6 (by kernel_rfl)
    have f10 : u 10 = .bool true := hF 10 (by kernel_rfl)
    simp only [putsFrom, Act.put, Nat.reduceAdd, List.setIfInBounds_toArray, List.set_cons_zero, List.set_cons_succ, f6, f10] at hK ⊢
    clear hF
    go_simp
    exact hK.out _ _ (Alters.refl _) rfl
  · intro u W K hS hF hK
    have f11 : u 11 = .bool true := hF 11 (by kernel_rfl)
    simp only [putsFrom, Act.put, Nat.reduceAdd, List.setIfInBounds_toArray, List.set_cons_zero, List.set_cons_succ, f11] at hK ⊢
    clear hF
    go_simp
    exact hK.out _ _ (Alters.refl _) rfl
  · intro u W K hS hF hK
    have f12 : u 12 = .bool true := hF 12 (by kernel_rfl)
    simp only [putsFrom, Act.put, Nat.reduceAdd, List.setIfInBounds_toArray, List.set_cons_zero, List.set_cons_succ, f12] at hK ⊢
    clear hF
    obtain ⟨x0, x1, x2, x3, x4, x5, x6⟩ := hS.seven (w5.heap.size) 28 t5 (by simp)
    go_simp
    exact hK.out _ _ (Alters.refl _) rfl
  · intro u W K hS hF hK
    have f12 : u 12 = .bool true := hF 12 (by kernel_rfl)
    have f13 : u 13 = Ft.val t5 := hF 13 (by kernel_rfl)
    simp only [putsFrom, Act.put, Nat.reduceAdd, List.setIfInBounds_toArray, List.set_cons_zero, List.set_cons_succ, f12, f13] at hK ⊢
    clear hF
    go_simp
    refine (bare_any t5 W (hS.inn (w5.heap.size) 28 t5 (by simp)) (by rw [HPt5.out]; exact HN.out)).mono ?_
    rintro e W2 ⟨rfl, hq⟩
    exact hK.out _ _ hq rfl
  · intro u W K hS hF hK
    have f12 : u 12 = .bool true := hF 12 (by kernel_rfl)
    have f14 : u 14 = .bool true := hF 14 (by kernel_rfl)
    simp only [putsFrom, Act.put, Nat.reduceAdd, List.setIfInBounds_toArray, List.set_cons_zero, List.set_cons_succ, f12, f14] at hK ⊢
    clear hF
    go_simp
    exact hK.out _ _ (Alters.refl _) rfl
  · intro u W hS hF
    have f15 : u 15 = .bool true := hF 15 (by simp)
    simp only [putsFrom, Act.put, Nat.reduceAdd, List.setIfInBounds_toArray, List.set_cons_zero, List.set_cons_succ, f15]
    clear hF f15
    have HS := Go.Lib.hid hS
    clear hS
    go_simp
    go_wp2
    go_ret
    exact ⟨rfl, HS.out.quiet⟩
end Go.Proofs.YtnpcakakjhiboaaDoor
