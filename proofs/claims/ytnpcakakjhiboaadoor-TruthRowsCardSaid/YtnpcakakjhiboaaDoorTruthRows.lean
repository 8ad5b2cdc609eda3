/- TruthRows: the walk of the law. No condition. -/
import Derived.Test.YtnpcakakjhiboaaDoorLaw13
import Derived.Test.YtnpcakakjhiboaaDoorWord
import Derived.Test.YtnpcakakjhiboaaDoorRef13e
import Derived.Test.YtnpcakakjhiboaaDoorRowP
namespace Go.Proofs.YtnpcakakjhiboaaDoor
open Go.RowKit Go.Lo Go.WideShapes

set_option maxRecDepth 100000 in
set_option maxHeartbeats 4000000 in
theorem truthRows_walk (t : Ft) (a : Option Addr) (cap : Nat) (P : List Hp) (w : World) (hint : In AllD w t) (_hwt : ∀ n, n ∈ t.pre → n.top.n.wf) (hw : WdAt w a P) (hS : Shapes w) : Calls Tryd.prog 8 #[t.val, .slice a P.length cap] w (Said (.bool true) w) := by
  have hl := (LawAt.zero w hS).box 28 hint
  skip
  have HL := Go.Lib.hid hl
  have HW := Go.Lib.hid hw
  clear hint hS hw hl
  unfold Ft.val
  go_enter Tryd.func8, Tryd.ntmps8
  go_wp2_with fail
  generalize w.alloc _ = w1 at *
  refine (awake13_walk w1 HL.out.shapes).mono ?_
  rintro e w2 ⟨rfl, hq⟩
  replace HL := Go.Lib.hid (HL.out.keep hq)
  clear hq
  obtain ⟨x00, x01, x02, x03, x04, x05, x06⟩ := HL.out.seven (w.heap.size) 28 t (by simp)
  have HC := Go.Lib.hid (left_any13 AllD t 60 w2 (HL.out.inn (w.heap.size) 28 t (by simp)) (by decide))
  unfold Ft.val at HC
  go_wp2_with fail
  refine HC.out.mono ?_
  rintro e w3 ⟨rfl, hq⟩
  clear x00 x01 x02 x03 x04 x05 x06 HC
  replace HL := Go.Lib.hid (HL.out.keep hq)
  clear hq
  have HC := Go.Lib.hid (few47_walk a cap P w3 (HW.out.quiet HL.out.quiet))
  go_wp2_with fail
  refine HC.out.mono ?_
  rintro e w4 ⟨rfl, hq⟩
  clear HC
  replace HL := Go.Lib.hid (HL.out.keep hq)
  clear hq
  by_cases h0 : leftF (Ft.pl t) 60 ≤ 0
  · have b0 : decide (leftF (Ft.pl t) 60 ≤ 0) = true := by simpa using h0
    clear h0
    go_wp2_with fail
    go_ret
    exact ⟨rfl, HL.out.quiet⟩
  have hz0 := left_size13 h0
  have HZt : Hid (t.size ≤ 60) := Go.Lib.hid (by have := hz0; omega)
  have b0 : decide (leftF (Ft.pl t) 60 ≤ 0) = false := by simpa using h0
  clear hz0 h0
  cases hf : fewW P
  · go_wp2_with fail
    go_ret
    exact ⟨rfl, HL.out.quiet⟩
  have HPL : Hid (P.length ≤ 10000) := Go.Lib.hid (by have := fewW_len hf; omega)
  have HRL : Hid (∀ f, (rowF f (pts P)).length ≤ 10000) := Go.Lib.hid (fun f => Nat.le_trans (rowF_len _ _) (by rw [pts_len]; exact HPL.out))
  go_upto_region 8 with (fail)
  clear b0 hf
  refine wp_region_wants (by kernel_rfl) (by kernel_rfl) (by kernel_rfl) (by kernel_rfl) (LawAt w [(w.heap.size, 28, t)] []) (fun _ _ hq h => h.keep hq) [Want.is (Ft.val t), Want.is (.slice a P.length cap), Want.row (rowF (Ft.pl t) (pts P)), Want.is (Ft.val t), Want.fm AllD (Ft.pl t), Want.is (.slice a P.length cap), Want.word P, Want.row (rowF (Ft.pl t) (pts P)), Want.is (.bool true)] (HL.out.keep ((Alters.refl _).drew)) (by decide) ?_
  refine Steps.cons ?_ (Steps.cons ?_ (Steps.cons ?_ (Steps.cons ?_ (Steps.cons ?_ (Steps.cons ?_ (Steps.cons ?_ (Steps.cons ?_ (Steps.cons ?_ (Steps.last ?_)))))))))
  · intro u W K hS hF hK
    simp only [putsFrom, Act.put, Nat.reduceAdd, List.setIfInBounds_toArray, List.set_cons_zero, List.set_cons_succ] at hK ⊢
    clear hF
    obtain ⟨x0, x1, x2, x3, x4, x5, x6⟩ := hS.seven (w.heap.size) 28 t (by simp)
    go_simp
    exact hK.out _ _ (Alters.refl _) rfl
  · intro u W K hS hF hK
    simp only [putsFrom, Act.put, Nat.reduceAdd, List.setIfInBounds_toArray, List.set_cons_zero, List.set_cons_succ] at hK ⊢
    clear hF
    go_simp
    exact hK.out _ _ (Alters.refl _) rfl
  · intro u W K hS hF hK
    have f0 : u 0 = Ft.val t := hF 0 (by kernel_rfl)
    have f1 : u 1 = .slice a P.length cap := hF 1 (by kernel_rfl)
    simp only [putsFrom, Act.put, Nat.reduceAdd, List.setIfInBounds_toArray, List.set_cons_zero, List.set_cons_succ, f0, f1] at hK ⊢
    clear hF
    go_simp
    refine (row38_walk AllD t a cap P W (hS.inn (w.heap.size) 28 t (by simp)) hS.shapes (by have := HZt.out; omega) (HW.out.quiet hS.quiet) HPL.out).mono ?_
    rintro e W2 ⟨ra, rc, rfl, hbl, hq⟩
    exact hK.out _ _ hq ⟨ra, rc, rfl, hbl⟩
  · intro u W K hS hF hK
    simp only [putsFrom, Act.put, Nat.reduceAdd, List.setIfInBounds_toArray, List.set_cons_zero, List.set_cons_succ] at hK ⊢
    clear hF
    obtain ⟨x0, x1, x2, x3, x4, x5, x6⟩ := hS.seven (w.heap.size) 28 t (by simp)
    go_simp
    exact hK.out _ _ (Alters.refl _) rfl
  · intro u W K hS hF hK
    have f3 : u 3 = Ft.val t := hF 3 (by kernel_rfl)
    simp only [putsFrom, Act.put, Nat.reduceAdd, List.setIfInBounds_toArray, List.set_cons_zero, List.set_cons_succ, f3] at hK ⊢
    clear hF
    go_simp
    refine (plain_any13 AllD t (by have := HZt.out; omega) W (hS.inn (w.heap.size) 28 t (by simp))).mono ?_
    rintro e W2 ⟨t9, rfl, hp9, hi9, hq⟩
    exact hK.out _ _ hq ⟨t9, rfl, hp9, hi9.mono (fun _ _ _ => trivial)⟩
  · intro u W K hS hF hK
    simp only [putsFrom, Act.put, Nat.reduceAdd, List.setIfInBounds_toArray, List.set_cons_zero, List.set_cons_succ] at hK ⊢
    clear hF
    go_simp
    exact hK.out _ _ (Alters.refl _) rfl
  · intro u W K hS hF hK
    have f5 : u 5 = .slice a P.length cap := hF 5 (by kernel_rfl)
    simp only [putsFrom, Act.put, Nat.reduceAdd, List.setIfInBounds_toArray, List.set_cons_zero, List.set_cons_succ, f5] at hK ⊢
    clear hF
    go_simp
    refine (points50_walk a cap P W (HW.out.quiet hS.quiet) HPL.out).mono ?_
    rintro e W2 ⟨ra, rc, rfl, hwd, hq⟩
    exact hK.out _ _ hq ⟨ra, rc, rfl, hwd⟩
  · intro u W K hS hF hK
    have f4 : MadeIn AllD (Ft.pl t) (u 4) W := hF 4 (by kernel_rfl)
    have f6 : ∃ a c, u 6 = .slice a P.length c ∧ WdAt W a P := hF 6 (by kernel_rfl)
    simp only [putsFrom, Act.put, Nat.reduceAdd, List.setIfInBounds_toArray, List.set_cons_zero, List.set_cons_succ] at hK ⊢
    clear hF
    obtain ⟨ta, ea, hpa, hia⟩ := f4
    simp only [ea] at hK ⊢
    obtain ⟨pa, pc, ep, hpw⟩ := f6
    simp only [ep] at hK ⊢
    go_simp
    refine (row48_of hpa hia (by rw [pl_size]; have := HZt.out; omega) hpw HPL.out).mono ?_
    rintro e W2 ⟨ra, rc, rfl, hbl, hq⟩
    exact hK.out _ _ hq ⟨ra, rc, rfl, hbl⟩
  · intro u W K hS hF hK
    have f2 : ∃ a c, u 2 = .slice a (rowF (Ft.pl t) (pts P)).length c ∧ BlAt W a (rowF (Ft.pl t) (pts P)) := hF 2 (by kernel_rfl)
    have f7 : ∃ a c, u 7 = .slice a (rowF (Ft.pl t) (pts P)).length c ∧ BlAt W a (rowF (Ft.pl t) (pts P)) := hF 7 (by kernel_rfl)
    simp only [putsFrom, Act.put, Nat.reduceAdd, List.setIfInBounds_toArray, List.set_cons_zero, List.set_cons_succ] at hK ⊢
    clear hF
    obtain ⟨rb, cb, eb, hb⟩ := f2
    obtain ⟨rd, cd, ed, hd⟩ := f7
    simp only [eb, ed] at hK ⊢
    go_simp
    refine (same39_walk rb cb _ rd cd _ W hb hd (HRL.out _)).mono ?_
    rintro e W2 ⟨rfl, hq⟩
    exact hK.out _ _ hq (show Value.bool (decide (rowF (Ft.pl t) (pts P) = rowF (Ft.pl t) (pts P))) = .bool true by simp)
  · intro u W hS hF
    have f8 : u 8 = .bool true := hF 8 (by simp)
    simp only [putsFrom, Act.put, Nat.reduceAdd, List.setIfInBounds_toArray, List.set_cons_zero, List.set_cons_succ, f8]
    clear hF f8
    have HS := Go.Lib.hid hS
    clear hS
    go_simp
    go_wp2
    go_ret
    exact ⟨rfl, HS.out.quiet⟩
end Go.Proofs.YtnpcakakjhiboaaDoor
