/- PlanTells: the walk of the law. No condition. -/
import Derived.Test.YtnpcakakjhiboaaDoorAwake16
import Derived.Test.YtnpcakakjhiboaaDoorNodes16
import Derived.Test.YtnpcakakjhiboaaDoorWord
import Derived.Test.YtnpcakakjhiboaaDoorLits
import Derived.Test.YtnpcakakjhiboaaDoorStps16
namespace Go.Proofs.YtnpcakakjhiboaaDoor
open Go Go.RowKit Go.Lo Go.WideShapes

theorem planOf_eq (f : Fm) : planOf f = (partsIf f).map (stepOf (partsIf f)) := by
  unfold planOf partsIf
  split <;> rfl

set_option maxRecDepth 100000 in
set_option maxHeartbeats 4000000 in
theorem planTells_walk (t : Ft) (w : World) (hin : In AllD w t) (hw : ∀ n, n ∈ t.pre → n.top.n.wf) (hS : Shapes w) : Calls Tryd.prog 14 #[t.val] w (Said (.bool true) w) := by
  have HL := Go.Lib.hid ((LawAt.zero w hS).box 28 hin)
  have HNUM := Go.Lib.hid (num_of hw)
  clear hin hS hw
  unfold Ft.val
  go_enter Tryd.func14, Tryd.ntmps14
  go_wp2_with fail
  generalize w.alloc _ = w1 at *
  refine (awake16_walk w1 HL.out.shapes).mono ?_
  rintro e w2 ⟨rfl, hq⟩
  replace HL := Go.Lib.hid (HL.out.keep hq)
  clear hq
  obtain ⟨x0, x1, x2, x3, x4, x5, x6⟩ := HL.out.seven (w.heap.size) 28 t (by simp)
  have HC := Go.Lib.hid (left_any16 AllD t 60 w2 (HL.out.inn (w.heap.size) 28 t (by simp)) (by decide))
  unfold Ft.val at HC
  go_wp2_with fail
  refine HC.out.mono ?_
  rintro e w3 ⟨rfl, hq⟩
  clear x0 x1 x2 x3 x4 x5 x6 HC
  replace HL := Go.Lib.hid (HL.out.keep hq)
  clear hq
  by_cases h0 : leftF (Ft.pl t) 60 ≤ 0
  · go_wp2_with fail
    go_ret
    exact ⟨rfl, HL.out.quiet⟩
  have hz := left_size16 h0
  have HZ : Hid (t.size ≤ 60) := Go.Lib.hid (by have := hz; omega)
  have b0 : decide (leftF (Ft.pl t) 60 ≤ 0) = false := by simpa using h0
  clear hz h0
  obtain ⟨x0, x1, x2, x3, x4, x5, x6⟩ := HL.out.seven (w.heap.size) 28 t (by simp)
  have HC := Go.Lib.hid (plan56_walk t w3 (HL.out.inn (w.heap.size) 28 t (by simp)) HL.out.shapes (by have := HZ.out; omega) HNUM.out)
  rw [planOf_eq] at HC
  unfold Ft.val at HC
  go_wp2_with fail
  refine HC.out.mono ?_
  rintro e w4 ⟨lv, rfl, hrow, hq⟩
  clear x0 x1 x2 x3 x4 x5 x6 HC b0
  replace HL := Go.Lib.hid (HL.out.keep hq)
  clear hq
  obtain ⟨la, lc, rfl, hst⟩ := stps_of hrow
  rw [List.length_map] at *
  have HST := Go.Lib.hid hst
  clear hst hrow
  obtain ⟨x0, x1, x2, x3, x4, x5, x6⟩ := HL.out.seven (w.heap.size) 28 t (by simp)
  have HC := Go.Lib.hid (plain_any16 AllD t (by have := HZ.out; omega) w4 (HL.out.inn (w.heap.size) 28 t (by simp)))
  unfold Ft.val at HC
  go_wp2_with fail
  refine HC.out.mono ?_
  rintro e w5 ⟨t5, rfl, hp5, hi5, hq⟩
  clear x0 x1 x2 x3 x4 x5 x6 HC
  replace HL := Go.Lib.hid (HL.out.keep hq)
  replace HST := Go.Lib.hid (HST.out.quiet hq)
  have HC := Go.Lib.hid (nodes57_walk t5 w5 (hi5.mono (fun _ _ _ => trivial)) (by rw [size_of hp5, pl_size]; have := HZ.out; omega))
  rw [hp5] at HC
  clear hq hp5 hi5
  have HUL : Hid ((partsIf (Ft.pl t)).length ≤ 1000) := Go.Lib.hid (by
    unfold partsIf
    split
    · rename_i hf
      have h1 := (first_zero _).1 hf
      have h2 := parts_len (normOf (Ft.pl t))
      rw [normOf_sound h1] at h2 ⊢
      have h3 := made_size _ h1
      rw [pl_size] at h3
      have := HZ.out
      omega
    · simp)
  generalize partsIf (Ft.pl t) = U at *
  unfold Ft.val at HC ⊢
  go_wp2_with fail
  refine HC.out.mono ?_
  rintro e w6 ⟨tv, T, rfl, hrow, hTU, hTI, hq⟩
  clear HC
  replace HL := Go.Lib.hid (HL.out.keep hq)
  replace HST := Go.Lib.hid (HST.out.quiet hq)
  clear hq
  obtain ⟨ta, tc, rfl, hfs⟩ := own_fs hrow
  have hUl : U.length = T.length := by rw [← hTU]; simp
  have HTU := Go.Lib.hid hTU
  have HTI := Go.Lib.hid hTI
  have HFS := Go.Lib.hid hfs
  have hul := HUL.out
  rw [hUl] at hul ⊢
  have HLE := Go.Lib.hid hUl
  clear hrow hTU hTI hfs hUl
  go_wp2_with fail
  go_loopw [7] (fun i wr => ∃ k : Nat, k ≤ T.length ∧ i = .int .i64 k ∧ Quiet w6 wr) (fun i _ => T.length - (intOf i).toNat)
  case atStart => exact ⟨0, Nat.zero_le _, rfl, Alters.refl _⟩
  case round =>
    obtain ⟨k, hk, rfl, hQ⟩ := hrel
    have HQ := Go.Lib.hid hQ
    clear hQ
    by_cases hlt : k < T.length
    · have hne : T ≠ [] := fun h => by subst h; simp at hlt
      obtain ⟨b, o, rfl, -, hc⟩ := HFS.out hne
      have HXA := Go.Lib.hid ((hc k T[k] (by simp [hlt])).keep HQ.out (by simp))
      have HXI := Go.Lib.hid ((HTI.out T[k] (by simp)).quiet HQ.out)
      have hUk : U[k]? = some (Ft.pl T[k]) := by rw [← HTU.out]; simp [hlt]
      obtain ⟨g, rfl, hs⟩ := HST.out (by
        intro h
        have := congrArg List.length h
        rw [List.length_map, HLE.out] at this
        simp at this
        exact hne this)
      have hsk := fun (j : Nat) (u : Value) (h : (stepOf U (Ft.pl T[k])).cells[j]? = some u) => HQ.out.cell (hs k (stepOf U (Ft.pl T[k])) (by rw [List.getElem?_map, hUk]; rfl) j u h) (by simp)
      have HK0 : Hid (∀ W, Quiet wr W → Calls Tryd.prog 59 #[.slice (some ⟨b, o, none⟩) T.length tc, T[k].val, .int .i64 0] W (Said (.int .i64 (kidAt U (Ft.pl T[k]) 0)) W)) := Go.Lib.hid (fun W hq => by
        have := kid59_walk (some ⟨b, o, none⟩) tc T T[k] 0 W ((HFS.out.keep HQ.out (fun _ _ _ h => h)).keep hq (fun _ _ _ h => h)) (fun x hx => ((HTI.out x hx).quiet HQ.out).quiet hq) (HXI.out.quiet hq) (by omega)
        rw [HTU.out] at this
        exact this)
      have HK1 : Hid (∀ W, Quiet wr W → Calls Tryd.prog 59 #[.slice (some ⟨b, o, none⟩) T.length tc, T[k].val, .int .i64 1] W (Said (.int .i64 (kidAt U (Ft.pl T[k]) 1)) W)) := Go.Lib.hid (fun W hq => by
        have := kid59_walk (some ⟨b, o, none⟩) tc T T[k] 1 W ((HFS.out.keep HQ.out (fun _ _ _ h => h)).keep hq (fun _ _ _ h => h)) (fun x hx => ((HTI.out x hx).quiet HQ.out).quiet hq) (HXI.out.quiet hq) (by omega)
        rw [HTU.out] at this
        exact this)
      have e0 := hsk 0 _ rfl
      have e1 := hsk 1 _ rfl
      have e2 := hsk 2 _ rfl
      have e3 := hsk 3 _ rfl
      have e4 := hsk 4 _ rfl
      have e5 := hsk 5 _ rfl
      have e6 := hsk 6 _ rfl
      have e7 := hsk 7 _ rfl
      simp only [stepOf, pl_op, Nat.add_zero] at e0 e1 e2 e3 e4 e5 e6 e7
      clear hsk hs hc hUk
      unfold Ft.val at HK0 HK1
      generalize T[k] = x at *
      generalize kidAt U (Ft.pl x) 0 = q0 at *
      generalize kidAt U (Ft.pl x) 1 = q1 at *
      obtain ⟨d0, d1, d2, d3, d4, d5, d6⟩ := HXA.out.seven
      have BX : Hid (Blk (wr.alloc (.cells #[.int .i64 x.top.n.op, .string x.top.n.nm, .int .i64 x.top.n.cmp, .int .i64 x.top.n.val, .int .i64 x.top.n.lo, .int .i64 x.top.n.hi, .slice x.top.a x.kids.length x.top.cap] 33)) wr.heap.size #[.int .i64 x.top.n.op, .string x.top.n.nm, .int .i64 x.top.n.cmp, .int .i64 x.top.n.val, .int .i64 x.top.n.lo, .int .i64 x.top.n.hi, .slice x.top.a x.kids.length x.top.cap] 33) := Blk.new _ _ _
      have HQ7 : Hid (Quiet wr (wr.alloc (.cells #[.int .i64 x.top.n.op, .string x.top.n.nm, .int .i64 x.top.n.cmp, .int .i64 x.top.n.val, .int .i64 x.top.n.lo, .int .i64 x.top.n.hi, .slice x.top.a x.kids.length x.top.cap] 33))) := (Alters.refl _).alloc _
      go_upto_region 15 with (fail)
      generalize wr.alloc _ = w7 at *
      generalize wr.heap.size = hb at *
      clear d0 d1 d2 d3 d4 d5 d6
      replace e0 := HQ7.out.cell e0 (by simp)
      replace e1 := HQ7.out.cell e1 (by simp)
      replace e2 := HQ7.out.cell e2 (by simp)
      replace e3 := HQ7.out.cell e3 (by simp)
      replace e4 := HQ7.out.cell e4 (by simp)
      replace e5 := HQ7.out.cell e5 (by simp)
      replace e6 := HQ7.out.cell e6 (by simp)
      replace e7 := HQ7.out.cell e7 (by simp)
      obtain ⟨c0, c1, c2, c3, c4, c5, c6⟩ := seven_cells BX.out
      generalize hfr : Act.mk _ _ = a0
      have h0 : a0.tmps.getD 0 undef = _ := (congrArg (fun a : Act => a.tmps.getD 0 undef) hfr).symm.trans lit_0
      have h1 : a0.tmps.getD 1 undef = _ := (congrArg (fun a : Act => a.tmps.getD 1 undef) hfr).symm.trans lit_1
      have h2 : a0.tmps.getD 2 undef = _ := (congrArg (fun a : Act => a.tmps.getD 2 undef) hfr).symm.trans lit_2
      have h3 : a0.tmps.getD 3 undef = _ := (congrArg (fun a : Act => a.tmps.getD 3 undef) hfr).symm.trans lit_3
      have h4 : a0.tmps.getD 4 undef = _ := (congrArg (fun a : Act => a.tmps.getD 4 undef) hfr).symm.trans lit_4
      have h5 : a0.tmps.getD 5 undef = _ := (congrArg (fun a : Act => a.tmps.getD 5 undef) hfr).symm.trans lit_5
      have h6 : a0.tmps.getD 6 undef = _ := (congrArg (fun a : Act => a.tmps.getD 6 undef) hfr).symm.trans lit_6
      have h7 : a0.tmps.getD 7 undef = _ := (congrArg (fun a : Act => a.tmps.getD 7 undef) hfr).symm.trans lit_7
      have h8 : a0.tmps.getD 8 undef = _ := (congrArg (fun a : Act => a.tmps.getD 8 undef) hfr).symm.trans lit_8
      have h9 : a0.tmps.getD 9 undef = _ := (congrArg (fun a : Act => a.tmps.getD 9 undef) hfr).symm.trans lit_9
      have h10 : a0.tmps.getD 10 undef = _ := (congrArg (fun a : Act => a.tmps.getD 10 undef) hfr).symm.trans lit_10
      have h11 : a0.tmps.getD 11 undef = _ := (congrArg (fun a : Act => a.tmps.getD 11 undef) hfr).symm.trans lit_11
      have h12 : a0.tmps.getD 12 undef = _ := (congrArg (fun a : Act => a.tmps.getD 12 undef) hfr).symm.trans lit_12
      have h13 : a0.tmps.getD 13 undef = _ := (congrArg (fun a : Act => a.tmps.getD 13 undef) hfr).symm.trans lit_13
      have h14 : a0.tmps.getD 14 undef = _ := (congrArg (fun a : Act => a.tmps.getD 14 undef) hfr).symm.trans lit_14
      have h15 : a0.tmps.getD 15 undef = _ := (congrArg (fun a : Act => a.tmps.getD 15 undef) hfr).symm.trans lit_15
      have h16 : a0.tmps.getD 16 undef = _ := (congrArg (fun a : Act => a.tmps.getD 16 undef) hfr).symm.trans lit_16
      have h17 : a0.tmps.getD 17 undef = _ := (congrArg (fun a : Act => a.tmps.getD 17 undef) hfr).symm.trans lit_17
      have h18 : a0.tmps.getD 18 undef = _ := (congrArg (fun a : Act => a.tmps.getD 18 undef) hfr).symm.trans lit_18
      have h19 : a0.tmps.getD 19 undef = _ := (congrArg (fun a : Act => a.tmps.getD 19 undef) hfr).symm.trans lit_19
      have h20 : a0.tmps.getD 20 undef = _ := (congrArg (fun a : Act => a.tmps.getD 20 undef) hfr).symm.trans lit_20
      have h21 : a0.tmps.getD 21 undef = _ := (congrArg (fun a : Act => a.tmps.getD 21 undef) hfr).symm.trans lit_21
      have h22 : a0.tmps.getD 22 undef = _ := (congrArg (fun a : Act => a.tmps.getD 22 undef) hfr).symm.trans lit_22
      have h23 : a0.tmps.getD 23 undef = _ := (congrArg (fun a : Act => a.tmps.getD 23 undef) hfr).symm.trans lit_23
      have h24 : a0.tmps.getD 24 undef = _ := (congrArg (fun a : Act => a.tmps.getD 24 undef) hfr).symm.trans lit_24
      have h25 : a0.tmps.getD 25 undef = _ := (congrArg (fun a : Act => a.tmps.getD 25 undef) hfr).symm.trans lit_25
      have h26 : a0.tmps.getD 26 undef = _ := (congrArg (fun a : Act => a.tmps.getD 26 undef) hfr).symm.trans lit_26
      have h27 : a0.tmps.getD 27 undef = _ := (congrArg (fun a : Act => a.tmps.getD 27 undef) hfr).symm.trans lit_27
      have h28 : a0.tmps.getD 28 undef = _ := (congrArg (fun a : Act => a.tmps.getD 28 undef) hfr).symm.trans lit_28
      have h29 : a0.tmps.getD 29 undef = _ := (congrArg (fun a : Act => a.tmps.getD 29 undef) hfr).symm.trans lit_29
      have h30 : a0.tmps.getD 30 undef = _ := (congrArg (fun a : Act => a.tmps.getD 30 undef) hfr).symm.trans lit_30
      have h31 : a0.tmps.getD 31 undef = _ := (congrArg (fun a : Act => a.tmps.getD 31 undef) hfr).symm.trans lit_31
      have h32 : a0.tmps.getD 32 undef = _ := (congrArg (fun a : Act => a.tmps.getD 32 undef) hfr).symm.trans lit_32
      have h33 : a0.tmps.getD 33 undef = _ := (congrArg (fun a : Act => a.tmps.getD 33 undef) hfr).symm.trans lit_33
      have h34 : a0.tmps.getD 34 undef = _ := (congrArg (fun a : Act => a.tmps.getD 34 undef) hfr).symm.trans lit_34
      have h35 : a0.tmps.getD 35 undef = _ := (congrArg (fun a : Act => a.tmps.getD 35 undef) hfr).symm.trans lit_35
      obtain ⟨F, hF0⟩ : ∃ F : (Nat → Value) → Act, F = fun u => ⟨#[a0.tmps.getD 0 undef, a0.tmps.getD 1 undef, a0.tmps.getD 2 undef, a0.tmps.getD 3 undef, a0.tmps.getD 4 undef, a0.tmps.getD 5 undef, a0.tmps.getD 6 undef, a0.tmps.getD 7 undef, a0.tmps.getD 8 undef, a0.tmps.getD 9 undef, a0.tmps.getD 10 undef, a0.tmps.getD 11 undef, a0.tmps.getD 12 undef, a0.tmps.getD 13 undef, a0.tmps.getD 14 undef, a0.tmps.getD 15 undef, a0.tmps.getD 16 undef, a0.tmps.getD 17 undef, a0.tmps.getD 18 undef, a0.tmps.getD 19 undef, a0.tmps.getD 20 undef, a0.tmps.getD 21 undef, a0.tmps.getD 22 undef, a0.tmps.getD 23 undef, a0.tmps.getD 24 undef, a0.tmps.getD 25 undef, a0.tmps.getD 26 undef, a0.tmps.getD 27 undef, a0.tmps.getD 28 undef, a0.tmps.getD 29 undef, a0.tmps.getD 30 undef, a0.tmps.getD 31 undef, a0.tmps.getD 32 undef, a0.tmps.getD 33 undef, a0.tmps.getD 34 undef, a0.tmps.getD 35 undef, u 0, u 1, u 2, u 3, u 4, u 5, u 6, u 7, u 8, u 9, u 10, u 11, u 12, u 13, u 14, u 15, u 16, u 17, u 18, u 19, u 20, u 21, u 22, u 23, u 24, u 25, u 26, u 27, u 28, u 29, u 30, u 31, u 32, u 33, u 34, u 35, u 36, u 37, u 38, u 39, u 40, u 41, u 42, u 43, u 44, u 45, u 46, u 47, u 48, u 49, u 50, u 51, u 52, u 53, u 54, u 55, u 56, u 57, u 58, u 59, u 60, u 61, u 62, u 63, u 64, u 65, u 66, u 67, u 68, u 69, u 70, u 71, u 72, u 73, u 74, u 75, u 76, u 77, u 78, u 79, u 80, u 81, u 82, u 83, u 84], []⟩ := ⟨_, rfl⟩
      refine wp_region_wants_at F (fun u => by rw [hF0, ← hfr]; kernel_rfl) (by kernel_rfl) (by kernel_rfl) (by kernel_rfl) (by kernel_rfl) (CellsAt wr [(⟨g, k * 8, none⟩, (.int .i64 x.top.n.op)), (⟨g, k * 8 + 1, none⟩, (.string x.top.n.nm)), (⟨g, k * 8 + 2, none⟩, (.int .i64 x.top.n.cmp)), (⟨g, k * 8 + 3, none⟩, (.int .i64 x.top.n.val)), (⟨g, k * 8 + 4, none⟩, (.int .i64 x.top.n.lo)), (⟨g, k * 8 + 5, none⟩, (.int .i64 x.top.n.hi)), (⟨g, k * 8 + 6, none⟩, (.int .i64 q0)), (⟨g, k * 8 + 7, none⟩, (.int .i64 q1)), (⟨hb, 0, none⟩, (.int .i64 x.top.n.op)), (⟨hb, 1, none⟩, (.string x.top.n.nm)), (⟨hb, 2, none⟩, (.int .i64 x.top.n.cmp)), (⟨hb, 3, none⟩, (.int .i64 x.top.n.val)), (⟨hb, 4, none⟩, (.int .i64 x.top.n.lo)), (⟨hb, 5, none⟩, (.int .i64 x.top.n.hi)), (⟨hb, 6, none⟩, (.slice x.top.a x.kids.length x.top.cap))]) (fun _ _ hq h => h.keep hq) [Want.is (.slice (some ⟨g, 0, none⟩) T.length lc), Want.is (.int .i64 (k : Int)), Want.is (.pointer (some ⟨g, k * 8, none⟩)), Want.is (.pointer (some ⟨g, k * 8, none⟩)), Want.is ((.int .i64 x.top.n.op)), Want.is (.pointer (some ⟨hb, 0, none⟩)), Want.is ((.int .i64 x.top.n.op)), Want.is (.bool false), Want.is (.bool false), Want.is (.slice (some ⟨g, 0, none⟩) T.length lc), Want.is (.int .i64 (k : Int)), Want.is (.pointer (some ⟨g, k * 8, none⟩)), Want.is (.pointer (some ⟨g, k * 8 + 1, none⟩)), Want.is (.pointer (some ⟨g, k * 8 + 1, none⟩)), Want.is ((.string x.top.n.nm)), Want.is (.pointer (some ⟨hb, 1, none⟩)), Want.is ((.string x.top.n.nm)), Want.is (.bool false), Want.is (.bool false), Want.is (.bool false), Want.is (.slice (some ⟨g, 0, none⟩) T.length lc), Want.is (.int .i64 (k : Int)), Want.is (.pointer (some ⟨g, k * 8, none⟩)), Want.is (.pointer (some ⟨g, k * 8 + 1, none⟩)), Want.is (.pointer (some ⟨g, k * 8 + 2, none⟩)), Want.is ((.int .i64 x.top.n.cmp)), Want.is (.pointer (some ⟨hb, 2, none⟩)), Want.is ((.int .i64 x.top.n.cmp)), Want.is (.bool false), Want.is (.bool false), Want.is (.bool false), Want.is (.slice (some ⟨g, 0, none⟩) T.length lc), Want.is (.int .i64 (k : Int)), Want.is (.pointer (some ⟨g, k * 8, none⟩)), Want.is (.pointer (some ⟨g, k * 8 + 1, none⟩)), Want.is (.pointer (some ⟨g, k * 8 + 3, none⟩)), Want.is ((.int .i64 x.top.n.val)), Want.is (.pointer (some ⟨hb, 3, none⟩)), Want.is ((.int .i64 x.top.n.val)), Want.is (.bool false), Want.is (.bool false), Want.is (.bool false), Want.is (.slice (some ⟨g, 0, none⟩) T.length lc), Want.is (.int .i64 (k : Int)), Want.is (.pointer (some ⟨g, k * 8, none⟩)), Want.is (.pointer (some ⟨g, k * 8 + 4, none⟩)), Want.is (.pointer (some ⟨g, k * 8 + 4, none⟩)), Want.is ((.int .i64 x.top.n.lo)), Want.is (.pointer (some ⟨hb, 4, none⟩)), Want.is ((.int .i64 x.top.n.lo)), Want.is (.bool false), Want.is (.bool false), Want.is (.bool false), Want.is (.slice (some ⟨g, 0, none⟩) T.length lc), Want.is (.int .i64 (k : Int)), Want.is (.pointer (some ⟨g, k * 8, none⟩)), Want.is (.pointer (some ⟨g, k * 8 + 4, none⟩)), Want.is (.pointer (some ⟨g, k * 8 + 5, none⟩)), Want.is ((.int .i64 x.top.n.hi)), Want.is (.pointer (some ⟨hb, 5, none⟩)), Want.is ((.int .i64 x.top.n.hi)), Want.is (.bool false), Want.is (.bool false), Want.is (.bool false), Want.is (.slice (some ⟨g, 0, none⟩) T.length lc), Want.is (.int .i64 (k : Int)), Want.is (.pointer (some ⟨g, k * 8, none⟩)), Want.is (.pointer (some ⟨g, k * 8 + 6, none⟩)), Want.is ((.int .i64 q0)), Want.is (.slice (some ⟨b, o, none⟩) T.length tc), Want.is (Ft.val x), Want.is (.int .i64 q0), Want.is (.bool false), Want.is (.bool false), Want.is (.bool false), Want.is (.slice (some ⟨g, 0, none⟩) T.length lc), Want.is (.int .i64 (k : Int)), Want.is (.pointer (some ⟨g, k * 8, none⟩)), Want.is (.pointer (some ⟨g, k * 8 + 7, none⟩)), Want.is ((.int .i64 q1)), Want.is (.slice (some ⟨b, o, none⟩) T.length tc), Want.is (Ft.val x), Want.is (.int .i64 q1), Want.is (.bool false)] ((CellsAt.cons (a := ⟨g, k * 8, none⟩) (v := (.int .i64 x.top.n.op)) (e0) (CellsAt.cons (a := ⟨g, k * 8 + 1, none⟩) (v := (.string x.top.n.nm)) (e1) (CellsAt.cons (a := ⟨g, k * 8 + 2, none⟩) (v := (.int .i64 x.top.n.cmp)) (e2) (CellsAt.cons (a := ⟨g, k * 8 + 3, none⟩) (v := (.int .i64 x.top.n.val)) (e3) (CellsAt.cons (a := ⟨g, k * 8 + 4, none⟩) (v := (.int .i64 x.top.n.lo)) (e4) (CellsAt.cons (a := ⟨g, k * 8 + 5, none⟩) (v := (.int .i64 x.top.n.hi)) (e5) (CellsAt.cons (a := ⟨g, k * 8 + 6, none⟩) (v := (.int .i64 q0)) (e6) (CellsAt.cons (a := ⟨g, k * 8 + 7, none⟩) (v := (.int .i64 q1)) (e7) (CellsAt.cons (a := ⟨hb, 0, none⟩) (v := (.int .i64 x.top.n.op)) (c0) (CellsAt.cons (a := ⟨hb, 1, none⟩) (v := (.string x.top.n.nm)) (c1) (CellsAt.cons (a := ⟨hb, 2, none⟩) (v := (.int .i64 x.top.n.cmp)) (c2) (CellsAt.cons (a := ⟨hb, 3, none⟩) (v := (.int .i64 x.top.n.val)) (c3) (CellsAt.cons (a := ⟨hb, 4, none⟩) (v := (.int .i64 x.top.n.lo)) (c4) (CellsAt.cons (a := ⟨hb, 5, none⟩) (v := (.int .i64 x.top.n.hi)) (c5) (CellsAt.cons (a := ⟨hb, 6, none⟩) (v := (.slice x.top.a x.kids.length x.top.cap)) (c6) (CellsAt.nil (HQ7.out))))))))))))))))).keep ((Alters.refl _).drew)) (by decide) ?_
      clear hfr
      refine Steps.cons ?_ (Steps.cons ?_ (Steps.cons ?_ (Steps.cons ?_ (Steps.cons ?_ (Steps.cons ?_ (Steps.cons ?_ (Steps.cons ?_ (Steps.cons ?_ (Steps.cons ?_ (Steps.cons ?_ (Steps.cons ?_ (Steps.cons ?_ (Steps.cons ?_ (Steps.cons ?_ (Steps.cons ?_ (Steps.cons ?_ (Steps.cons ?_ (Steps.cons ?_ (Steps.cons ?_ (Steps.cons ?_ (Steps.cons ?_ (Steps.cons ?_ (Steps.cons ?_ (Steps.cons ?_ (Steps.cons ?_ (Steps.cons ?_ (Steps.cons ?_ (Steps.cons ?_ (Steps.cons ?_ (Steps.cons ?_ (Steps.cons ?_ (Steps.cons ?_ (Steps.cons ?_ (Steps.cons ?_ (Steps.cons ?_ (Steps.cons ?_ (Steps.cons ?_ (Steps.cons ?_ (Steps.cons ?_ (Steps.cons ?_ (Steps.cons ?_ (Steps.cons ?_ (Steps.cons ?_ (Steps.cons ?_ (Steps.cons ?_ (Steps.cons ?_ (Steps.cons ?_ (Steps.cons ?_ (Steps.cons ?_ (Steps.cons ?_ (Steps.cons ?_ (Steps.cons ?_ (Steps.cons ?_ (Steps.cons ?_ (Steps.cons ?_ (Steps.cons ?_ (Steps.cons ?_ (Steps.cons ?_ (Steps.cons ?_ (Steps.cons ?_ (Steps.cons ?_ (Steps.cons ?_ (Steps.cons ?_ (Steps.cons ?_ (Steps.cons ?_ (Steps.cons ?_ (Steps.cons ?_ (Steps.cons ?_ (Steps.cons ?_ (Steps.cons ?_ (Steps.cons ?_ (Steps.cons ?_ (Steps.cons ?_ (Steps.cons ?_ (Steps.cons ?_ (Steps.cons ?_ (Steps.cons ?_ (Steps.cons ?_ (Steps.cons ?_ (Steps.cons ?_ (Steps.cons ?_ (Steps.cons ?_ (Steps.cons ?_ (Steps.last ?_))))))))))))))))))))))))))))))))))))))))))))))))))))))))))))))))))))))))))))))))))))
      · intro u W K hS hF hK
        generalize hA : F u = A at hK ⊢
        have a5 : A.tmps.getD 5 undef = (.slice (some ⟨g, 0, none⟩) T.length lc) := (show A.tmps.getD 5 undef = a0.tmps.getD 5 undef by rw [← hA, hF0]; kernel_rfl).trans h5
        clear hA hF0
        clear hF
        go_simp
        exact hK.out _ _ (Alters.refl _) rfl
      · intro u W K hS hF hK
        generalize hA : F u = A at hK ⊢
        have a7 : A.tmps.getD 7 undef = (.int .i64 (k : Int)) := (show A.tmps.getD 7 undef = a0.tmps.getD 7 undef by rw [← hA, hF0]; kernel_rfl).trans h7
        clear hA hF0
        clear hF
        go_simp
        exact hK.out _ _ (Alters.refl _) rfl
      · intro u W K hS hF hK
        have f0 : u 0 = .slice (some ⟨g, 0, none⟩) T.length lc := hF 0 (by kernel_rfl)
        have f1 : u 1 = .int .i64 (k : Int) := hF 1 (by kernel_rfl)
        generalize hA : F u = A at hK ⊢
        have a36 : A.tmps.getD 36 undef = u 0 := by rw [← hA, hF0]; kernel_rfl
        have a37 : A.tmps.getD 37 undef = u 1 := by rw [← hA, hF0]; kernel_rfl
        clear hA hF0
        simp only [f0, f1] at a36 a37
        clear hF
        go_simp
        exact hK.out _ _ (Alters.refl _) rfl
      · intro u W K hS hF hK
        have f2 : u 2 = .pointer (some ⟨g, k * 8, none⟩) := hF 2 (by kernel_rfl)
        generalize hA : F u = A at hK ⊢
        have a38 : A.tmps.getD 38 undef = u 2 := by rw [← hA, hF0]; kernel_rfl
        clear hA hF0
        simp only [f2] at a38
        clear hF
        go_simp
        exact hK.out _ _ (Alters.refl _) rfl
      · intro u W K hS hF hK
        have f3 : u 3 = .pointer (some ⟨g, k * 8, none⟩) := hF 3 (by kernel_rfl)
        generalize hA : F u = A at hK ⊢
        have a39 : A.tmps.getD 39 undef = u 3 := by rw [← hA, hF0]; kernel_rfl
        clear hA hF0
        simp only [f3] at a39
        clear hF
        have x0 := hS.at (g) (k * 8) ((.int .i64 x.top.n.op)) (by simp)
        go_simp
        exact hK.out _ _ (Alters.refl _) rfl
      · intro u W K hS hF hK
        generalize hA : F u = A at hK ⊢
        have a8 : A.tmps.getD 8 undef = (.pointer (some ⟨hb, 0, none⟩)) := (show A.tmps.getD 8 undef = a0.tmps.getD 8 undef by rw [← hA, hF0]; kernel_rfl).trans h8
        clear hA hF0
        clear hF
        go_simp
        exact hK.out _ _ (Alters.refl _) rfl
      · intro u W K hS hF hK
        have f5 : u 5 = .pointer (some ⟨hb, 0, none⟩) := hF 5 (by kernel_rfl)
        generalize hA : F u = A at hK ⊢
        have a41 : A.tmps.getD 41 undef = u 5 := by rw [← hA, hF0]; kernel_rfl
        clear hA hF0
        simp only [f5] at a41
        clear hF
        have x0 := hS.at (hb) (0) ((.int .i64 x.top.n.op)) (by simp)
        go_simp
        exact hK.out _ _ (Alters.refl _) rfl
      · intro u W K hS hF hK
        have f4 : u 4 = (.int .i64 x.top.n.op) := hF 4 (by kernel_rfl)
        have f6 : u 6 = (.int .i64 x.top.n.op) := hF 6 (by kernel_rfl)
        generalize hA : F u = A at hK ⊢
        have a40 : A.tmps.getD 40 undef = u 4 := by rw [← hA, hF0]; kernel_rfl
        have a42 : A.tmps.getD 42 undef = u 6 := by rw [← hA, hF0]; kernel_rfl
        clear hA hF0
        simp only [f4, f6] at a40 a42
        clear hF
        go_simp
        exact hK.out _ _ (Alters.refl _) rfl
      · intro u W K hS hF hK
        have f7 : u 7 = .bool false := hF 7 (by kernel_rfl)
        generalize hA : F u = A at hK ⊢
        have a43 : A.tmps.getD 43 undef = u 7 := by rw [← hA, hF0]; kernel_rfl
        clear hA hF0
        simp only [f7] at a43
        clear hF
        go_simp
        exact hK.out _ _ (Alters.refl _) rfl
      · intro u W K hS hF hK
        have f8 : u 8 = .bool false := hF 8 (by kernel_rfl)
        generalize hA : F u = A at hK ⊢
        have a5 : A.tmps.getD 5 undef = (.slice (some ⟨g, 0, none⟩) T.length lc) := (show A.tmps.getD 5 undef = a0.tmps.getD 5 undef by rw [← hA, hF0]; kernel_rfl).trans h5
        have a44 : A.tmps.getD 44 undef = u 8 := by rw [← hA, hF0]; kernel_rfl
        have g44 : A.tmps[44]? = some (u 8) := by rw [← hA, hF0]; kernel_rfl
        clear hA hF0
        simp only [f8] at a5 g44
        clear hF
        go_simp
        exact hK.out _ _ (Alters.refl _) rfl
      · intro u W K hS hF hK
        have f8 : u 8 = .bool false := hF 8 (by kernel_rfl)
        generalize hA : F u = A at hK ⊢
        have a7 : A.tmps.getD 7 undef = (.int .i64 (k : Int)) := (show A.tmps.getD 7 undef = a0.tmps.getD 7 undef by rw [← hA, hF0]; kernel_rfl).trans h7
        have a44 : A.tmps.getD 44 undef = u 8 := by rw [← hA, hF0]; kernel_rfl
        have g44 : A.tmps[44]? = some (u 8) := by rw [← hA, hF0]; kernel_rfl
        clear hA hF0
        simp only [f8] at a7 g44
        clear hF
        go_simp
        exact hK.out _ _ (Alters.refl _) rfl
      · intro u W K hS hF hK
        have f8 : u 8 = .bool false := hF 8 (by kernel_rfl)
        have f9 : u 9 = .slice (some ⟨g, 0, none⟩) T.length lc := hF 9 (by kernel_rfl)
        have f10 : u 10 = .int .i64 (k : Int) := hF 10 (by kernel_rfl)
        generalize hA : F u = A at hK ⊢
        have a44 : A.tmps.getD 44 undef = u 8 := by rw [← hA, hF0]; kernel_rfl
        have a45 : A.tmps.getD 45 undef = u 9 := by rw [← hA, hF0]; kernel_rfl
        have a46 : A.tmps.getD 46 undef = u 10 := by rw [← hA, hF0]; kernel_rfl
        have g44 : A.tmps[44]? = some (u 8) := by rw [← hA, hF0]; kernel_rfl
        clear hA hF0
        simp only [f8, f9, f10] at a45 a46 g44
        clear hF
        go_simp
        exact hK.out _ _ (Alters.refl _) rfl
      · intro u W K hS hF hK
        have f8 : u 8 = .bool false := hF 8 (by kernel_rfl)
        have f11 : u 11 = .pointer (some ⟨g, k * 8, none⟩) := hF 11 (by kernel_rfl)
        generalize hA : F u = A at hK ⊢
        have a44 : A.tmps.getD 44 undef = u 8 := by rw [← hA, hF0]; kernel_rfl
        have a47 : A.tmps.getD 47 undef = u 11 := by rw [← hA, hF0]; kernel_rfl
        have g44 : A.tmps[44]? = some (u 8) := by rw [← hA, hF0]; kernel_rfl
        clear hA hF0
        simp only [f8, f11] at a47 g44
        clear hF
        go_simp
        exact hK.out _ _ (Alters.refl _) rfl
      · intro u W K hS hF hK
        have f8 : u 8 = .bool false := hF 8 (by kernel_rfl)
        have f12 : u 12 = .pointer (some ⟨g, k * 8 + 1, none⟩) := hF 12 (by kernel_rfl)
        generalize hA : F u = A at hK ⊢
        have a44 : A.tmps.getD 44 undef = u 8 := by rw [← hA, hF0]; kernel_rfl
        have a48 : A.tmps.getD 48 undef = u 12 := by rw [← hA, hF0]; kernel_rfl
        have g44 : A.tmps[44]? = some (u 8) := by rw [← hA, hF0]; kernel_rfl
        clear hA hF0
        simp only [f8, f12] at a48 g44
        clear hF
        go_simp
        exact hK.out _ _ (Alters.refl _) rfl
      · intro u W K hS hF hK
        have f8 : u 8 = .bool false := hF 8 (by kernel_rfl)
        have f13 : u 13 = .pointer (some ⟨g, k * 8 + 1, none⟩) := hF 13 (by kernel_rfl)
        generalize hA : F u = A at hK ⊢
        have a44 : A.tmps.getD 44 undef = u 8 := by rw [← hA, hF0]; kernel_rfl
        have a49 : A.tmps.getD 49 undef = u 13 := by rw [← hA, hF0]; kernel_rfl
        have g44 : A.tmps[44]? = some (u 8) := by rw [← hA, hF0]; kernel_rfl
        clear hA hF0
        simp only [f8, f13] at a49 g44
        clear hF
        have x0 := hS.at (g) (k * 8 + 1) ((.string x.top.n.nm)) (by simp)
        go_simp
        exact hK.out _ _ (Alters.refl _) rfl
      · intro u W K hS hF hK
        have f8 : u 8 = .bool false := hF 8 (by kernel_rfl)
        generalize hA : F u = A at hK ⊢
        have a8 : A.tmps.getD 8 undef = (.pointer (some ⟨hb, 0, none⟩)) := (show A.tmps.getD 8 undef = a0.tmps.getD 8 undef by rw [← hA, hF0]; kernel_rfl).trans h8
        have a44 : A.tmps.getD 44 undef = u 8 := by rw [← hA, hF0]; kernel_rfl
        have g44 : A.tmps[44]? = some (u 8) := by rw [← hA, hF0]; kernel_rfl
        clear hA hF0
        simp only [f8] at a8 g44
        clear hF
        go_simp
        exact hK.out _ _ (Alters.refl _) rfl
      · intro u W K hS hF hK
        have f8 : u 8 = .bool false := hF 8 (by kernel_rfl)
        have f15 : u 15 = .pointer (some ⟨hb, 1, none⟩) := hF 15 (by kernel_rfl)
        generalize hA : F u = A at hK ⊢
        have a44 : A.tmps.getD 44 undef = u 8 := by rw [← hA, hF0]; kernel_rfl
        have a51 : A.tmps.getD 51 undef = u 15 := by rw [← hA, hF0]; kernel_rfl
        have g44 : A.tmps[44]? = some (u 8) := by rw [← hA, hF0]; kernel_rfl
        clear hA hF0
        simp only [f8, f15] at a51 g44
        clear hF
        have x0 := hS.at (hb) (1) ((.string x.top.n.nm)) (by simp)
        go_simp
        exact hK.out _ _ (Alters.refl _) rfl
      · intro u W K hS hF hK
        have f8 : u 8 = .bool false := hF 8 (by kernel_rfl)
        have f14 : u 14 = (.string x.top.n.nm) := hF 14 (by kernel_rfl)
        have f16 : u 16 = (.string x.top.n.nm) := hF 16 (by kernel_rfl)
        generalize hA : F u = A at hK ⊢
        have a44 : A.tmps.getD 44 undef = u 8 := by rw [← hA, hF0]; kernel_rfl
        have a50 : A.tmps.getD 50 undef = u 14 := by rw [← hA, hF0]; kernel_rfl
        have a52 : A.tmps.getD 52 undef = u 16 := by rw [← hA, hF0]; kernel_rfl
        have g44 : A.tmps[44]? = some (u 8) := by rw [← hA, hF0]; kernel_rfl
        clear hA hF0
        simp only [f8, f14, f16] at a50 a52 g44
        clear hF
        go_simp
        exact hK.out _ _ (Alters.refl _) rfl
      · intro u W K hS hF hK
        have f8 : u 8 = .bool false := hF 8 (by kernel_rfl)
        have f17 : u 17 = .bool false := hF 17 (by kernel_rfl)
        generalize hA : F u = A at hK ⊢
        have a44 : A.tmps.getD 44 undef = u 8 := by rw [← hA, hF0]; kernel_rfl
        have a53 : A.tmps.getD 53 undef = u 17 := by rw [← hA, hF0]; kernel_rfl
        clear hA hF0
        simp only [f8, f17] at a44 a53
        clear hF
        go_simp
        exact hK.out _ _ (Alters.refl _) rfl
      · intro u W K hS hF hK
        have f18 : u 18 = .bool false := hF 18 (by kernel_rfl)
        generalize hA : F u = A at hK ⊢
        have a54 : A.tmps.getD 54 undef = u 18 := by rw [← hA, hF0]; kernel_rfl
        clear hA hF0
        simp only [f18] at a54
        clear hF
        go_simp
        exact hK.out _ _ (Alters.refl _) rfl
      · intro u W K hS hF hK
        have f19 : u 19 = .bool false := hF 19 (by kernel_rfl)
        generalize hA : F u = A at hK ⊢
        have a5 : A.tmps.getD 5 undef = (.slice (some ⟨g, 0, none⟩) T.length lc) := (show A.tmps.getD 5 undef = a0.tmps.getD 5 undef by rw [← hA, hF0]; kernel_rfl).trans h5
        have a55 : A.tmps.getD 55 undef = u 19 := by rw [← hA, hF0]; kernel_rfl
        have g55 : A.tmps[55]? = some (u 19) := by rw [← hA, hF0]; kernel_rfl
        clear hA hF0
        simp only [f19] at a5 g55
        clear hF
        go_simp
        exact hK.out _ _ (Alters.refl _) rfl
      · intro u W K hS hF hK
        have f19 : u 19 = .bool false := hF 19 (by kernel_rfl)
        generalize hA : F u = A at hK ⊢
        have a7 : A.tmps.getD 7 undef = (.int .i64 (k : Int)) := (show A.tmps.getD 7 undef = a0.tmps.getD 7 undef by rw [← hA, hF0]; kernel_rfl).trans h7
        have a55 : A.tmps.getD 55 undef = u 19 := by rw [← hA, hF0]; kernel_rfl
        have g55 : A.tmps[55]? = some (u 19) := by rw [← hA, hF0]; kernel_rfl
        clear hA hF0
        simp only [f19] at a7 g55
        clear hF
        go_simp
        exact hK.out _ _ (Alters.refl _) rfl
      · intro u W K hS hF hK
        have f19 : u 19 = .bool false := hF 19 (by kernel_rfl)
        have f20 : u 20 = .slice (some ⟨g, 0, none⟩) T.length lc := hF 20 (by kernel_rfl)
        have f21 : u 21 = .int .i64 (k : Int) := hF 21 (by kernel_rfl)
        generalize hA : F u = A at hK ⊢
        have a55 : A.tmps.getD 55 undef = u 19 := by rw [← hA, hF0]; kernel_rfl
        have a56 : A.tmps.getD 56 undef = u 20 := by rw [← hA, hF0]; kernel_rfl
        have a57 : A.tmps.getD 57 undef = u 21 := by rw [← hA, hF0]; kernel_rfl
        have g55 : A.tmps[55]? = some (u 19) := by rw [← hA, hF0]; kernel_rfl
        clear hA hF0
        simp only [f19, f20, f21] at a56 a57 g55
        clear hF
        go_simp
        exact hK.out _ _ (Alters.refl _) rfl
      · intro u W K hS hF hK
        have f19 : u 19 = .bool false := hF 19 (by kernel_rfl)
        have f22 : u 22 = .pointer (some ⟨g, k * 8, none⟩) := hF 22 (by kernel_rfl)
        generalize hA : F u = A at hK ⊢
        have a55 : A.tmps.getD 55 undef = u 19 := by rw [← hA, hF0]; kernel_rfl
        have a58 : A.tmps.getD 58 undef = u 22 := by rw [← hA, hF0]; kernel_rfl
        have g55 : A.tmps[55]? = some (u 19) := by rw [← hA, hF0]; kernel_rfl
        clear hA hF0
        simp only [f19, f22] at a58 g55
        clear hF
        go_simp
        exact hK.out _ _ (Alters.refl _) rfl
      · intro u W K hS hF hK
        have f19 : u 19 = .bool false := hF 19 (by kernel_rfl)
        have f23 : u 23 = .pointer (some ⟨g, k * 8 + 1, none⟩) := hF 23 (by kernel_rfl)
        generalize hA : F u = A at hK ⊢
        have a55 : A.tmps.getD 55 undef = u 19 := by rw [← hA, hF0]; kernel_rfl
        have a59 : A.tmps.getD 59 undef = u 23 := by rw [← hA, hF0]; kernel_rfl
        have g55 : A.tmps[55]? = some (u 19) := by rw [← hA, hF0]; kernel_rfl
        clear hA hF0
        simp only [f19, f23] at a59 g55
        clear hF
        go_simp
        exact hK.out _ _ (Alters.refl _) rfl
      · intro u W K hS hF hK
        have f19 : u 19 = .bool false := hF 19 (by kernel_rfl)
        have f24 : u 24 = .pointer (some ⟨g, k * 8 + 2, none⟩) := hF 24 (by kernel_rfl)
        generalize hA : F u = A at hK ⊢
        have a55 : A.tmps.getD 55 undef = u 19 := by rw [← hA, hF0]; kernel_rfl
        have a60 : A.tmps.getD 60 undef = u 24 := by rw [← hA, hF0]; kernel_rfl
        have g55 : A.tmps[55]? = some (u 19) := by rw [← hA, hF0]; kernel_rfl
        clear hA hF0
        simp only [f19, f24] at a60 g55
        clear hF
        have x0 := hS.at (g) (k * 8 + 2) ((.int .i64 x.top.n.cmp)) (by simp)
        go_simp
        exact hK.out _ _ (Alters.refl _) rfl
      · intro u W K hS hF hK
        have f19 : u 19 = .bool false := hF 19 (by kernel_rfl)
        generalize hA : F u = A at hK ⊢
        have a8 : A.tmps.getD 8 undef = (.pointer (some ⟨hb, 0, none⟩)) := (show A.tmps.getD 8 undef = a0.tmps.getD 8 undef by rw [← hA, hF0]; kernel_rfl).trans h8
        have a55 : A.tmps.getD 55 undef = u 19 := by rw [← hA, hF0]; kernel_rfl
        have g55 : A.tmps[55]? = some (u 19) := by rw [← hA, hF0]; kernel_rfl
        clear hA hF0
        simp only [f19] at a8 g55
        clear hF
        go_simp
        exact hK.out _ _ (Alters.refl _) rfl
      · intro u W K hS hF hK
        have f19 : u 19 = .bool false := hF 19 (by kernel_rfl)
        have f26 : u 26 = .pointer (some ⟨hb, 2, none⟩) := hF 26 (by kernel_rfl)
        generalize hA : F u = A at hK ⊢
        have a55 : A.tmps.getD 55 undef = u 19 := by rw [← hA, hF0]; kernel_rfl
        have a62 : A.tmps.getD 62 undef = u 26 := by rw [← hA, hF0]; kernel_rfl
        have g55 : A.tmps[55]? = some (u 19) := by rw [← hA, hF0]; kernel_rfl
        clear hA hF0
        simp only [f19, f26] at a62 g55
        clear hF
        have x0 := hS.at (hb) (2) ((.int .i64 x.top.n.cmp)) (by simp)
        go_simp
        exact hK.out _ _ (Alters.refl _) rfl
      · intro u W K hS hF hK
        have f19 : u 19 = .bool false := hF 19 (by kernel_rfl)
        have f25 : u 25 = (.int .i64 x.top.n.cmp) := hF 25 (by kernel_rfl)
        have f27 : u 27 = (.int .i64 x.top.n.cmp) := hF 27 (by kernel_rfl)
        generalize hA : F u = A at hK ⊢
        have a55 : A.tmps.getD 55 undef = u 19 := by rw [← hA, hF0]; kernel_rfl
        have a61 : A.tmps.getD 61 undef = u 25 := by rw [← hA, hF0]; kernel_rfl
        have a63 : A.tmps.getD 63 undef = u 27 := by rw [← hA, hF0]; kernel_rfl
        have g55 : A.tmps[55]? = some (u 19) := by rw [← hA, hF0]; kernel_rfl
        clear hA hF0
        simp only [f19, f25, f27] at a61 a63 g55
        clear hF
        go_simp
        exact hK.out _ _ (Alters.refl _) rfl
      · intro u W K hS hF hK
        have f19 : u 19 = .bool false := hF 19 (by kernel_rfl)
        have f28 : u 28 = .bool false := hF 28 (by kernel_rfl)
        generalize hA : F u = A at hK ⊢
        have a55 : A.tmps.getD 55 undef = u 19 := by rw [← hA, hF0]; kernel_rfl
        have a64 : A.tmps.getD 64 undef = u 28 := by rw [← hA, hF0]; kernel_rfl
        clear hA hF0
        simp only [f19, f28] at a55 a64
        clear hF
        go_simp
        exact hK.out _ _ (Alters.refl _) rfl
      · intro u W K hS hF hK
        have f29 : u 29 = .bool false := hF 29 (by kernel_rfl)
        generalize hA : F u = A at hK ⊢
        have a65 : A.tmps.getD 65 undef = u 29 := by rw [← hA, hF0]; kernel_rfl
        clear hA hF0
        simp only [f29] at a65
        clear hF
        go_simp
        exact hK.out _ _ (Alters.refl _) rfl
      · intro u W K hS hF hK
        have f30 : u 30 = .bool false := hF 30 (by kernel_rfl)
        generalize hA : F u = A at hK ⊢
        have a5 : A.tmps.getD 5 undef = (.slice (some ⟨g, 0, none⟩) T.length lc) := (show A.tmps.getD 5 undef = a0.tmps.getD 5 undef by rw [← hA, hF0]; kernel_rfl).trans h5
        have a66 : A.tmps.getD 66 undef = u 30 := by rw [← hA, hF0]; kernel_rfl
        have g66 : A.tmps[66]? = some (u 30) := by rw [← hA, hF0]; kernel_rfl
        clear hA hF0
        simp only [f30] at a5 g66
        clear hF
        go_simp
        exact hK.out _ _ (Alters.refl _) rfl
      · intro u W K hS hF hK
        have f30 : u 30 = .bool false := hF 30 (by kernel_rfl)
        generalize hA : F u = A at hK ⊢
        have a7 : A.tmps.getD 7 undef = (.int .i64 (k : Int)) := (show A.tmps.getD 7 undef = a0.tmps.getD 7 undef by rw [← hA, hF0]; kernel_rfl).trans h7
        have a66 : A.tmps.getD 66 undef = u 30 := by rw [← hA, hF0]; kernel_rfl
        have g66 : A.tmps[66]? = some (u 30) := by rw [← hA, hF0]; kernel_rfl
        clear hA hF0
        simp only [f30] at a7 g66
        clear hF
        go_simp
        exact hK.out _ _ (Alters.refl _) rfl
      · intro u W K hS hF hK
        have f30 : u 30 = .bool false := hF 30 (by kernel_rfl)
        have f31 : u 31 = .slice (some ⟨g, 0, none⟩) T.length lc := hF 31 (by kernel_rfl)
        have f32 : u 32 = .int .i64 (k : Int) := hF 32 (by kernel_rfl)
        generalize hA : F u = A at hK ⊢
        have a66 : A.tmps.getD 66 undef = u 30 := by rw [← hA, hF0]; kernel_rfl
        have a67 : A.tmps.getD 67 undef = u 31 := by rw [← hA, hF0]; kernel_rfl
        have a68 : A.tmps.getD 68 undef = u 32 := by rw [← hA, hF0]; kernel_rfl
        have g66 : A.tmps[66]? = some (u 30) := by rw [← hA, hF0]; kernel_rfl
        clear hA hF0
        simp only [f30, f31, f32] at a67 a68 g66
        clear hF
        go_simp
        exact hK.out _ _ (Alters.refl _) rfl
      · intro u W K hS hF hK
        have f30 : u 30 = .bool false := hF 30 (by kernel_rfl)
        have f33 : u 33 = .pointer (some ⟨g, k * 8, none⟩) := hF 33 (by kernel_rfl)
        generalize hA : F u = A at hK ⊢
        have a66 : A.tmps.getD 66 undef = u 30 := by rw [← hA, hF0]; kernel_rfl
        have a69 : A.tmps.getD 69 undef = u 33 := by rw [← hA, hF0]; kernel_rfl
        have g66 : A.tmps[66]? = some (u 30) := by rw [← hA, hF0]; kernel_rfl
        clear hA hF0
        simp only [f30, f33] at a69 g66
        clear hF
        go_simp
        exact hK.out _ _ (Alters.refl _) rfl
      · intro u W K hS hF hK
        have f30 : u 30 = .bool false := hF 30 (by kernel_rfl)
        have f34 : u 34 = .pointer (some ⟨g, k * 8 + 1, none⟩) := hF 34 (by kernel_rfl)
        generalize hA : F u = A at hK ⊢
        have a66 : A.tmps.getD 66 undef = u 30 := by rw [← hA, hF0]; kernel_rfl
        have a70 : A.tmps.getD 70 undef = u 34 := by rw [← hA, hF0]; kernel_rfl
        have g66 : A.tmps[66]? = some (u 30) := by rw [← hA, hF0]; kernel_rfl
        clear hA hF0
        simp only [f30, f34] at a70 g66
        clear hF
        go_simp
        exact hK.out _ _ (Alters.refl _) rfl
      · intro u W K hS hF hK
        have f30 : u 30 = .bool false := hF 30 (by kernel_rfl)
        have f35 : u 35 = .pointer (some ⟨g, k * 8 + 3, none⟩) := hF 35 (by kernel_rfl)
        generalize hA : F u = A at hK ⊢
        have a66 : A.tmps.getD 66 undef = u 30 := by rw [← hA, hF0]; kernel_rfl
        have a71 : A.tmps.getD 71 undef = u 35 := by rw [← hA, hF0]; kernel_rfl
        have g66 : A.tmps[66]? = some (u 30) := by rw [← hA, hF0]; kernel_rfl
        clear hA hF0
        simp only [f30, f35] at a71 g66
        clear hF
        have x0 := hS.at (g) (k * 8 + 3) ((.int .i64 x.top.n.val)) (by simp)
        go_simp
        exact hK.out _ _ (Alters.refl _) rfl
      · intro u W K hS hF hK
        have f30 : u 30 = .bool false := hF 30 (by kernel_rfl)
        generalize hA : F u = A at hK ⊢
        have a8 : A.tmps.getD 8 undef = (.pointer (some ⟨hb, 0, none⟩)) := (show A.tmps.getD 8 undef = a0.tmps.getD 8 undef by rw [← hA, hF0]; kernel_rfl).trans h8
        have a66 : A.tmps.getD 66 undef = u 30 := by rw [← hA, hF0]; kernel_rfl
        have g66 : A.tmps[66]? = some (u 30) := by rw [← hA, hF0]; kernel_rfl
        clear hA hF0
        simp only [f30] at a8 g66
        clear hF
        go_simp
        exact hK.out _ _ (Alters.refl _) rfl
      · intro u W K hS hF hK
        have f30 : u 30 = .bool false := hF 30 (by kernel_rfl)
        have f37 : u 37 = .pointer (some ⟨hb, 3, none⟩) := hF 37 (by kernel_rfl)
        generalize hA : F u = A at hK ⊢
        have a66 : A.tmps.getD 66 undef = u 30 := by rw [← hA, hF0]; kernel_rfl
        have a73 : A.tmps.getD 73 undef = u 37 := by rw [← hA, hF0]; kernel_rfl
        have g66 : A.tmps[66]? = some (u 30) := by rw [← hA, hF0]; kernel_rfl
        clear hA hF0
        simp only [f30, f37] at a73 g66
        clear hF
        have x0 := hS.at (hb) (3) ((.int .i64 x.top.n.val)) (by simp)
        go_simp
        exact hK.out _ _ (Alters.refl _) rfl
      · intro u W K hS hF hK
        have f30 : u 30 = .bool false := hF 30 (by kernel_rfl)
        have f36 : u 36 = (.int .i64 x.top.n.val) := hF 36 (by kernel_rfl)
        have f38 : u 38 = (.int .i64 x.top.n.val) := hF 38 (by kernel_rfl)
        generalize hA : F u = A at hK ⊢
        have a66 : A.tmps.getD 66 undef = u 30 := by rw [← hA, hF0]; kernel_rfl
        have a72 : A.tmps.getD 72 undef = u 36 := by rw [← hA, hF0]; kernel_rfl
        have a74 : A.tmps.getD 74 undef = u 38 := by rw [← hA, hF0]; kernel_rfl
        have g66 : A.tmps[66]? = some (u 30) := by rw [← hA, hF0]; kernel_rfl
        clear hA hF0
        simp only [f30, f36, f38] at a72 a74 g66
        clear hF
        go_simp
        exact hK.out _ _ (Alters.refl _) rfl
      · intro u W K hS hF hK
        have f30 : u 30 = .bool false := hF 30 (by kernel_rfl)
        have f39 : u 39 = .bool false := hF 39 (by kernel_rfl)
        generalize hA : F u = A at hK ⊢
        have a66 : A.tmps.getD 66 undef = u 30 := by rw [← hA, hF0]; kernel_rfl
        have a75 : A.tmps.getD 75 undef = u 39 := by rw [← hA, hF0]; kernel_rfl
        clear hA hF0
        simp only [f30, f39] at a66 a75
        clear hF
        go_simp
        exact hK.out _ _ (Alters.refl _) rfl
      · intro u W K hS hF hK
        have f40 : u 40 = .bool false := hF 40 (by kernel_rfl)
        generalize hA : F u = A at hK ⊢
        have a76 : A.tmps.getD 76 undef = u 40 := by rw [← hA, hF0]; kernel_rfl
        clear hA hF0
        simp only [f40] at a76
        clear hF
        go_simp
        exact hK.out _ _ (Alters.refl _) rfl
      · intro u W K hS hF hK
        have f41 : u 41 = .bool false := hF 41 (by kernel_rfl)
        generalize hA : F u = A at hK ⊢
        have a5 : A.tmps.getD 5 undef = (.slice (some ⟨g, 0, none⟩) T.length lc) := (show A.tmps.getD 5 undef = a0.tmps.getD 5 undef by rw [← hA, hF0]; kernel_rfl).trans h5
        have a77 : A.tmps.getD 77 undef = u 41 := by rw [← hA, hF0]; kernel_rfl
        have g77 : A.tmps[77]? = some (u 41) := by rw [← hA, hF0]; kernel_rfl
        clear hA hF0
        simp only [f41] at a5 g77
        clear hF
        go_simp
        exact hK.out _ _ (Alters.refl _) rfl
      · intro u W K hS hF hK
        have f41 : u 41 = .bool false := hF 41 (by kernel_rfl)
        generalize hA : F u = A at hK ⊢
        have a7 : A.tmps.getD 7 undef = (.int .i64 (k : Int)) := (show A.tmps.getD 7 undef = a0.tmps.getD 7 undef by rw [← hA, hF0]; kernel_rfl).trans h7
        have a77 : A.tmps.getD 77 undef = u 41 := by rw [← hA, hF0]; kernel_rfl
        have g77 : A.tmps[77]? = some (u 41) := by rw [← hA, hF0]; kernel_rfl
        clear hA hF0
        simp only [f41] at a7 g77
        clear hF
        go_simp
        exact hK.out _ _ (Alters.refl _) rfl
      · intro u W K hS hF hK
        have f41 : u 41 = .bool false := hF 41 (by kernel_rfl)
        have f42 : u 42 = .slice (some ⟨g, 0, none⟩) T.length lc := hF 42 (by kernel_rfl)
        have f43 : u 43 = .int .i64 (k : Int) := hF 43 (by kernel_rfl)
        generalize hA : F u = A at hK ⊢
        have a77 : A.tmps.getD 77 undef = u 41 := by rw [← hA, hF0]; kernel_rfl
        have a78 : A.tmps.getD 78 undef = u 42 := by rw [← hA, hF0]; kernel_rfl
        have a79 : A.tmps.getD 79 undef = u 43 := by rw [← hA, hF0]; kernel_rfl
        have g77 : A.tmps[77]? = some (u 41) := by rw [← hA, hF0]; kernel_rfl
        clear hA hF0
        simp only [f41, f42, f43] at a78 a79 g77
        clear hF
        go_simp
        exact hK.out _ _ (Alters.refl _) rfl
      · intro u W K hS hF hK
        have f41 : u 41 = .bool false := hF 41 (by kernel_rfl)
        have f44 : u 44 = .pointer (some ⟨g, k * 8, none⟩) := hF 44 (by kernel_rfl)
        generalize hA : F u = A at hK ⊢
        have a77 : A.tmps.getD 77 undef = u 41 := by rw [← hA, hF0]; kernel_rfl
        have a80 : A.tmps.getD 80 undef = u 44 := by rw [← hA, hF0]; kernel_rfl
        have g77 : A.tmps[77]? = some (u 41) := by rw [← hA, hF0]; kernel_rfl
        clear hA hF0
        simp only [f41, f44] at a80 g77
        clear hF
        go_simp
        exact hK.out _ _ (Alters.refl _) rfl
      · intro u W K hS hF hK
        have f41 : u 41 = .bool false := hF 41 (by kernel_rfl)
        have f45 : u 45 = .pointer (some ⟨g, k * 8 + 4, none⟩) := hF 45 (by kernel_rfl)
        generalize hA : F u = A at hK ⊢
        have a77 : A.tmps.getD 77 undef = u 41 := by rw [← hA, hF0]; kernel_rfl
        have a81 : A.tmps.getD 81 undef = u 45 := by rw [← hA, hF0]; kernel_rfl
        have g77 : A.tmps[77]? = some (u 41) := by rw [← hA, hF0]; kernel_rfl
        clear hA hF0
        simp only [f41, f45] at a81 g77
        clear hF
        go_simp
        exact hK.out _ _ (Alters.refl _) rfl
      · intro u W K hS hF hK
        have f41 : u 41 = .bool false := hF 41 (by kernel_rfl)
        have f46 : u 46 = .pointer (some ⟨g, k * 8 + 4, none⟩) := hF 46 (by kernel_rfl)
        generalize hA : F u = A at hK ⊢
        have a77 : A.tmps.getD 77 undef = u 41 := by rw [← hA, hF0]; kernel_rfl
        have a82 : A.tmps.getD 82 undef = u 46 := by rw [← hA, hF0]; kernel_rfl
        have g77 : A.tmps[77]? = some (u 41) := by rw [← hA, hF0]; kernel_rfl
        clear hA hF0
        simp only [f41, f46] at a82 g77
        clear hF
        have x0 := hS.at (g) (k * 8 + 4) ((.int .i64 x.top.n.lo)) (by simp)
        go_simp
        exact hK.out _ _ (Alters.refl _) rfl
      · intro u W K hS hF hK
        have f41 : u 41 = .bool false := hF 41 (by kernel_rfl)
        generalize hA : F u = A at hK ⊢
        have a8 : A.tmps.getD 8 undef = (.pointer (some ⟨hb, 0, none⟩)) := (show A.tmps.getD 8 undef = a0.tmps.getD 8 undef by rw [← hA, hF0]; kernel_rfl).trans h8
        have a77 : A.tmps.getD 77 undef = u 41 := by rw [← hA, hF0]; kernel_rfl
        have g77 : A.tmps[77]? = some (u 41) := by rw [← hA, hF0]; kernel_rfl
        clear hA hF0
        simp only [f41] at a8 g77
        clear hF
        go_simp
        exact hK.out _ _ (Alters.refl _) rfl
      · intro u W K hS hF hK
        have f41 : u 41 = .bool false := hF 41 (by kernel_rfl)
        have f48 : u 48 = .pointer (some ⟨hb, 4, none⟩) := hF 48 (by kernel_rfl)
        generalize hA : F u = A at hK ⊢
        have a77 : A.tmps.getD 77 undef = u 41 := by rw [← hA, hF0]; kernel_rfl
        have a84 : A.tmps.getD 84 undef = u 48 := by rw [← hA, hF0]; kernel_rfl
        have g77 : A.tmps[77]? = some (u 41) := by rw [← hA, hF0]; kernel_rfl
        clear hA hF0
        simp only [f41, f48] at a84 g77
        clear hF
        have x0 := hS.at (hb) (4) ((.int .i64 x.top.n.lo)) (by simp)
        go_simp
        exact hK.out _ _ (Alters.refl _) rfl
      · intro u W K hS hF hK
        have f41 : u 41 = .bool false := hF 41 (by kernel_rfl)
        have f47 : u 47 = (.int .i64 x.top.n.lo) := hF 47 (by kernel_rfl)
        have f49 : u 49 = (.int .i64 x.top.n.lo) := hF 49 (by kernel_rfl)
        generalize hA : F u = A at hK ⊢
        have a77 : A.tmps.getD 77 undef = u 41 := by rw [← hA, hF0]; kernel_rfl
        have a83 : A.tmps.getD 83 undef = u 47 := by rw [← hA, hF0]; kernel_rfl
        have a85 : A.tmps.getD 85 undef = u 49 := by rw [← hA, hF0]; kernel_rfl
        have g77 : A.tmps[77]? = some (u 41) := by rw [← hA, hF0]; kernel_rfl
        clear hA hF0
        simp only [f41, f47, f49] at a83 a85 g77
        clear hF
        go_simp
        exact hK.out _ _ (Alters.refl _) rfl
      · intro u W K hS hF hK
        have f41 : u 41 = .bool false := hF 41 (by kernel_rfl)
        have f50 : u 50 = .bool false := hF 50 (by kernel_rfl)
        generalize hA : F u = A at hK ⊢
        have a77 : A.tmps.getD 77 undef = u 41 := by rw [← hA, hF0]; kernel_rfl
        have a86 : A.tmps.getD 86 undef = u 50 := by rw [← hA, hF0]; kernel_rfl
        clear hA hF0
        simp only [f41, f50] at a77 a86
        clear hF
        go_simp
        exact hK.out _ _ (Alters.refl _) rfl
      · intro u W K hS hF hK
        have f51 : u 51 = .bool false := hF 51 (by kernel_rfl)
        generalize hA : F u = A at hK ⊢
        have a87 : A.tmps.getD 87 undef = u 51 := by rw [← hA, hF0]; kernel_rfl
        clear hA hF0
        simp only [f51] at a87
        clear hF
        go_simp
        exact hK.out _ _ (Alters.refl _) rfl
      · intro u W K hS hF hK
        have f52 : u 52 = .bool false := hF 52 (by kernel_rfl)
        generalize hA : F u = A at hK ⊢
        have a5 : A.tmps.getD 5 undef = (.slice (some ⟨g, 0, none⟩) T.length lc) := (show A.tmps.getD 5 undef = a0.tmps.getD 5 undef by rw [← hA, hF0]; kernel_rfl).trans h5
        have a88 : A.tmps.getD 88 undef = u 52 := by rw [← hA, hF0]; kernel_rfl
        have g88 : A.tmps[88]? = some (u 52) := by rw [← hA, hF0]; kernel_rfl
        clear hA hF0
        simp only [f52] at a5 g88
        clear hF
        go_simp
        exact hK.out _ _ (Alters.refl _) rfl
      · intro u W K hS hF hK
        have f52 : u 52 = .bool false := hF 52 (by kernel_rfl)
        generalize hA : F u = A at hK ⊢
        have a7 : A.tmps.getD 7 undef = (.int .i64 (k : Int)) := (show A.tmps.getD 7 undef = a0.tmps.getD 7 undef by rw [← hA, hF0]; kernel_rfl).trans h7
        have a88 : A.tmps.getD 88 undef = u 52 := by rw [← hA, hF0]; kernel_rfl
        have g88 : A.tmps[88]? = some (u 52) := by rw [← hA, hF0]; kernel_rfl
        clear hA hF0
        simp only [f52] at a7 g88
        clear hF
        go_simp
        exact hK.out _ _ (Alters.refl _) rfl
      · intro u W K hS hF hK
        have f52 : u 52 = .bool false := hF 52 (by kernel_rfl)
        have f53 : u 53 = .slice (some ⟨g, 0, none⟩) T.length lc := hF 53 (by kernel_rfl)
        have f54 : u 54 = .int .i64 (k : Int) := hF 54 (by kernel_rfl)
        generalize hA : F u = A at hK ⊢
        have a88 : A.tmps.getD 88 undef = u 52 := by rw [← hA, hF0]; kernel_rfl
        have a89 : A.tmps.getD 89 undef = u 53 := by rw [← hA, hF0]; kernel_rfl
        have a90 : A.tmps.getD 90 undef = u 54 := by rw [← hA, hF0]; kernel_rfl
        have g88 : A.tmps[88]? = some (u 52) := by rw [← hA, hF0]; kernel_rfl
        clear hA hF0
        simp only [f52, f53, f54] at a89 a90 g88
        clear hF
        go_simp
        exact hK.out _ _ (Alters.refl _) rfl
      · intro u W K hS hF hK
        have f52 : u 52 = .bool false := hF 52 (by kernel_rfl)
        have f55 : u 55 = .pointer (some ⟨g, k * 8, none⟩) := hF 55 (by kernel_rfl)
        generalize hA : F u = A at hK ⊢
        have a88 : A.tmps.getD 88 undef = u 52 := by rw [← hA, hF0]; kernel_rfl
        have a91 : A.tmps.getD 91 undef = u 55 := by rw [← hA, hF0]; kernel_rfl
        have g88 : A.tmps[88]? = some (u 52) := by rw [← hA, hF0]; kernel_rfl
        clear hA hF0
        simp only [f52, f55] at a91 g88
        clear hF
        go_simp
        exact hK.out _ _ (Alters.refl _) rfl
      · intro u W K hS hF hK
        have f52 : u 52 = .bool false := hF 52 (by kernel_rfl)
        have f56 : u 56 = .pointer (some ⟨g, k * 8 + 4, none⟩) := hF 56 (by kernel_rfl)
        generalize hA : F u = A at hK ⊢
        have a88 : A.tmps.getD 88 undef = u 52 := by rw [← hA, hF0]; kernel_rfl
        have a92 : A.tmps.getD 92 undef = u 56 := by rw [← hA, hF0]; kernel_rfl
        have g88 : A.tmps[88]? = some (u 52) := by rw [← hA, hF0]; kernel_rfl
        clear hA hF0
        simp only [f52, f56] at a92 g88
        clear hF
        go_simp
        exact hK.out _ _ (Alters.refl _) rfl
      · intro u W K hS hF hK
        have f52 : u 52 = .bool false := hF 52 (by kernel_rfl)
        have f57 : u 57 = .pointer (some ⟨g, k * 8 + 5, none⟩) := hF 57 (by kernel_rfl)
        generalize hA : F u = A at hK ⊢
        have a88 : A.tmps.getD 88 undef = u 52 := by rw [← hA, hF0]; kernel_rfl
        have a93 : A.tmps.getD 93 undef = u 57 := by rw [← hA, hF0]; kernel_rfl
        have g88 : A.tmps[88]? = some (u 52) := by rw [← hA, hF0]; kernel_rfl
        clear hA hF0
        simp only [f52, f57] at a93 g88
        clear hF
        have x0 := hS.at (g) (k * 8 + 5) ((.int .i64 x.top.n.hi)) (by simp)
        go_simp
        exact hK.out _ _ (Alters.refl _) rfl
      · intro u W K hS hF hK
        have f52 : u 52 = .bool false := hF 52 (by kernel_rfl)
        generalize hA : F u = A at hK ⊢
        have a8 : A.tmps.getD 8 undef = (.pointer (some ⟨hb, 0, none⟩)) := (show A.tmps.getD 8 undef = a0.tmps.getD 8 undef by rw [← hA, hF0]; kernel_rfl).trans h8
        have a88 : A.tmps.getD 88 undef = u 52 := by rw [← hA, hF0]; kernel_rfl
        have g88 : A.tmps[88]? = some (u 52) := by rw [← hA, hF0]; kernel_rfl
        clear hA hF0
        simp only [f52] at a8 g88
        clear hF
        go_simp
        exact hK.out _ _ (Alters.refl _) rfl
      · intro u W K hS hF hK
        have f52 : u 52 = .bool false := hF 52 (by kernel_rfl)
        have f59 : u 59 = .pointer (some ⟨hb, 5, none⟩) := hF 59 (by kernel_rfl)
        generalize hA : F u = A at hK ⊢
        have a88 : A.tmps.getD 88 undef = u 52 := by rw [← hA, hF0]; kernel_rfl
        have a95 : A.tmps.getD 95 undef = u 59 := by rw [← hA, hF0]; kernel_rfl
        have g88 : A.tmps[88]? = some (u 52) := by rw [← hA, hF0]; kernel_rfl
        clear hA hF0
        simp only [f52, f59] at a95 g88
        clear hF
        have x0 := hS.at (hb) (5) ((.int .i64 x.top.n.hi)) (by simp)
        go_simp
        exact hK.out _ _ (Alters.refl _) rfl
      · intro u W K hS hF hK
        have f52 : u 52 = .bool false := hF 52 (by kernel_rfl)
        have f58 : u 58 = (.int .i64 x.top.n.hi) := hF 58 (by kernel_rfl)
        have f60 : u 60 = (.int .i64 x.top.n.hi) := hF 60 (by kernel_rfl)
        generalize hA : F u = A at hK ⊢
        have a88 : A.tmps.getD 88 undef = u 52 := by rw [← hA, hF0]; kernel_rfl
        have a94 : A.tmps.getD 94 undef = u 58 := by rw [← hA, hF0]; kernel_rfl
        have a96 : A.tmps.getD 96 undef = u 60 := by rw [← hA, hF0]; kernel_rfl
        have g88 : A.tmps[88]? = some (u 52) := by rw [← hA, hF0]; kernel_rfl
        clear hA hF0
        simp only [f52, f58, f60] at a94 a96 g88
        clear hF
        go_simp
        exact hK.out _ _ (Alters.refl _) rfl
      · intro u W K hS hF hK
        have f52 : u 52 = .bool false := hF 52 (by kernel_rfl)
        have f61 : u 61 = .bool false := hF 61 (by kernel_rfl)
        generalize hA : F u = A at hK ⊢
        have a88 : A.tmps.getD 88 undef = u 52 := by rw [← hA, hF0]; kernel_rfl
        have a97 : A.tmps.getD 97 undef = u 61 := by rw [← hA, hF0]; kernel_rfl
        clear hA hF0
        simp only [f52, f61] at a88 a97
        clear hF
        go_simp
        exact hK.out _ _ (Alters.refl _) rfl
      · intro u W K hS hF hK
        have f62 : u 62 = .bool false := hF 62 (by kernel_rfl)
        generalize hA : F u = A at hK ⊢
        have a98 : A.tmps.getD 98 undef = u 62 := by rw [← hA, hF0]; kernel_rfl
        clear hA hF0
        simp only [f62] at a98
        clear hF
        go_simp
        exact hK.out _ _ (Alters.refl _) rfl
      · intro u W K hS hF hK
        have f63 : u 63 = .bool false := hF 63 (by kernel_rfl)
        generalize hA : F u = A at hK ⊢
        have a5 : A.tmps.getD 5 undef = (.slice (some ⟨g, 0, none⟩) T.length lc) := (show A.tmps.getD 5 undef = a0.tmps.getD 5 undef by rw [← hA, hF0]; kernel_rfl).trans h5
        have a99 : A.tmps.getD 99 undef = u 63 := by rw [← hA, hF0]; kernel_rfl
        have g99 : A.tmps[99]? = some (u 63) := by rw [← hA, hF0]; kernel_rfl
        clear hA hF0
        simp only [f63] at a5 g99
        clear hF
        go_simp
        exact hK.out _ _ (Alters.refl _) rfl
      · intro u W K hS hF hK
        have f63 : u 63 = .bool false := hF 63 (by kernel_rfl)
        generalize hA : F u = A at hK ⊢
        have a7 : A.tmps.getD 7 undef = (.int .i64 (k : Int)) := (show A.tmps.getD 7 undef = a0.tmps.getD 7 undef by rw [← hA, hF0]; kernel_rfl).trans h7
        have a99 : A.tmps.getD 99 undef = u 63 := by rw [← hA, hF0]; kernel_rfl
        have g99 : A.tmps[99]? = some (u 63) := by rw [← hA, hF0]; kernel_rfl
        clear hA hF0
        simp only [f63] at a7 g99
        clear hF
        go_simp
        exact hK.out _ _ (Alters.refl _) rfl
      · intro u W K hS hF hK
        have f63 : u 63 = .bool false := hF 63 (by kernel_rfl)
        have f64 : u 64 = .slice (some ⟨g, 0, none⟩) T.length lc := hF 64 (by kernel_rfl)
        have f65 : u 65 = .int .i64 (k : Int) := hF 65 (by kernel_rfl)
        generalize hA : F u = A at hK ⊢
        have a99 : A.tmps.getD 99 undef = u 63 := by rw [← hA, hF0]; kernel_rfl
        have a100 : A.tmps.getD 100 undef = u 64 := by rw [← hA, hF0]; kernel_rfl
        have a101 : A.tmps.getD 101 undef = u 65 := by rw [← hA, hF0]; kernel_rfl
        have g99 : A.tmps[99]? = some (u 63) := by rw [← hA, hF0]; kernel_rfl
        clear hA hF0
        simp only [f63, f64, f65] at a100 a101 g99
        clear hF
        go_simp
        exact hK.out _ _ (Alters.refl _) rfl
      · intro u W K hS hF hK
        have f63 : u 63 = .bool false := hF 63 (by kernel_rfl)
        have f66 : u 66 = .pointer (some ⟨g, k * 8, none⟩) := hF 66 (by kernel_rfl)
        generalize hA : F u = A at hK ⊢
        have a99 : A.tmps.getD 99 undef = u 63 := by rw [← hA, hF0]; kernel_rfl
        have a102 : A.tmps.getD 102 undef = u 66 := by rw [← hA, hF0]; kernel_rfl
        have g99 : A.tmps[99]? = some (u 63) := by rw [← hA, hF0]; kernel_rfl
        clear hA hF0
        simp only [f63, f66] at a102 g99
        clear hF
        go_simp
        exact hK.out _ _ (Alters.refl _) rfl
      · intro u W K hS hF hK
        have f63 : u 63 = .bool false := hF 63 (by kernel_rfl)
        have f67 : u 67 = .pointer (some ⟨g, k * 8 + 6, none⟩) := hF 67 (by kernel_rfl)
        generalize hA : F u = A at hK ⊢
        have a99 : A.tmps.getD 99 undef = u 63 := by rw [← hA, hF0]; kernel_rfl
        have a103 : A.tmps.getD 103 undef = u 67 := by rw [← hA, hF0]; kernel_rfl
        have g99 : A.tmps[99]? = some (u 63) := by rw [← hA, hF0]; kernel_rfl
        clear hA hF0
        simp only [f63, f67] at a103 g99
        clear hF
        have x0 := hS.at (g) (k * 8 + 6) ((.int .i64 q0)) (by simp)
        go_simp
        exact hK.out _ _ (Alters.refl _) rfl
      · intro u W K hS hF hK
        have f63 : u 63 = .bool false := hF 63 (by kernel_rfl)
        generalize hA : F u = A at hK ⊢
        have a6 : A.tmps.getD 6 undef = (.slice (some ⟨b, o, none⟩) T.length tc) := (show A.tmps.getD 6 undef = a0.tmps.getD 6 undef by rw [← hA, hF0]; kernel_rfl).trans h6
        have a99 : A.tmps.getD 99 undef = u 63 := by rw [← hA, hF0]; kernel_rfl
        have g99 : A.tmps[99]? = some (u 63) := by rw [← hA, hF0]; kernel_rfl
        clear hA hF0
        simp only [f63] at a6 g99
        clear hF
        go_simp
        exact hK.out _ _ (Alters.refl _) rfl
      · intro u W K hS hF hK
        have f63 : u 63 = .bool false := hF 63 (by kernel_rfl)
        generalize hA : F u = A at hK ⊢
        have a8 : A.tmps.getD 8 undef = (.pointer (some ⟨hb, 0, none⟩)) := (show A.tmps.getD 8 undef = a0.tmps.getD 8 undef by rw [← hA, hF0]; kernel_rfl).trans h8
        have a99 : A.tmps.getD 99 undef = u 63 := by rw [← hA, hF0]; kernel_rfl
        have g99 : A.tmps[99]? = some (u 63) := by rw [← hA, hF0]; kernel_rfl
        clear hA hF0
        simp only [f63] at a8 g99
        clear hF
        have x0 := hS.at (hb) (0) ((.int .i64 x.top.n.op)) (by simp)
        have x1 := hS.at (hb) (1) ((.string x.top.n.nm)) (by simp)
        have x2 := hS.at (hb) (2) ((.int .i64 x.top.n.cmp)) (by simp)
        have x3 := hS.at (hb) (3) ((.int .i64 x.top.n.val)) (by simp)
        have x4 := hS.at (hb) (4) ((.int .i64 x.top.n.lo)) (by simp)
        have x5 := hS.at (hb) (5) ((.int .i64 x.top.n.hi)) (by simp)
        have x6 := hS.at (hb) (6) ((.slice x.top.a x.kids.length x.top.cap)) (by simp)
        go_simp
        exact hK.out _ _ (Alters.refl _) rfl
      · intro u W K hS hF hK
        have f63 : u 63 = .bool false := hF 63 (by kernel_rfl)
        have f69 : u 69 = .slice (some ⟨b, o, none⟩) T.length tc := hF 69 (by kernel_rfl)
        have f70 : u 70 = Ft.val x := hF 70 (by kernel_rfl)
        generalize hA : F u = A at hK ⊢
        have a99 : A.tmps.getD 99 undef = u 63 := by rw [← hA, hF0]; kernel_rfl
        have a105 : A.tmps.getD 105 undef = u 69 := by rw [← hA, hF0]; kernel_rfl
        have a106 : A.tmps.getD 106 undef = u 70 := by rw [← hA, hF0]; kernel_rfl
        have g99 : A.tmps[99]? = some (u 63) := by rw [← hA, hF0]; kernel_rfl
        clear hA hF0
        simp only [f63, f69, f70] at a105 a106 g99
        clear hF
        go_simp
        refine (HK0.out W hS.quiet).mono ?_
        rintro e W2 ⟨rfl, hq⟩
        exact hK.out _ _ hq rfl
      · intro u W K hS hF hK
        have f63 : u 63 = .bool false := hF 63 (by kernel_rfl)
        have f68 : u 68 = (.int .i64 q0) := hF 68 (by kernel_rfl)
        have f71 : u 71 = .int .i64 q0 := hF 71 (by kernel_rfl)
        generalize hA : F u = A at hK ⊢
        have a99 : A.tmps.getD 99 undef = u 63 := by rw [← hA, hF0]; kernel_rfl
        have a104 : A.tmps.getD 104 undef = u 68 := by rw [← hA, hF0]; kernel_rfl
        have a107 : A.tmps.getD 107 undef = u 71 := by rw [← hA, hF0]; kernel_rfl
        have g99 : A.tmps[99]? = some (u 63) := by rw [← hA, hF0]; kernel_rfl
        clear hA hF0
        simp only [f63, f68, f71] at a104 a107 g99
        clear hF
        go_simp
        exact hK.out _ _ (Alters.refl _) rfl
      · intro u W K hS hF hK
        have f63 : u 63 = .bool false := hF 63 (by kernel_rfl)
        have f72 : u 72 = .bool false := hF 72 (by kernel_rfl)
        generalize hA : F u = A at hK ⊢
        have a99 : A.tmps.getD 99 undef = u 63 := by rw [← hA, hF0]; kernel_rfl
        have a108 : A.tmps.getD 108 undef = u 72 := by rw [← hA, hF0]; kernel_rfl
        clear hA hF0
        simp only [f63, f72] at a99 a108
        clear hF
        go_simp
        exact hK.out _ _ (Alters.refl _) rfl
      · intro u W K hS hF hK
        have f73 : u 73 = .bool false := hF 73 (by kernel_rfl)
        generalize hA : F u = A at hK ⊢
        have a109 : A.tmps.getD 109 undef = u 73 := by rw [← hA, hF0]; kernel_rfl
        clear hA hF0
        simp only [f73] at a109
        clear hF
        go_simp
        exact hK.out _ _ (Alters.refl _) rfl
      · intro u W K hS hF hK
        have f74 : u 74 = .bool false := hF 74 (by kernel_rfl)
        generalize hA : F u = A at hK ⊢
        have a5 : A.tmps.getD 5 undef = (.slice (some ⟨g, 0, none⟩) T.length lc) := (show A.tmps.getD 5 undef = a0.tmps.getD 5 undef by rw [← hA, hF0]; kernel_rfl).trans h5
        have a110 : A.tmps.getD 110 undef = u 74 := by rw [← hA, hF0]; kernel_rfl
        have g110 : A.tmps[110]? = some (u 74) := by rw [← hA, hF0]; kernel_rfl
        clear hA hF0
        simp only [f74] at a5 g110
        clear hF
        go_simp
        exact hK.out _ _ (Alters.refl _) rfl
      · intro u W K hS hF hK
        have f74 : u 74 = .bool false := hF 74 (by kernel_rfl)
        generalize hA : F u = A at hK ⊢
        have a7 : A.tmps.getD 7 undef = (.int .i64 (k : Int)) := (show A.tmps.getD 7 undef = a0.tmps.getD 7 undef by rw [← hA, hF0]; kernel_rfl).trans h7
        have a110 : A.tmps.getD 110 undef = u 74 := by rw [← hA, hF0]; kernel_rfl
        have g110 : A.tmps[110]? = some (u 74) := by rw [← hA, hF0]; kernel_rfl
        clear hA hF0
        simp only [f74] at a7 g110
        clear hF
        go_simp
        exact hK.out _ _ (Alters.refl _) rfl
      · intro u W K hS hF hK
        have f74 : u 74 = .bool false := hF 74 (by kernel_rfl)
        have f75 : u 75 = .slice (some ⟨g, 0, none⟩) T.length lc := hF 75 (by kernel_rfl)
        have f76 : u 76 = .int .i64 (k : Int) := hF 76 (by kernel_rfl)
        generalize hA : F u = A at hK ⊢
        have a110 : A.tmps.getD 110 undef = u 74 := by rw [← hA, hF0]; kernel_rfl
        have a111 : A.tmps.getD 111 undef = u 75 := by rw [← hA, hF0]; kernel_rfl
        have a112 : A.tmps.getD 112 undef = u 76 := by rw [← hA, hF0]; kernel_rfl
        have g110 : A.tmps[110]? = some (u 74) := by rw [← hA, hF0]; kernel_rfl
        clear hA hF0
        simp only [f74, f75, f76] at a111 a112 g110
        clear hF
        go_simp
        exact hK.out _ _ (Alters.refl _) rfl
      · intro u W K hS hF hK
        have f74 : u 74 = .bool false := hF 74 (by kernel_rfl)
        have f77 : u 77 = .pointer (some ⟨g, k * 8, none⟩) := hF 77 (by kernel_rfl)
        generalize hA : F u = A at hK ⊢
        have a110 : A.tmps.getD 110 undef = u 74 := by rw [← hA, hF0]; kernel_rfl
        have a113 : A.tmps.getD 113 undef = u 77 := by rw [← hA, hF0]; kernel_rfl
        have g110 : A.tmps[110]? = some (u 74) := by rw [← hA, hF0]; kernel_rfl
        clear hA hF0
        simp only [f74, f77] at a113 g110
        clear hF
        go_simp
        exact hK.out _ _ (Alters.refl _) rfl
      · intro u W K hS hF hK
        have f74 : u 74 = .bool false := hF 74 (by kernel_rfl)
        have f78 : u 78 = .pointer (some ⟨g, k * 8 + 7, none⟩) := hF 78 (by kernel_rfl)
        generalize hA : F u = A at hK ⊢
        have a110 : A.tmps.getD 110 undef = u 74 := by rw [← hA, hF0]; kernel_rfl
        have a114 : A.tmps.getD 114 undef = u 78 := by rw [← hA, hF0]; kernel_rfl
        have g110 : A.tmps[110]? = some (u 74) := by rw [← hA, hF0]; kernel_rfl
        clear hA hF0
        simp only [f74, f78] at a114 g110
        clear hF
        have x0 := hS.at (g) (k * 8 + 7) ((.int .i64 q1)) (by simp)
        go_simp
        exact hK.out _ _ (Alters.refl _) rfl
      · intro u W K hS hF hK
        have f74 : u 74 = .bool false := hF 74 (by kernel_rfl)
        generalize hA : F u = A at hK ⊢
        have a6 : A.tmps.getD 6 undef = (.slice (some ⟨b, o, none⟩) T.length tc) := (show A.tmps.getD 6 undef = a0.tmps.getD 6 undef by rw [← hA, hF0]; kernel_rfl).trans h6
        have a110 : A.tmps.getD 110 undef = u 74 := by rw [← hA, hF0]; kernel_rfl
        have g110 : A.tmps[110]? = some (u 74) := by rw [← hA, hF0]; kernel_rfl
        clear hA hF0
        simp only [f74] at a6 g110
        clear hF
        go_simp
        exact hK.out _ _ (Alters.refl _) rfl
      · intro u W K hS hF hK
        have f74 : u 74 = .bool false := hF 74 (by kernel_rfl)
        generalize hA : F u = A at hK ⊢
        have a8 : A.tmps.getD 8 undef = (.pointer (some ⟨hb, 0, none⟩)) := (show A.tmps.getD 8 undef = a0.tmps.getD 8 undef by rw [← hA, hF0]; kernel_rfl).trans h8
        have a110 : A.tmps.getD 110 undef = u 74 := by rw [← hA, hF0]; kernel_rfl
        have g110 : A.tmps[110]? = some (u 74) := by rw [← hA, hF0]; kernel_rfl
        clear hA hF0
        simp only [f74] at a8 g110
        clear hF
        have x0 := hS.at (hb) (0) ((.int .i64 x.top.n.op)) (by simp)
        have x1 := hS.at (hb) (1) ((.string x.top.n.nm)) (by simp)
        have x2 := hS.at (hb) (2) ((.int .i64 x.top.n.cmp)) (by simp)
        have x3 := hS.at (hb) (3) ((.int .i64 x.top.n.val)) (by simp)
        have x4 := hS.at (hb) (4) ((.int .i64 x.top.n.lo)) (by simp)
        have x5 := hS.at (hb) (5) ((.int .i64 x.top.n.hi)) (by simp)
        have x6 := hS.at (hb) (6) ((.slice x.top.a x.kids.length x.top.cap)) (by simp)
        go_simp
        exact hK.out _ _ (Alters.refl _) rfl
      · intro u W K hS hF hK
        have f74 : u 74 = .bool false := hF 74 (by kernel_rfl)
        have f80 : u 80 = .slice (some ⟨b, o, none⟩) T.length tc := hF 80 (by kernel_rfl)
        have f81 : u 81 = Ft.val x := hF 81 (by kernel_rfl)
        generalize hA : F u = A at hK ⊢
        have a110 : A.tmps.getD 110 undef = u 74 := by rw [← hA, hF0]; kernel_rfl
        have a116 : A.tmps.getD 116 undef = u 80 := by rw [← hA, hF0]; kernel_rfl
        have a117 : A.tmps.getD 117 undef = u 81 := by rw [← hA, hF0]; kernel_rfl
        have g110 : A.tmps[110]? = some (u 74) := by rw [← hA, hF0]; kernel_rfl
        clear hA hF0
        simp only [f74, f80, f81] at a116 a117 g110
        clear hF
        go_simp
        refine (HK1.out W hS.quiet).mono ?_
        rintro e W2 ⟨rfl, hq⟩
        exact hK.out _ _ hq rfl
      · intro u W K hS hF hK
        have f74 : u 74 = .bool false := hF 74 (by kernel_rfl)
        have f79 : u 79 = (.int .i64 q1) := hF 79 (by kernel_rfl)
        have f82 : u 82 = .int .i64 q1 := hF 82 (by kernel_rfl)
        generalize hA : F u = A at hK ⊢
        have a110 : A.tmps.getD 110 undef = u 74 := by rw [← hA, hF0]; kernel_rfl
        have a115 : A.tmps.getD 115 undef = u 79 := by rw [← hA, hF0]; kernel_rfl
        have a118 : A.tmps.getD 118 undef = u 82 := by rw [← hA, hF0]; kernel_rfl
        have g110 : A.tmps[110]? = some (u 74) := by rw [← hA, hF0]; kernel_rfl
        clear hA hF0
        simp only [f74, f79, f82] at a115 a118 g110
        clear hF
        go_simp
        exact hK.out _ _ (Alters.refl _) rfl
      · intro u W hS hF
        have f74 : u 74 = .bool false := hF 74 (by simp)
        have f83 : u 83 = .bool false := hF 83 (by simp)
        clear hF
        have HS := Go.Lib.hid hS
        clear hS
        simp only [hF0, h0, h1, h2, h3, h4, h5, h6, h7, h8, h9, h10, h11, h12, h13, h14, h15, h16, h17, h18, h19, h20, h21, h22, h23, h24, h25, h26, h27, h28, h29, h30, h31, h32, h33, h34, h35, f74, f83]
        clear hF0 h0 h1 h2 h3 h4 h5 h6 h7 h8 h9 h10 h11 h12 h13 h14 h15 h16 h17 h18 h19 h20 h21 h22 h23 h24 h25 h26 h27 h28 h29 h30 h31 h32 h33 h34 h35 f74 f83
        replace HS := Go.Lib.hid HS.out.quiet
        go_simp
        go_wp2_with fail
        go_roundw
        case rel => exact ⟨k + 1, by omega, by go_num, HQ.out.trans HS.out⟩
        case measure => simp [intOf]; omega
    · obtain rfl : k = T.length := by omega
      go_wp2_with fail
      go_ret
      exact ⟨rfl, HL.out.quiet.trans HQ.out⟩
end Go.Proofs.YtnpcakakjhiboaaDoor
