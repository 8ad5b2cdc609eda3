/- PlanBack: the walk of the law. No condition. -/
import Derived.Test.YtnpcakakjhiboaaDoorLawP16
import Derived.Test.YtnpcakakjhiboaaDoorAgain60
namespace Go.Proofs.YtnpcakakjhiboaaDoor
open Go Go.RowKit Go.Lo Go.WideShapes

set_option maxRecDepth 100000 in
set_option maxHeartbeats 4000000 in
theorem planBack_walk (t : Ft) (w : World) (hin : In AllD w t) (hw : ∀ n, n ∈ t.pre → n.top.n.wf) (hS : Shapes w) : Calls Tryd.prog 15 #[t.val] w (Said (.bool true) w) := by
  have HL := Go.Lib.hid ((LawP.zero w hS).box 28 hin)
  have HNUM := Go.Lib.hid (num_of hw)
  clear hin hS hw
  unfold Ft.val
  go_enter Tryd.func15, Tryd.ntmps15
  go_wp2_with fail
  generalize w.alloc _ = w1 at *
  refine (awake16_walk w1 HL.out.shapes).mono ?_
  rintro e w2 ⟨rfl, hq⟩
  replace HL := Go.Lib.hid (HL.out.keep hq)
  clear hq
  obtain ⟨x00, x01, x02, x03, x04, x05, x06⟩ := HL.out.seven (w.heap.size) 28 t (by simp)
  have HC := Go.Lib.hid (left_any16 AllD t 40 w2 (HL.out.inn (w.heap.size) 28 t (by simp)) (by decide))
  unfold Ft.val at HC
  go_wp2_with fail
  refine HC.out.mono ?_
  rintro e w3 ⟨rfl, hq⟩
  clear x00 x01 x02 x03 x04 x05 x06 HC
  replace HL := Go.Lib.hid (HL.out.keep hq)
  clear hq
  by_cases h0 : leftF (Ft.pl t) 40 ≤ 0
  · have b0 : decide (leftF (Ft.pl t) 40 ≤ 0) = true := by simpa using h0
    clear h0
    go_wp2_with fail
    go_ret
    exact ⟨rfl, HL.out.quiet⟩
  have hz0 := left_size16 h0
  have HZt : Hid (t.size ≤ 40) := Go.Lib.hid (by have := hz0; omega)
  have b0 : decide (leftF (Ft.pl t) 40 ≤ 0) = false := by simpa using h0
  clear hz0 h0
  obtain ⟨x00, x01, x02, x03, x04, x05, x06⟩ := HL.out.seven (w.heap.size) 28 t (by simp)
  have HC := Go.Lib.hid (sound_walk AllD t w3 (HL.out.inn (w.heap.size) 28 t (by simp)) HL.out.shapes (by have := HZt.out; omega))
  by_cases hf : first (Ft.pl t) = 0
  rotate_left
  · rw [show decide (first (Ft.pl t) = 0) = false by simpa using hf] at HC
    try unfold Ft.val at HC
    clear hf
    go_wp2_with fail
    refine HC.out.mono ?_
    rintro e w4 ⟨rfl, hq⟩
    clear x00 x01 x02 x03 x04 x05 x06 HC
    replace HL := Go.Lib.hid (HL.out.keep hq)
    clear hq
    go_wp2_with fail
    go_ret
    exact ⟨rfl, HL.out.quiet⟩
  rw [show decide (first (Ft.pl t) = 0) = true by simpa using hf] at HC
  try unfold Ft.val at HC
  have HSt := Go.Lib.hid ((first_zero _).1 hf)
  clear hf
  go_wp2_with fail
  refine HC.out.mono ?_
  rintro e w4 ⟨rfl, hq⟩
  clear x00 x01 x02 x03 x04 x05 x06 HC b0
  replace HL := Go.Lib.hid (HL.out.keep hq)
  clear hq
  obtain ⟨Y, hA⟩ : ∃ l, l = planOf (Ft.pl t) := ⟨_, rfl⟩
  have HA : Hid (planOf (Ft.pl t) = Y) := Go.Lib.hid hA.symm
  have HAL : Hid (Y.length ≤ 1000) := Go.Lib.hid (by rw [hA]; have := planOf_len (f := Ft.pl t); rw [pl_size] at this; have := HZt.out; omega)
  clear hA
  obtain ⟨U, hU⟩ : ∃ U, U = partsOf (normOf (Ft.pl t)) := ⟨_, rfl⟩
  have HB : Hid (Backs Y U) := Go.Lib.hid (by rw [← HA.out, hU]; exact backs_of HSt.out)
  have HUL : Hid (U[Y.length - 1]? = some (normOf (Ft.pl t))) := Go.Lib.hid (by rw [← HA.out, hU]; exact back_last HSt.out)
  have HUS : Hid (∀ u, u ∈ U → u.size ≤ 160) := Go.Lib.hid (fun u hu => by rw [hU] at hu; have h1 := parts_size hu; have h2 := normOf_size16 (Ft.pl t) HSt.out; rw [pl_size] at h2; have := HZt.out; omega)
  have hyl : 0 < Y.length ∧ Y.length ≤ 160 := by
    have h1 := once_len HSt.out
    rw [HA.out] at h1
    have h2 := normOf_size16 (Ft.pl t) HSt.out
    rw [pl_size] at h2
    have := HZt.out
    omega
  obtain ⟨hyl1, hyl2⟩ := hyl
  obtain ⟨R, hR⟩ : ∃ R, R = U.map fun u => Value.int .i64 (u.size : Int) := ⟨_, rfl⟩
  have HRU : Hid (∀ (i : Nat) (z : Fm), U[i]? = some z → R[i]? = some (.int .i64 (z.size : Int))) := Go.Lib.hid (fun i z hz => by rw [hR, List.getElem?_map, hz]; rfl)
  clear hU hR
  obtain ⟨x00, x01, x02, x03, x04, x05, x06⟩ := HL.out.seven (w.heap.size) 28 t (by simp)
  have HC := Go.Lib.hid (plan_of (f := Ft.pl t) rfl (HL.out.inn (w.heap.size) 28 t (by simp)) HL.out.shapes (by (repeat first | rw [exOne_size] | rw [exTwo_size] | rw [pl_size]); have := HZt.out; omega) HNUM.out HA.out)
  unfold Ft.val at HC
  go_wp2_with fail
  refine HC.out.mono ?_
  rintro e w5 ⟨aa, ca, rfl, ha, hq⟩
  clear x00 x01 x02 x03 x04 x05 x06 HC
  replace HL := Go.Lib.hid ((HL.out.keep hq).row ha)
  clear ha 
  clear hq
  have y0 : ((Y.length : Int) == 0) = false := by rw [beq_eq_false_iff_ne]; omega
  have y1 : decide ((200 : Int) < (Y.length : Int)) = false := decide_eq_false (by omega)
  obtain ⟨i3, hi3, hz3, hs3, hb3⟩ := info_parts info3
  go_wp2_with fail
  go_loopw [6, 7] (fun v i wr => ∃ k : Nat, k ≤ Y.length ∧ i = .int .i64 k ∧ wr.ownsRow w5.heap.size 3 1 v k (R.take k) ∧ Quiet w5 wr) (fun _ i _ => Y.length - (intOf i).toNat)
  case atStart => exact ⟨0, Nat.zero_le _, rfl, World.ownsRow_nil _ _ _ _, Alters.refl _⟩
  case round =>
    obtain ⟨k, hk, rfl, hrow, hq⟩ := hrel
    have HR := Go.Lib.hid hrow
    have HQ := Go.Lib.hid hq
    replace HL := Go.Lib.hid (HL.out.keep hq)
    have hbs := HQ.out.size
    clear hrow hq y0 y1
    by_cases hlt : k < Y.length
    rotate_left
    · obtain rfl : k = Y.length := by omega
      obtain ⟨m, hm⟩ : ∃ m : Nat, Y.length = m + 1 := ⟨Y.length - 1, by omega⟩
      have HM : Hid (U[m]? = some (normOf (Ft.pl t))) := Go.Lib.hid (by have := HUL.out; rwa [hm, Nat.add_sub_cancel] at this)
      have hm1 : (Y.length : Int) - 1 = (m : Int) := by omega
      have hwm : IntKind.i64.wrap (m : Int) = (m : Int) := by rw [IntKind.wrap_i64]; omega
      clear hm hk
      clear hlt
      go_upto_region 24 with (fail)
      refine wp_region_wants (by kernel_rfl) (by kernel_rfl) (by kernel_rfl) (by kernel_rfl) (LawP w [(w.heap.size, 28, t)] [] [(aa, Y)]) (fun _ _ hq h => h.keep hq) [Want.is (.slice aa Y.length ca), Want.is (.slice aa Y.length ca), Want.is (.int .i64 (Y.length : Int)), Want.is (.int .i64 (m : Int)), Want.fm AllD (normOf (Ft.pl t)), Want.is (Ft.val t), Want.fm AllD (normOf (Ft.pl t)), Want.is (.bool true)] (HL.out.keep ((Alters.refl _).drew)) (by decide) ?_
      refine Steps.cons ?_ (Steps.cons ?_ (Steps.cons ?_ (Steps.cons ?_ (Steps.cons ?_ (Steps.cons ?_ (Steps.cons ?_ (Steps.cons ?_ (Steps.last ?_))))))))
      · intro u W K hS hF hK
        simp only [putsFrom, Act.put, Nat.reduceAdd, List.setIfInBounds_toArray, List.set_cons_zero, List.set_cons_succ] at hK ⊢
        clear hF
        go_simp
        exact hK.out _ _ (Alters.refl _) rfl
      · intro u W K hS hF hK
        simp only [putsFrom, Act.put, Nat.reduceAdd, List.setIfInBounds_toArray, List.set_cons_zero, List.set_cons_succ] at hK ⊢
        clear hF
        go_simp
        exact hK.out _ _ (Alters.refl _) rfl
      · intro u W K hS hF hK
        have f1 : u 1 = .slice aa Y.length ca := hF 1 (by kernel_rfl)
        simp only [putsFrom, Act.put, Nat.reduceAdd, List.setIfInBounds_toArray, List.set_cons_zero, List.set_cons_succ, f1] at hK ⊢
        clear hF
        go_simp
        exact hK.out _ _ (Alters.refl _) rfl
      · intro u W K hS hF hK
        have f2 : u 2 = .int .i64 (Y.length : Int) := hF 2 (by kernel_rfl)
        simp only [putsFrom, Act.put, Nat.reduceAdd, List.setIfInBounds_toArray, List.set_cons_zero, List.set_cons_succ, f2] at hK ⊢
        clear hF
        go_simp
        exact hK.out _ _ (Alters.refl _) rfl
      · intro u W K hS hF hK
        have f0 : u 0 = .slice aa Y.length ca := hF 0 (by kernel_rfl)
        have f3 : u 3 = .int .i64 (m : Int) := hF 3 (by kernel_rfl)
        simp only [putsFrom, Act.put, Nat.reduceAdd, List.setIfInBounds_toArray, List.set_cons_zero, List.set_cons_succ, f0, f3] at hK ⊢
        clear hF
        go_simp
        refine (again_any HB.out m aa ca W (normOf (Ft.pl t)) HM.out (hS.st aa Y (by simp))).mono ?_
        rintro e W2 ⟨tb, rfl, hpb, hib, hq⟩
        exact hK.out _ _ hq ⟨tb, rfl, hpb, hib.mono (fun _ _ _ => trivial)⟩
      · intro u W K hS hF hK
        simp only [putsFrom, Act.put, Nat.reduceAdd, List.setIfInBounds_toArray, List.set_cons_zero, List.set_cons_succ] at hK ⊢
        clear hF
        obtain ⟨x0, x1, x2, x3, x4, x5, x6⟩ := hS.seven (w.heap.size) 28 t (by simp)
        go_simp
        exact hK.out _ _ (Alters.refl _) rfl
      · intro u W K hS hF hK
        have f5 : u 5 = Ft.val t := hF 5 (by kernel_rfl)
        simp only [putsFrom, Act.put, Nat.reduceAdd, List.setIfInBounds_toArray, List.set_cons_zero, List.set_cons_succ, f5] at hK ⊢
        clear hF
        go_simp
        refine (normOf_v AllD t W (hS.inn (w.heap.size) 28 t (by simp)) hS.shapes (by have := HZt.out; omega) allD).mono ?_
        rintro e W2 ⟨v, rfl, hm, hq⟩
        exact hK.out _ _ hq hm
      · intro u W K hS hF hK
        have f4 : MadeIn AllD (normOf (Ft.pl t)) (u 4) W := hF 4 (by kernel_rfl)
        have f6 : MadeIn AllD (normOf (Ft.pl t)) (u 6) W := hF 6 (by kernel_rfl)
        simp only [putsFrom, Act.put, Nat.reduceAdd, List.setIfInBounds_toArray, List.set_cons_zero, List.set_cons_succ] at hK ⊢
        clear hF
        obtain ⟨ta, ea, hpa, hia⟩ := f4
        simp only [ea] at hK ⊢
        obtain ⟨tb, eb, hpb, hib⟩ := f6
        simp only [eb] at hK ⊢
        go_simp
        refine (same9_walk AllD ta tb W hia hib (by rw [← pl_size, hpa]; have := normOf_size16 (Ft.pl t) HSt.out; rw [pl_size] at this; have := HZt.out; omega)).mono ?_
        rintro e W2 ⟨rfl, hq⟩
        exact hK.out _ _ hq (show Value.bool (same (Ft.pl ta) (Ft.pl tb)) = .bool true by rw [hpa, hpb, same_self])
      · intro u W hS hF
        have f7 : u 7 = .bool true := hF 7 (by simp)
        simp only [putsFrom, Act.put, Nat.reduceAdd, List.setIfInBounds_toArray, List.set_cons_zero, List.set_cons_succ, f7]
        clear hF f7
        have HS := Go.Lib.hid hS
        clear hS
        go_simp
        go_wp2
        go_ret
        exact ⟨rfl, HS.out.quiet⟩
    have hk2 : Y[k]? = some Y[k] := by simp [hlt]
    obtain ⟨u, hu, hun, hcase⟩ := HB.out.cases hk2
    obtain ⟨g, rfl, qx⟩ := (HL.out.st aa Y (by simp)).at hk2
    have x6 := qx 6 _ rfl
    have x7 := qx 7 _ rfl
    have hus := HUS.out u (List.mem_of_getElem? hu)
    obtain ⟨A, c, rfl⟩ := own_form HR.out
    have HTK : Hid (R.take k ++ [.int .i64 (u.size : Int)] = R.take (k + 1)) := Go.Lib.hid (by
      have := HRU.out k u hu
      rw [List.take_add_one, this]; rfl)
    have HRD : Hid (∀ (p : Nat) (z : Fm), p < k → U[p]? = some z → ∃ ad, A = some ad ∧ wr.cell? (ad.add p) = some (.int .i64 (z.size : Int))) := Go.Lib.hid (fun p z hp hz => Reads.at (Reads.own HR.out) (by rw [List.getElem?_take, if_pos hp, HRU.out p z hz]))
    have HPS : Hid (∀ (p : Nat) (z : Fm), U[p]? = some z → z.size ≤ 160) := Go.Lib.hid (fun p z hz => HUS.out z (List.mem_of_getElem? hz))
    clear qx hk2 hun
    generalize Y[k] = x at *
    obtain ⟨n, xa, xb⟩ := x
    simp only at x6 x7 hcase
    rcases hcase with ⟨hks, rfl, rfl⟩ | ⟨z1, p, hks, rfl, hp, hup, rfl⟩ | ⟨z1, z2, p, q, hks, rfl, hp, hup, rfl, hq, huq⟩
  
    · have dk1 : decide ((k : Int) ≤ -1) = false := decide_eq_false (by omega)
      have hsz : (u.size : Int) = 1 := size_0 hks
      have h400 : decide ((400 : Int) < 1) = false := decide_eq_false (by omega)
      go_wp2_with (at_builtin; refine wpList_append_lies _ rfl (.tmp 103) (.tmp 105) 72 rfl w5.heap.size 3 i3 _ 1 8 Tryd.underlying72 hi3 hz3 hs3 hb3 rfl (by decide) (.slice A k c) k _ rfl (row_keep HR.out ((Alters.refl (p := fun _ => False) wr).alloc _) (by simp)) ⟨wr.heap.size, 0, none⟩ 1 1 [.int .i64 (1)] rfl rfl ?c1 ?c2 (by decide) ?c3 ?c7 ?c4 (wr.heap.size + 1) ?c5 ?c6)
      case c1 => exact World.news_of_block (Blk.new wr _ 3)
      case c2 => intro u hu; simp at hu; subst hu; rfl
      case c3 => unfold maxLen; omega
      case c7 => omega
      case c4 => simp; omega
      case c5 => simp
      case c6 =>
        intro g9 cp9 w9 hown9 hgrow9 hat9 hlt9
        have hA9 : Alters (fun k9 => (.slice A k c : Value).ownBlock = some k9) wr w9 := ((Alters.refl wr).alloc _).grown hgrow9 (fun k e _ => e)
        have HQ9 := Go.Lib.hid (HQ.out.then hA9 (fun i hi e => by have := (HR.out.lt i e).1; omega))
        have HO9 := Go.Lib.hid hown9
        have HSZ := Go.Lib.hid hsz
        clear hown9 hgrow9 hat9 hlt9 hA9 x6 x7 hsz
        go_wp2_with fail
        go_roundw
        case rel => exact ⟨k + 1, by omega, by go_num, by rw [← HTK.out, HSZ.out]; exact HO9.out, HQ9.out⟩
        case measure => simp [intOf]; omega
    · have dk1 : decide ((k : Int) ≤ -1) = false := decide_eq_false (by omega)
      have hz1 := HPS.out p z1 hup
      obtain ⟨ad1, hA1, c1⟩ := HRD.out p z1 hp hup
      have dpk : decide (k ≤ p) = false := decide_eq_false (by omega)
      have dpm : decide ((p : Int) < -1) = false := decide_eq_false (by omega)
      have dp0 : decide ((0 : Int) ≤ (p : Int)) = true := decide_eq_true (by omega)
      subst hA1
      clear hup
      have hsz : (u.size : Int) = 1 + (z1.size : Int) := size_1 hks
      have h400 : decide ((400 : Int) < 1 + (z1.size : Int)) = false := decide_eq_false (by omega)
      go_wp2_with (at_builtin; refine wpList_append_lies _ rfl (.tmp 103) (.tmp 105) 72 rfl w5.heap.size 3 i3 _ 1 8 Tryd.underlying72 hi3 hz3 hs3 hb3 rfl (by decide) (.slice (some ad1) k c) k _ rfl (row_keep HR.out ((Alters.refl (p := fun _ => False) wr).alloc _) (by simp)) ⟨wr.heap.size, 0, none⟩ 1 1 [.int .i64 (1 + (z1.size : Int))] rfl rfl ?c1 ?c2 (by decide) ?c3 ?c7 ?c4 (wr.heap.size + 1) ?c5 ?c6)
      case c1 => exact World.news_of_block (Blk.new wr _ 3)
      case c2 => intro u hu; simp at hu; subst hu; rfl
      case c3 => unfold maxLen; omega
      case c7 => omega
      case c4 => simp; omega
      case c5 => simp
      case c6 =>
        intro g9 cp9 w9 hown9 hgrow9 hat9 hlt9
        have hA9 : Alters (fun k9 => (.slice (some ad1) k c : Value).ownBlock = some k9) wr w9 := ((Alters.refl wr).alloc _).grown hgrow9 (fun k e _ => e)
        have HQ9 := Go.Lib.hid (HQ.out.then hA9 (fun i hi e => by have := (HR.out.lt i e).1; omega))
        have HO9 := Go.Lib.hid hown9
        have HSZ := Go.Lib.hid hsz
        clear hown9 hgrow9 hat9 hlt9 hA9 x6 x7 hsz
        go_wp2_with fail
        go_roundw
        case rel => exact ⟨k + 1, by omega, by go_num, by rw [← HTK.out, HSZ.out]; exact HO9.out, HQ9.out⟩
        case measure => simp [intOf]; omega
    · have hz1 := HPS.out p z1 hup
      obtain ⟨ad1, hA1, c1⟩ := HRD.out p z1 hp hup
      have dpk : decide (k ≤ p) = false := decide_eq_false (by omega)
      have dpm : decide ((p : Int) < -1) = false := decide_eq_false (by omega)
      have dp0 : decide ((0 : Int) ≤ (p : Int)) = true := decide_eq_true (by omega)
      have hz2 := HPS.out q z2 huq
      obtain ⟨ad2, hA2, c2⟩ := HRD.out q z2 hq huq
      have dqk : decide (k ≤ q) = false := decide_eq_false (by omega)
      have dqm : decide ((q : Int) < -1) = false := decide_eq_false (by omega)
      have dq0 : decide ((0 : Int) ≤ (q : Int)) = true := decide_eq_true (by omega)
      subst hA1
      obtain rfl := Option.some.inj hA2
      clear hup hA2 huq
      have hsz : (u.size : Int) = 1 + (z1.size : Int) + (z2.size : Int) := size_2 hks
      have h400 : decide ((400 : Int) < 1 + (z1.size : Int) + (z2.size : Int)) = false := decide_eq_false (by omega)
      go_wp2_with (at_builtin; refine wpList_append_lies _ rfl (.tmp 103) (.tmp 105) 72 rfl w5.heap.size 3 i3 _ 1 8 Tryd.underlying72 hi3 hz3 hs3 hb3 rfl (by decide) (.slice (some ad1) k c) k _ rfl (row_keep HR.out ((Alters.refl (p := fun _ => False) wr).alloc _) (by simp)) ⟨wr.heap.size, 0, none⟩ 1 1 [.int .i64 (1 + (z1.size : Int) + (z2.size : Int))] rfl rfl ?c1 ?c2 (by decide) ?c3 ?c7 ?c4 (wr.heap.size + 1) ?c5 ?c6)
      case c1 => exact World.news_of_block (Blk.new wr _ 3)
      case c2 => intro u hu; simp at hu; subst hu; rfl
      case c3 => unfold maxLen; omega
      case c7 => omega
      case c4 => simp; omega
      case c5 => simp
      case c6 =>
        intro g9 cp9 w9 hown9 hgrow9 hat9 hlt9
        have hA9 : Alters (fun k9 => (.slice (some ad1) k c : Value).ownBlock = some k9) wr w9 := ((Alters.refl wr).alloc _).grown hgrow9 (fun k e _ => e)
        have HQ9 := Go.Lib.hid (HQ.out.then hA9 (fun i hi e => by have := (HR.out.lt i e).1; omega))
        have HO9 := Go.Lib.hid hown9
        have HSZ := Go.Lib.hid hsz
        clear hown9 hgrow9 hat9 hlt9 hA9 x6 x7 hsz
        go_wp2_with fail
        go_roundw
        case rel => exact ⟨k + 1, by omega, by go_num, by rw [← HTK.out, HSZ.out]; exact HO9.out, HQ9.out⟩
        case measure => simp [intOf]; omega
end Go.Proofs.YtnpcakakjhiboaaDoor
