/- NormSmall: the walk of the law. No condition. -/
import Derived.Test.YtnpcakakjhiboaaDoorNormTells
import Derived.Test.YtnpcakakjhiboaaDoorLaw11
import Derived.Test.YtnpcakakjhiboaaDoorSize41
import Derived.BigQuiet
namespace Go.Proofs.YtnpcakakjhiboaaDoor
open Go Go.RowKit Go.Lo Go.WideShapes

theorem normOf_size11 (f : Fm) (h : sound f) : (normOf f).size ≤ 4 * f.size := by rw [normOf_sound h]; exact made_size f h

theorem size_of41 {w : World} {t : Ft} {f : Fm} {z : Int} (hp : Ft.pl t = f) (hi : In AllD w t) (hsz : f.size ≤ 1000) (hL : (f.size : Int) = z) : Calls Tryd.prog 41 #[t.val] w (Said (.int .i64 z) w) := by
  subst hp hL
  rw [pl_size] at *
  exact size41_walk AllD t w hi (by omega)

theorem nm_bytes7 (x : Nm) : ∃ s : ByteArray, s.data.toList = x ∧ encStr x = .string s := ⟨⟨x.toArray⟩, by simp, rfl⟩

/-- Each of these stands among those. -/
def SubL (m l : List Nm) : Prop := ∀ z, z ∈ m → z ∈ l

set_option maxRecDepth 100000 in
set_option maxHeartbeats 4000000 in
theorem normSmall_walk (t : Ft) (w : World) (hin : In AllD w t) (hw : ∀ n, n ∈ t.pre → n.top.n.wf) (hS : Shapes w) : Calls Tryd.prog 7 #[t.val] w (Said (.bool true) w) := by
  have HL := Go.Lib.hid ((LawAt.zero w hS).box 28 hin)
  have HNUM := Go.Lib.hid (num_of11 hw)
  clear hin hS hw
  unfold Ft.val
  go_enter Tryd.func7, Tryd.ntmps7
  go_wp2_with fail
  generalize w.alloc _ = w1 at *
  refine (awake_walk w1 HL.out.shapes).mono ?_
  rintro e w2 ⟨rfl, hq⟩
  replace HL := Go.Lib.hid (HL.out.keep hq)
  clear hq
  obtain ⟨x00, x01, x02, x03, x04, x05, x06⟩ := HL.out.seven (w.heap.size) 28 t (by simp)
  have HC := Go.Lib.hid (left_any AllD t 48 w2 (HL.out.inn (w.heap.size) 28 t (by simp)) (by decide))
  unfold Ft.val at HC
  go_wp2_with fail
  refine HC.out.mono ?_
  rintro e w3 ⟨rfl, hq⟩
  clear x00 x01 x02 x03 x04 x05 x06 HC
  replace HL := Go.Lib.hid (HL.out.keep hq)
  clear hq
  by_cases h0 : leftF (Ft.pl t) 48 ≤ 0
  · have b0 : decide (leftF (Ft.pl t) 48 ≤ 0) = true := by simpa using h0
    clear h0
    go_wp2_with fail
    go_ret
    exact ⟨rfl, HL.out.quiet⟩
  have hz0 := left_size11 h0
  have HZt : Hid (t.size ≤ 48) := Go.Lib.hid (by have := hz0; omega)
  have b0 : decide (leftF (Ft.pl t) 48 ≤ 0) = false := by simpa using h0
  clear hz0 h0
  obtain ⟨x00, x01, x02, x03, x04, x05, x06⟩ := HL.out.seven (w.heap.size) 28 t (by simp)
  have HC := Go.Lib.hid (sound_walk AllD t w3 (HL.out.inn (w.heap.size) 28 t (by simp)) HL.out.shapes (by have := HZt.out; omega))
  by_cases hf : first (Ft.pl t) = 0
  rotate_left
  · rw [show decide (first (Ft.pl t) = 0) = false by simpa using hf] at HC
    try unfold Ft.val at HC
    clear hf
    go_wp2_with fail
    refine HC.out.mono ?_
    rintro e w4 ⟨rfl, hq⟩
    clear x00 x01 x02 x03 x04 x05 x06 HC
    replace HL := Go.Lib.hid (HL.out.keep hq)
    clear hq
    go_wp2_with fail
    go_ret
    exact ⟨rfl, HL.out.quiet⟩
  rw [show decide (first (Ft.pl t) = 0) = true by simpa using hf] at HC
  try unfold Ft.val at HC
  have HSt := Go.Lib.hid ((first_zero _).1 hf)
  clear hf
  go_wp2_with fail
  refine HC.out.mono ?_
  rintro e w4 ⟨rfl, hq⟩
  clear x00 x01 x02 x03 x04 x05 x06 HC b0
  replace HL := Go.Lib.hid (HL.out.keep hq)
  clear hq
  obtain ⟨x00, x01, x02, x03, x04, x05, x06⟩ := HL.out.seven (w.heap.size) 28 t (by simp)
  have HC := Go.Lib.hid (normOf_v AllD t w4 (HL.out.inn (w.heap.size) 28 t (by simp)) HL.out.shapes (by have := HZt.out; omega) allD)
  unfold Ft.val at HC
  go_wp2_with fail
  refine HC.out.mono ?_
  rintro e w5 ⟨v, rfl, ⟨tg, rfl, hp, hi⟩, hq⟩
  clear x00 x01 x02 x03 x04 x05 x06 HC
  replace HL := Go.Lib.hid (HL.out.keep hq)
  clear hq
  replace HL := Go.Lib.hid (HL.out.box 28 (t := tg) (hi.mono (fun _ _ _ => trivial)))
  have HPtg : Hid (Ft.pl tg = normOf (Ft.pl t)) := hp
  clear hi hp
  unfold Ft.val
  go_upto_region 8 with (fail)
  generalize w5.alloc _ = w6 at *
  have HNZ : Hid ((normOf (Ft.pl t)).size ≤ 4 * t.size) := Go.Lib.hid (by have := normOf_size11 (Ft.pl t) HSt.out; rwa [pl_size] at this)
  obtain ⟨z, hz⟩ : ∃ z : Int, ((Ft.pl t).size : Int) = z := ⟨_, rfl⟩
  obtain ⟨y, hy⟩ : ∃ y : Int, ((normOf (Ft.pl t)).size : Int) = y := ⟨_, rfl⟩
  obtain ⟨p, hp⟩ : ∃ p, nestOf (Ft.pl t) = p := ⟨_, rfl⟩
  obtain ⟨q, hq⟩ : ∃ q, nestOf (normOf (Ft.pl t)) = q := ⟨_, rfl⟩
  have zr : 0 ≤ z ∧ z ≤ 48 ∧ y ≤ 4 * z := by
    have := HNZ.out
    have h2 := HZt.out
    rw [pl_size] at hz
    omega
  obtain ⟨z0', z1, zy⟩ := zr
  have hw4 : IntKind.i64.wrap (4 * z) = 4 * z := by rw [IntKind.wrap_i64]; omega
  have hd1 : decide (4 * z < y) = false := decide_eq_false (by omega)
  have hd2 : decide (p < q) = false := decide_eq_false (by have := small_nested HSt.out; rw [hp, hq] at this; omega)
  have HZZ := Go.Lib.hid hz
  have HYY := Go.Lib.hid hy
  have HPP := Go.Lib.hid hp
  have HQQ := Go.Lib.hid hq
  clear hz hy hp hq z0' z1 zy
  refine wp_region_wants (by kernel_rfl) (by kernel_rfl) (by kernel_rfl) (by kernel_rfl) (LawAt w [(w5.heap.size, 28, tg), (w.heap.size, 28, t)] []) (fun _ _ hq h => h.keep hq) [Want.is (Ft.val tg), Want.is (.int .i64 y), Want.is (Ft.val t), Want.is (.int .i64 z), Want.is (.int .i64 (4 * z)), Want.is (.bool false), Want.is (.bool false), Want.is (Ft.val tg), Want.is (.int .i64 q), Want.is (Ft.val t), Want.is (.int .i64 p), Want.is (.bool false)] (HL.out.keep ((Alters.refl _).drew)) (by decide) ?_
  refine Steps.cons ?_ (Steps.cons ?_ (Steps.cons ?_ (Steps.cons ?_ (Steps.cons ?_ (Steps.cons ?_ (Steps.cons ?_ (Steps.cons ?_ (Steps.cons ?_ (Steps.cons ?_ (Steps.cons ?_ (Steps.cons ?_ (Steps.last ?_))))))))))))
  · intro u W K hS hF hK
    simp only [putsFrom, Act.put, Nat.reduceAdd, List.setIfInBounds_toArray, List.set_cons_zero, List.set_cons_succ] at hK ⊢
    clear hF
    obtain ⟨x0, x1, x2, x3, x4, x5, x6⟩ := hS.seven (w5.heap.size) 28 tg (by simp)
    go_simp
    exact hK.out _ _ (Alters.refl _) rfl
  · intro u W K hS hF hK
    have f0 : u 0 = Ft.val tg := hF 0 (by kernel_rfl)
    simp only [putsFrom, Act.put, Nat.reduceAdd, List.setIfInBounds_toArray, List.set_cons_zero, List.set_cons_succ, f0] at hK ⊢
    clear hF
    go_simp
    refine (size_of41 HPtg.out (hS.inn (w5.heap.size) 28 tg (by simp)) (by have := HNZ.out; have := HZt.out; omega) HYY.out).mono ?_
    rintro e W2 ⟨rfl, hq⟩
    exact hK.out _ _ hq rfl
  · intro u W K hS hF hK
    simp only [putsFrom, Act.put, Nat.reduceAdd, List.setIfInBounds_toArray, List.set_cons_zero, List.set_cons_succ] at hK ⊢
    clear hF
    obtain ⟨x0, x1, x2, x3, x4, x5, x6⟩ := hS.seven (w.heap.size) 28 t (by simp)
    go_simp
    exact hK.out _ _ (Alters.refl _) rfl
  · intro u W K hS hF hK
    have f2 : u 2 = Ft.val t := hF 2 (by kernel_rfl)
    simp only [putsFrom, Act.put, Nat.reduceAdd, List.setIfInBounds_toArray, List.set_cons_zero, List.set_cons_succ, f2] at hK ⊢
    clear hF
    go_simp
    refine (size_of41 (show Ft.pl t = Ft.pl t from rfl) (hS.inn (w.heap.size) 28 t (by simp)) (by rw [pl_size]; have := HZt.out; omega) HZZ.out).mono ?_
    rintro e W2 ⟨rfl, hq⟩
    exact hK.out _ _ hq rfl
  · intro u W K hS hF hK
    have f3 : u 3 = .int .i64 z := hF 3 (by kernel_rfl)
    simp only [putsFrom, Act.put, Nat.reduceAdd, List.setIfInBounds_toArray, List.set_cons_zero, List.set_cons_succ, f3] at hK ⊢
    clear hF
    go_simp
    exact hK.out _ _ (Alters.refl _) rfl
  · intro u W K hS hF hK
    have f1 : u 1 = .int .i64 y := hF 1 (by kernel_rfl)
    have f4 : u 4 = .int .i64 (4 * z) := hF 4 (by kernel_rfl)
    simp only [putsFrom, Act.put, Nat.reduceAdd, List.setIfInBounds_toArray, List.set_cons_zero, List.set_cons_succ, f1, f4] at hK ⊢
    clear hF
    go_simp
    exact hK.out _ _ (Alters.refl _) rfl
  · intro u W K hS hF hK
    have f5 : u 5 = .bool false := hF 5 (by kernel_rfl)
    simp only [putsFrom, Act.put, Nat.reduceAdd, List.setIfInBounds_toArray, List.set_cons_zero, List.set_cons_succ, f5] at hK ⊢
    clear hF
    go_simp
    exact hK.out _ _ (Alters.refl _) rfl
  · intro u W K hS hF hK
    have f6 : u 6 = .bool false := hF 6 (by kernel_rfl)
    simp only [putsFrom, Act.put, Nat.reduceAdd, List.setIfInBounds_toArray, List.set_cons_zero, List.set_cons_succ, f6] at hK ⊢
    clear hF
    obtain ⟨x0, x1, x2, x3, x4, x5, x6⟩ := hS.seven (w5.heap.size) 28 tg (by simp)
    go_simp
    exact hK.out _ _ (Alters.refl _) rfl
  · intro u W K hS hF hK
    have f6 : u 6 = .bool false := hF 6 (by kernel_rfl)
    have f7 : u 7 = Ft.val tg := hF 7 (by kernel_rfl)
    simp only [putsFrom, Act.put, Nat.reduceAdd, List.setIfInBounds_toArray, List.set_cons_zero, List.set_cons_succ, f6, f7] at hK ⊢
    clear hF
    go_simp
    refine (nest_of HPtg.out (hS.inn (w5.heap.size) 28 tg (by simp)) hS.shapes (by have := HNZ.out; have := HZt.out; omega) HQQ.out).mono ?_
    rintro e W2 ⟨rfl, hq⟩
    exact hK.out _ _ hq rfl
  · intro u W K hS hF hK
    have f6 : u 6 = .bool false := hF 6 (by kernel_rfl)
    simp only [putsFrom, Act.put, Nat.reduceAdd, List.setIfInBounds_toArray, List.set_cons_zero, List.set_cons_succ, f6] at hK ⊢
    clear hF
    obtain ⟨x0, x1, x2, x3, x4, x5, x6⟩ := hS.seven (w.heap.size) 28 t (by simp)
    go_simp
    exact hK.out _ _ (Alters.refl _) rfl
  · intro u W K hS hF hK
    have f6 : u 6 = .bool false := hF 6 (by kernel_rfl)
    have f9 : u 9 = Ft.val t := hF 9 (by kernel_rfl)
    simp only [putsFrom, Act.put, Nat.reduceAdd, List.setIfInBounds_toArray, List.set_cons_zero, List.set_cons_succ, f6, f9] at hK ⊢
    clear hF
    go_simp
    refine (nest_of (show Ft.pl t = Ft.pl t from rfl) (hS.inn (w.heap.size) 28 t (by simp)) hS.shapes (by rw [pl_size]; have := HZt.out; omega) HPP.out).mono ?_
    rintro e W2 ⟨rfl, hq⟩
    exact hK.out _ _ hq rfl
  · intro u W K hS hF hK
    have f6 : u 6 = .bool false := hF 6 (by kernel_rfl)
    have f8 : u 8 = .int .i64 q := hF 8 (by kernel_rfl)
    have f10 : u 10 = .int .i64 p := hF 10 (by kernel_rfl)
    simp only [putsFrom, Act.put, Nat.reduceAdd, List.setIfInBounds_toArray, List.set_cons_zero, List.set_cons_succ, f6, f8, f10] at hK ⊢
    clear hF
    go_simp
    exact hK.out _ _ (Alters.refl _) rfl
  · intro u W hS hF
    have f6 : u 6 = .bool false := hF 6 (by simp)
    have f11 : u 11 = .bool false := hF 11 (by simp)
    simp only [putsFrom, Act.put, Nat.reduceAdd, List.setIfInBounds_toArray, List.set_cons_zero, List.set_cons_succ, f6, f11]
    clear hF f6 f11
    have HS := Go.Lib.hid hS
    clear hS
    replace HL := HS
    clear HS hw4 hd1 hd2
    generalize W = w7 at *
    go_simp
    obtain ⟨L, hL⟩ : ∃ L, L = namesOf (Ft.pl t) := ⟨_, rfl⟩
    have HL9 : Hid (namesOf (Ft.pl t) = L) := Go.Lib.hid hL.symm
    clear hL
    obtain ⟨M, hM⟩ : ∃ L, L = namesOf (normOf (Ft.pl t)) := ⟨_, rfl⟩
    have HM : Hid (namesOf (normOf (Ft.pl t)) = M) := Go.Lib.hid hM.symm
    clear hM
    have hll : L.length ≤ 200 := by rw [← HL9.out]; have := namesOf_len (Ft.pl t); rw [pl_size] at this; have := HZt.out; omega
    have hml : M.length ≤ 200 := by rw [← HM.out]; have := namesOf_len (normOf (Ft.pl t)); have := HNZ.out; have := HZt.out; omega
    have HRL : Hid (Rises L) := Go.Lib.hid (by rw [← HL9.out]; exact namesOf_rises _)
    have HRM : Hid (Rises M) := Go.Lib.hid (by rw [← HM.out]; exact namesOf_rises _)
    have HSUB : Hid (SubL M L) := Go.Lib.hid (fun x hx => by rw [← HL9.out]; rw [← HM.out] at hx; exact names_made HSt.out x hx)
    obtain ⟨x00, x01, x02, x03, x04, x05, x06⟩ := HL.out.seven (w.heap.size) 28 t (by simp)
    have HC := Go.Lib.hid (names_of (f := Ft.pl t) rfl (HL.out.inn (w.heap.size) 28 t (by simp)) HL.out.shapes (by rw [pl_size]; have := HZt.out; omega) HL9.out)
    unfold Ft.val at HC
    go_wp2_with fail
    refine HC.out.mono ?_
    rintro e w8 ⟨na, nc, rfl, hst, hq⟩
    clear x00 x01 x02 x03 x04 x05 x06 HC
    replace HL := Go.Lib.hid (HL.out.keep hq)
    clear hq
    have HS1 := Go.Lib.hid hst
    clear hst
    obtain ⟨x00, x01, x02, x03, x04, x05, x06⟩ := HL.out.seven (w5.heap.size) 28 tg (by simp)
    have HC := Go.Lib.hid (names_of HPtg.out (HL.out.inn (w5.heap.size) 28 tg (by simp)) HL.out.shapes (by have := HNZ.out; have := HZt.out; omega) HM.out)
    unfold Ft.val at HC
    go_wp2_with fail
    refine HC.out.mono ?_
    rintro e w9 ⟨ma, mc, rfl, hst, hq⟩
    clear x00 x01 x02 x03 x04 x05 x06 HC
    replace HL := Go.Lib.hid (HL.out.keep hq)
    replace HS1 := Go.Lib.hid (HS1.out.quiet hq)
    clear hq
    have HS2 := Go.Lib.hid hst
    clear hst
    go_wp2_with fail
    go_loopw [8, 9] (fun kv iv wr => ∃ i k : Nat, i ≤ L.length ∧ k ≤ M.length ∧ iv = .int .i64 (i : Int) ∧ kv = .int .i64 (k : Int) ∧ SubL (M.drop k) (L.drop i) ∧ (LawAt w [(w5.heap.size, 28, tg), (w.heap.size, 28, t)] []) wr ∧ StrsAt wr na L ∧ StrsAt wr ma M) (fun _ iv _ => L.length - (intOf iv).toNat)
    case atStart => exact ⟨0, 0, Nat.zero_le _, Nat.zero_le _, rfl, rfl, HSUB.out, HL.out, HS1.out, HS2.out⟩
    case round =>
      clear HL HS1 HS2
      obtain ⟨i, k, hi, hk, rfl, rfl, hsub, hl, hs1, hs2⟩ := hrel
      have HL := Go.Lib.hid hl
      have HSB := Go.Lib.hid hsub
      clear hl hsub
      by_cases hlt : i < L.length
      · by_cases hlk : k < M.length
        · have HS1 := Go.Lib.hid hs1
          have HS2 := Go.Lib.hid hs2
          have hx : L[i]? = some L[i] := List.getElem?_eq_getElem hlt
          have hy : M[k]? = some M[k] := List.getElem?_eq_getElem hlk
          have HST := Go.Lib.hid (seek_step HRL.out HRM.out HSB.out hx hy)
          obtain ⟨g1, rfl, q1⟩ := HS1.out (fun h => by rw [h] at hlt; simp at hlt)
          obtain ⟨g2, rfl, q2⟩ := HS2.out (fun h => by rw [h] at hlk; simp at hlk)
          have y1 := q1 i _ hx
          have y2 := q2 k _ hy
          obtain ⟨sa, ha1, ha2⟩ := nm_bytes7 L[i]
          rw [ha2] at y1
          obtain ⟨sx, hx1, hx2⟩ := nm_bytes7 M[k]
          rw [hx2] at y2
          have HEQ : Hid ((sa.toList == sx.toList) = decide (L[i] = M[k])) := Go.Lib.hid (by rw [ByteArray.toList_eq, ByteArray.toList_eq, ha1, hx1, Bool.eq_iff_iff]; simp)
          clear q1 q2 hx hy ha1 ha2 hx1 hx2 hs1 hs2
          by_cases hz : L[i] = M[k]
          · have beq := HEQ.out
            rw [decide_eq_true hz] at beq
            rw [if_pos hz] at HST
            clear hz HEQ
            go_upto_region 16 with (fail)
            go_quiet (fail)
            have hqd : Quiet wr (wr.drewN nq) := (Alters.refl _).drewN _
            replace HL := Go.Lib.hid (HL.out.keep hqd)
            replace HS1 := Go.Lib.hid (HS1.out.quiet hqd)
            replace HS2 := Go.Lib.hid (HS2.out.quiet hqd)
            clear hqd y1 y2 beq
            generalize wr.drewN nq = w9 at *
            go_wp2_with fail
            go_roundw
            case rel => exact ⟨i + 1, k + 1, by omega, by omega, by go_num, by go_num, HST.out, HL.out, HS1.out, HS2.out⟩
            case measure => simp [intOf]; omega
          · have beq := HEQ.out
            rw [decide_eq_false hz] at beq
            rw [if_neg hz] at HST
            clear hz HEQ
            go_upto_region 16 with (fail)
            go_quiet (fail)
            have hqd : Quiet wr (wr.drewN nq) := (Alters.refl _).drewN _
            replace HL := Go.Lib.hid (HL.out.keep hqd)
            replace HS1 := Go.Lib.hid (HS1.out.quiet hqd)
            replace HS2 := Go.Lib.hid (HS2.out.quiet hqd)
            clear hqd y1 y2 beq
            generalize wr.drewN nq = w9 at *
            go_wp2_with fail
            go_roundw
            case rel => exact ⟨i + 1, k, by omega, by omega, by go_num, by go_num, HST.out, HL.out, HS1.out, HS2.out⟩
            case measure => simp [intOf]; omega
        · obtain rfl : k = M.length := by omega
          clear hs1 hs2 hk hlk HSB
          go_upto_region 18 with (fail)
          obtain ⟨h, e, hh⟩ : ∃ h e, horOf (Ft.pl t) = (h, e) := ⟨_, _, rfl⟩
          have HH := Go.Lib.hid hh
          obtain ⟨g, d, hg⟩ : ∃ g d, horOf (normOf (Ft.pl t)) = (g, d) := ⟨_, _, rfl⟩
          have HG := Go.Lib.hid hg
          have HSM := Go.Lib.hid (small_hor (f := Ft.pl t) HSt.out)
          rw [hh, hg] at HSM
          clear hh hg
          generalize wr = w80 at *
          obtain ⟨x00, x01, x02, x03, x04, x05, x06⟩ := HL.out.seven (w.heap.size) 28 t (by simp)
          have HC := Go.Lib.hid (of_of (f := Ft.pl t) rfl (HL.out.inn (w.heap.size) 28 t (by simp)) HL.out.shapes (by rw [pl_size]; have := HZt.out; omega) HNUM.out HH.out)
          unfold Ft.val at HC
          go_wp2_with fail
          refine HC.out.mono ?_
          rintro e w81 ⟨rfl, hq⟩
          clear x00 x01 x02 x03 x04 x05 x06 HC
          replace HL := Go.Lib.hid (HL.out.keep hq)
          clear hq
          obtain ⟨x00, x01, x02, x03, x04, x05, x06⟩ := HL.out.seven (w5.heap.size) 28 tg (by simp)
          have HC := Go.Lib.hid (of_of HPtg.out (HL.out.inn (w5.heap.size) 28 tg (by simp)) HL.out.shapes (by have := HNZ.out; have := HZt.out; omega) (by rw [normOf_sound HSt.out]; exact an_made _ HNUM.out) HG.out)
          unfold Ft.val at HC
          go_wp2_with fail
          refine HC.out.mono ?_
          rintro e w82 ⟨rfl, hq⟩
          clear x00 x01 x02 x03 x04 x05 x06 HC
          replace HL := Go.Lib.hid (HL.out.keep hq)
          clear hq
          by_cases he : e = 0
          rotate_left
          · have b3 : (e == 0) = false := by simpa using he
            have b3n : (e != 0) = true := by simp [he]
            clear he
            go_wp2_with fail
            go_ret
            exact ⟨rfl, HL.out.quiet⟩
          subst he
          rcases HSM.out rfl with hd | hd | ⟨hd, hgh⟩
          · try simp only at hd
            subst hd
            go_wp2_with fail
            go_ret
            exact ⟨rfl, HL.out.quiet⟩
          · try simp only at hd
            subst hd
            go_wp2_with fail
            go_ret
            exact ⟨rfl, HL.out.quiet⟩
          · try simp only at hd hgh
            subst hd
            have b4 : decide (g ≤ h) = true := decide_eq_true hgh
            clear hgh
            go_wp2_with fail
            go_ret
            exact ⟨rfl, HL.out.quiet⟩
      · obtain rfl : i = L.length := by omega
        obtain rfl : k = M.length := by
          rcases Nat.lt_or_ge k M.length with h | h
          · have := HSB.out M[k] (by rw [List.drop_eq_getElem_cons h]; exact List.mem_cons_self)
            rw [List.drop_length] at this
            cases this
          · omega
        clear hs1 hs2 hi hk hlt HSB
        go_upto_region 18 with (fail)
        obtain ⟨h, e, hh⟩ : ∃ h e, horOf (Ft.pl t) = (h, e) := ⟨_, _, rfl⟩
        have HH := Go.Lib.hid hh
        obtain ⟨g, d, hg⟩ : ∃ g d, horOf (normOf (Ft.pl t)) = (g, d) := ⟨_, _, rfl⟩
        have HG := Go.Lib.hid hg
        have HSM := Go.Lib.hid (small_hor (f := Ft.pl t) HSt.out)
        rw [hh, hg] at HSM
        clear hh hg
        generalize wr = w80 at *
        obtain ⟨x00, x01, x02, x03, x04, x05, x06⟩ := HL.out.seven (w.heap.size) 28 t (by simp)
        have HC := Go.Lib.hid (of_of (f := Ft.pl t) rfl (HL.out.inn (w.heap.size) 28 t (by simp)) HL.out.shapes (by rw [pl_size]; have := HZt.out; omega) HNUM.out HH.out)
        unfold Ft.val at HC
        go_wp2_with fail
        refine HC.out.mono ?_
        rintro e w81 ⟨rfl, hq⟩
        clear x00 x01 x02 x03 x04 x05 x06 HC
        replace HL := Go.Lib.hid (HL.out.keep hq)
        clear hq
        obtain ⟨x00, x01, x02, x03, x04, x05, x06⟩ := HL.out.seven (w5.heap.size) 28 tg (by simp)
        have HC := Go.Lib.hid (of_of HPtg.out (HL.out.inn (w5.heap.size) 28 tg (by simp)) HL.out.shapes (by have := HNZ.out; have := HZt.out; omega) (by rw [normOf_sound HSt.out]; exact an_made _ HNUM.out) HG.out)
        unfold Ft.val at HC
        go_wp2_with fail
        refine HC.out.mono ?_
        rintro e w82 ⟨rfl, hq⟩
        clear x00 x01 x02 x03 x04 x05 x06 HC
        replace HL := Go.Lib.hid (HL.out.keep hq)
        clear hq
        by_cases he : e = 0
        rotate_left
        · have b3 : (e == 0) = false := by simpa using he
          have b3n : (e != 0) = true := by simp [he]
          clear he
          go_wp2_with fail
          go_ret
          exact ⟨rfl, HL.out.quiet⟩
        subst he
        rcases HSM.out rfl with hd | hd | ⟨hd, hgh⟩
        · try simp only at hd
          subst hd
          go_wp2_with fail
          go_ret
          exact ⟨rfl, HL.out.quiet⟩
        · try simp only at hd
          subst hd
          go_wp2_with fail
          go_ret
          exact ⟨rfl, HL.out.quiet⟩
        · try simp only at hd hgh
          subst hd
          have b4 : decide (g ≤ h) = true := decide_eq_true hgh
          clear hgh
          go_wp2_with fail
          go_ret
          exact ⟨rfl, HL.out.quiet⟩
end Go.Proofs.YtnpcakakjhiboaaDoor
