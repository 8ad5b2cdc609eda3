/- HorizonKids: the walk of the law. No condition. -/
import Derived.Test.YtnpcakakjhiboaaDoorLaw11
import Derived.Test.YtnpcakakjhiboaaDoorClone11
import Derived.BigQuiet
namespace Go.Proofs.YtnpcakakjhiboaaDoor
open Go Go.RowKit Go.Lo Go.WideShapes

set_option maxRecDepth 100000 in
set_option maxHeartbeats 4000000 in
theorem horizonKids_walk (t : Ft) (w : World) (hint : In AllD w t) (hwt : ∀ n, n ∈ t.pre → n.top.n.wf) (hS : Shapes w) : Calls Tryd.prog 20 #[t.val] w (Said (.bool true) w) := by
  have hl := (LawAt.zero w hS).box 28 hint
  skip
  have HL := Go.Lib.hid hl
  have HNUMt := Go.Lib.hid (num_of11 hwt)
  clear hint hwt hS hl
  unfold Ft.val
  go_enter Tryd.func20, Tryd.ntmps20
  go_wp2_with fail
  generalize w.alloc _ = w1 at *
  refine (awake63_walk w1 HL.out.shapes).mono ?_
  rintro e w2 ⟨rfl, hq⟩
  replace HL := Go.Lib.hid (HL.out.keep hq)
  clear hq
  obtain ⟨x00, x01, x02, x03, x04, x05, x06⟩ := HL.out.seven (w.heap.size) 28 t (by simp)
  have HC := Go.Lib.hid (left_any11 AllD t 60 w2 (HL.out.inn (w.heap.size) 28 t (by simp)) (by decide))
  unfold Ft.val at HC
  go_wp2_with fail
  refine HC.out.mono ?_
  rintro e w3 ⟨rfl, hq⟩
  clear x00 x01 x02 x03 x04 x05 x06 HC
  replace HL := Go.Lib.hid (HL.out.keep hq)
  clear hq
  by_cases h0 : leftF (Ft.pl t) 60 ≤ 0
  · have b0 : decide (leftF (Ft.pl t) 60 ≤ 0) = true := by simpa using h0
    clear h0
    go_wp2_with fail
    go_ret
    exact ⟨rfl, HL.out.quiet⟩
  have hz0 := left_size11 h0
  have HZt : Hid (t.size ≤ 60) := Go.Lib.hid (by have := hz0; omega)
  have b0 : decide (leftF (Ft.pl t) 60 ≤ 0) = false := by simpa using h0
  clear hz0 h0
  obtain ⟨h, e, hHH⟩ : ∃ h e, horOf (Ft.pl t) = (h, e) := ⟨_, _, rfl⟩
  have HH := Go.Lib.hid hHH
  clear hHH
  have HRG : Hid (0 ≤ h ∧ h ≤ 9223372036854775807) := Go.Lib.hid (by have := horOf_range (Ft.pl t); rw [HH.out] at this; exact this)
  obtain ⟨x00, x01, x02, x03, x04, x05, x06⟩ := HL.out.seven (w.heap.size) 28 t (by simp)
  have HC := Go.Lib.hid (of_of (f := Ft.pl t) rfl (HL.out.inn (w.heap.size) 28 t (by simp)) HL.out.shapes (by rw [pl_size]; have := HZt.out; omega) HNUMt.out HH.out)
  unfold Ft.val at HC
  go_wp2_with fail
  refine HC.out.mono ?_
  rintro e w4 ⟨rfl, hq⟩
  clear x00 x01 x02 x03 x04 x05 x06 HC
  replace HL := Go.Lib.hid (HL.out.keep hq)
  clear hq
  by_cases he : e = 0
  rotate_left
  · obtain rfl : h = 0 := by have := horOf_no (f := Ft.pl t) (by rw [HH.out]; exact he); rw [HH.out] at this; exact this
    have b1 : (e == 0) = false := by simpa using he
    clear he
    go_wp2_with fail
    go_ret
    exact ⟨rfl, HL.out.quiet⟩
  have HE := Go.Lib.hid he
  have b1 : (e == 0) = true := by simpa using he
  have b1n : (e != 0) = false := by simp [he]
  clear he
  have HKS : Hid ((∀ k, k ∈ t.kids → horOf (Ft.pl k) = (hz (Ft.pl k), 0) ∧ 0 ≤ hz (Ft.pl k) ∧ hz (Ft.pl k) ≤ h) ∧ h = maxI ((t.kids.map Ft.pl).map hz) + t.top.n.hi) := Go.Lib.hid (by
    have h1 := HH.out
    rw [pl_eta3] at h1
    obtain ⟨h2, h3⟩ := kids_hor (n := t.top.n) (ks := t.kids.map Ft.pl) (by rw [h1]; exact HE.out)
    rw [h1] at h2 h3
    refine ⟨fun k hk => ?_, h3⟩
    obtain ⟨h4, h5⟩ := h2 (Ft.pl k) (List.mem_map_of_mem hk)
    refine ⟨h4, ?_, h5⟩
    have := horOf_range (Ft.pl k)
    rw [h4] at this
    exact this.1)
  have HNK : Hid (∀ k, k ∈ t.kids → allNum (Ft.pl k)) := Go.Lib.hid (fun k hk => by
    have := HNUMt.out
    rw [pl_eta3] at this
    exact (allNum_nd.1 this).2 _ (List.mem_map_of_mem hk))
  have h3z : t.size = 1 + Tr.sizeL t.kids := by cases t; rfl
  have HKL : Hid (t.kids.length ≤ 60) := Go.Lib.hid (by have h1 := Tr.kids_le t.kids; have h2 := HZt.out; omega)
  have HKZ : Hid (∀ k, k ∈ t.kids → k.size ≤ 60) := Go.Lib.hid (fun k hk => by have h1 := Tr.size_kid hk; have h2 := HZt.out; omega)
  clear h3z
  go_upto_region 12 with (fail)
  go_wp2_with fail
  go_loopw [7, 8] (fun m i wr => ∃ (k : Nat) (mm : Int), k ≤ t.kids.length ∧ i = .int .i64 (k : Int) ∧ m = .int .i64 mm ∧ 0 ≤ mm ∧ mm ≤ h ∧ (((t.kids.map Ft.pl).map hz).drop k).foldl max mm = maxI ((t.kids.map Ft.pl).map hz) ∧ (LawAt w [(w.heap.size, 28, t)] []) wr) (fun _ i _ => t.kids.length - (intOf i).toNat)
  case atStart => exact ⟨0, 0, Nat.zero_le _, rfl, rfl, Int.le_refl _, HRG.out.1, rfl, HL.out⟩
  case round =>
    clear HL
    obtain ⟨k, mm, hk, rfl, rfl, hm0, hm1, hfo, hl⟩ := hrel
    have HL := Go.Lib.hid hl
    have HFO := Go.Lib.hid hfo
    have hkl := HKL.out
    clear hl hfo
    obtain ⟨x0, x1, x2, x3, x4, x5, x6⟩ := HL.out.seven (w.heap.size) 28 t (by simp)
    by_cases hlt : k < t.kids.length
    · have hne : t.kids ≠ [] := fun h => by rw [h] at hlt; simp at hlt
      obtain ⟨b, o, ha, -, hc⟩ := (HL.out.inn (w.heap.size) 28 t (by simp)).fs hne
      obtain ⟨d0, d1, d2, d3, d4, d5, d6⟩ := (hc k t.kids[k] (by simp [hlt])).seven
      have hmem : t.kids[k] ∈ t.kids := by simp
      have HC := Go.Lib.hid (of_of (f := Ft.pl t.kids[k]) (w := wr) rfl ((HL.out.inn (w.heap.size) 28 t (by simp)).kid hmem) HL.out.shapes (by rw [pl_size]; have := HKZ.out _ hmem; omega) (HNK.out _ hmem) (HKS.out.1 _ hmem).1)
      obtain ⟨-, r0, r1⟩ := HKS.out.1 _ hmem
      have hdr : ((t.kids.map Ft.pl).map hz).drop k = hz (Ft.pl t.kids[k]) :: ((t.kids.map Ft.pl).map hz).drop (k + 1) := by
        rw [List.drop_eq_getElem_cons (by simpa using hlt)]; simp
      rw [hdr, List.foldl_cons] at HFO
      clear hdr hmem hc
      unfold Ft.val at HC
      generalize t.kids[k] = kk at *
      generalize hz (Ft.pl kk) = hk2 at *
      rw [ha] at x6
      clear ha
      have b2 : decide (h < hk2) = false := decide_eq_false (by omega)
      go_wp2_with fail
      refine HC.out.mono ?_
      rintro e9 w9 ⟨rfl, hq⟩
      clear x0 x1 x2 x3 x4 x5 x6 d0 d1 d2 d3 d4 d5 d6 HC
      replace HL := Go.Lib.hid (HL.out.keep hq)
      clear hq
      by_cases hmx : mm < hk2
      · rw [show max mm hk2 = hk2 by omega] at HFO
        go_wp2_with fail
        go_roundw
        case rel => exact ⟨k + 1, hk2, by omega, by go_num, by congr 1; omega, by omega, by omega, HFO.out, HL.out⟩
        case measure => simp [intOf]; omega
      · rw [show max mm hk2 = mm by omega] at HFO
        go_wp2_with fail
        go_roundw
        case rel => exact ⟨k + 1, mm, by omega, by go_num, by congr 1; omega, by omega, by omega, HFO.out, HL.out⟩
        case measure => simp [intOf]; omega
    · obtain rfl : k = t.kids.length := by omega
      have e9 : mm + t.top.n.hi = h := by
        have h1 := HFO.out
        rw [List.drop_eq_nil_of_le (by simp), List.foldl_nil] at h1
        have h2 := HKS.out.2
        omega
      have hr := HRG.out
      obtain ⟨hr0, hr1⟩ := hr
      clear HFO hk hlt hkl hm1
      go_wp2_with fail
      go_ret
      exact ⟨rfl, HL.out.quiet⟩
end Go.Proofs.YtnpcakakjhiboaaDoor
