/- HorizonNames: the walk of the law. No condition. -/
import Derived.Test.YtnpcakakjhiboaaDoorLaw11
import Derived.Test.YtnpcakakjhiboaaDoorClone11
import Derived.Test.YtnpcakakjhiboaaDoorNames67
import Derived.BigQuiet
namespace Go.Proofs.YtnpcakakjhiboaaDoor
open Go Go.RowKit Go.Lo Go.WideShapes

theorem names67_of {w : World} {t : Ft} {D : Nat → Prop} {f : Fm} {L : List Nm} (hp : Ft.pl t = f) (hi : In D w t) (hsz : f.size ≤ 1000) (hL : namesOf f = L) : Calls Tryd.prog 67 #[t.val] w (GivesNames L w) := by
  subst hp hL
  exact names67_walk D t w hi (by rw [pl_size] at hsz; exact hsz)

set_option maxRecDepth 100000 in
set_option maxHeartbeats 4000000 in
theorem horizonNames_walk (t : Ft) (w : World) (hint : In AllD w t) (hwt : ∀ n, n ∈ t.pre → n.top.n.wf) (hS : Shapes w) : Calls Tryd.prog 19 #[t.val] w (Said (.bool true) w) := by
  have hl := (LawAt.zero w hS).box 28 hint
  skip
  have HL := Go.Lib.hid hl
  have HNUMt := Go.Lib.hid (num_of11 hwt)
  clear hint hwt hS hl
  unfold Ft.val
  go_enter Tryd.func19, Tryd.ntmps19
  go_wp2_with fail
  generalize w.alloc _ = w1 at *
  refine (awake63_walk w1 HL.out.shapes).mono ?_
  rintro e w2 ⟨rfl, hq⟩
  replace HL := Go.Lib.hid (HL.out.keep hq)
  clear hq
  obtain ⟨x00, x01, x02, x03, x04, x05, x06⟩ := HL.out.seven (w.heap.size) 28 t (by simp)
  have HC := Go.Lib.hid (left_any11 AllD t 90 w2 (HL.out.inn (w.heap.size) 28 t (by simp)) (by decide))
  unfold Ft.val at HC
  go_wp2_with fail
  refine HC.out.mono ?_
  rintro e w3 ⟨rfl, hq⟩
  clear x00 x01 x02 x03 x04 x05 x06 HC
  replace HL := Go.Lib.hid (HL.out.keep hq)
  clear hq
  by_cases h0 : leftF (Ft.pl t) 90 ≤ 0
  · have b0 : decide (leftF (Ft.pl t) 90 ≤ 0) = true := by simpa using h0
    clear h0
    go_wp2_with fail
    go_ret
    exact ⟨rfl, HL.out.quiet⟩
  have hz0 := left_size11 h0
  have HZt : Hid (t.size ≤ 90) := Go.Lib.hid (by have := hz0; omega)
  have b0 : decide (leftF (Ft.pl t) 90 ≤ 0) = false := by simpa using h0
  clear hz0 h0
  obtain ⟨x00, x01, x02, x03, x04, x05, x06⟩ := HL.out.seven (w.heap.size) 28 t (by simp)
  have HC := Go.Lib.hid (plain_any11 AllD t (by have := HZt.out; omega) w3 (HL.out.inn (w.heap.size) 28 t (by simp)))
  unfold Ft.val at HC
  go_wp2_with fail
  refine HC.out.mono ?_
  rintro e w4 ⟨tb, rfl, hpb, hib, hq⟩
  clear x00 x01 x02 x03 x04 x05 x06 HC
  replace HL := Go.Lib.hid (HL.out.keep hq)
  clear hq
  replace HL := Go.Lib.hid (HL.out.box 33 (t := tb) (hib.mono (fun _ _ _ => trivial)))
  have HPtb : Hid (Ft.pl tb = Ft.pl t) := hpb
  clear hib hpb
  unfold Ft.val
  go_upto_region 8 with (fail)
  generalize w4.alloc _ = w5 at *
  obtain ⟨L, hA⟩ : ∃ L, L = namesOf (Ft.pl t) := ⟨_, rfl⟩
  have HA : Hid (namesOf (Ft.pl t) = L) := Go.Lib.hid hA.symm
  have hll : L.length ≤ 90 := by rw [hA]; have := namesOf_len (Ft.pl t); rw [pl_size] at this; have := HZt.out; omega
  clear hA
  obtain ⟨x00, x01, x02, x03, x04, x05, x06⟩ := HL.out.seven (w.heap.size) 28 t (by simp)
  have HC := Go.Lib.hid (names_of (f := Ft.pl t) rfl (HL.out.inn (w.heap.size) 28 t (by simp)) HL.out.shapes (by rw [pl_size]; have := HZt.out; omega) HA.out)
  unfold Ft.val at HC
  go_wp2_with fail
  refine HC.out.mono ?_
  rintro e w6 ⟨na, nc, rfl, hst, hq⟩
  clear x00 x01 x02 x03 x04 x05 x06 HC
  replace HL := Go.Lib.hid (HL.out.keep hq)
  clear hq
  have HS1 := Go.Lib.hid hst
  clear hst
  obtain ⟨x00, x01, x02, x03, x04, x05, x06⟩ := HL.out.seven (w4.heap.size) 33 tb (by simp)
  have HC := Go.Lib.hid (names67_of HPtb.out (HL.out.inn (w4.heap.size) 33 tb (by simp)) (by rw [pl_size]; have := HZt.out; omega) HA.out)
  unfold Ft.val at HC
  go_wp2_with fail
  refine HC.out.mono ?_
  rintro e w7 ⟨ma, mc, rfl, hst, hq⟩
  clear x00 x01 x02 x03 x04 x05 x06 HC
  replace HL := Go.Lib.hid (HL.out.keep hq)
  replace HS1 := Go.Lib.hid (HS1.out.quiet hq)
  clear hq
  have HS2 := Go.Lib.hid hst
  clear hst
  go_wp2_with fail
  go_loopw [8] (fun i wr => ∃ k : Nat, k ≤ L.length ∧ i = .int .i64 (k : Int) ∧ (LawAt w [(w4.heap.size, 33, tb), (w.heap.size, 28, t)] []) wr ∧ StrsAt wr na L ∧ StrsAt wr ma L) (fun i _ => L.length - (intOf i).toNat)
  case atStart => exact ⟨0, Nat.zero_le _, rfl, HL.out, HS1.out, HS2.out⟩
  case round =>
    clear HL HS1 HS2
    obtain ⟨k, hk, rfl, hl, hs1, hs2⟩ := hrel
    have HL := Go.Lib.hid hl
    clear hl
    by_cases hlt : k < L.length
    · have HS1 := Go.Lib.hid hs1
      have HS2 := Go.Lib.hid hs2
      have hy : L[k]? = some L[k] := List.getElem?_eq_getElem hlt
      obtain ⟨g1, rfl, q1⟩ := HS1.out (fun h => by rw [h] at hlt; simp at hlt)
      obtain ⟨g2, rfl, q2⟩ := HS2.out (fun h => by rw [h] at hlt; simp at hlt)
      have y1 := q1 k _ hy
      have y2 := q2 k _ hy
      obtain ⟨sb, -, hsb⟩ := nm_bytes L[k]
      rw [hsb] at y1 y2
      clear q1 q2 hy hs1 hs2 hsb
      go_upto_region 15 with (fail)
      go_quiet (fail)
      have hqd : Quiet wr (wr.drewN nq) := (Alters.refl _).drewN _
      replace HL := Go.Lib.hid (HL.out.keep hqd)
      replace HS1 := Go.Lib.hid (HS1.out.quiet hqd)
      replace HS2 := Go.Lib.hid (HS2.out.quiet hqd)
      clear hqd y1 y2
      generalize wr.drewN nq = w9 at *
      go_wp2_with fail
      go_roundw
      case rel => exact ⟨k + 1, by omega, by go_num, HL.out, HS1.out, HS2.out⟩
      case measure => simp [intOf]; omega
    obtain rfl : k = L.length := by omega
    clear hs1 hs2 hk hlt
    have HN4 := Go.Lib.hid (nestN_eq tb)
    rw [HPtb.out] at HN4

    obtain ⟨x00, x01, x02, x03, x04, x05, x06⟩ := HL.out.seven (w.heap.size) 28 t (by simp)
    have HC := Go.Lib.hid (sound_walk AllD t wr (HL.out.inn (w.heap.size) 28 t (by simp)) HL.out.shapes (by have := HZt.out; omega))
    by_cases hf : first (Ft.pl t) = 0
    rotate_left
    · rw [show decide (first (Ft.pl t) = 0) = false by simpa using hf] at HC
      have HNO : Hid (nestOf (Ft.pl t) = 0) := Go.Lib.hid (by unfold nestOf; rw [if_neg hf])
      try unfold Ft.val at HC
      clear hf
      go_wp2_with fail
      refine HC.out.mono ?_
      rintro e w91 ⟨rfl, hq⟩
      clear x00 x01 x02 x03 x04 x05 x06 HC
      replace HL := Go.Lib.hid (HL.out.keep hq)
      clear hq
      obtain ⟨x00, x01, x02, x03, x04, x05, x06⟩ := HL.out.seven (w.heap.size) 28 t (by simp)
      have HC := Go.Lib.hid (nest_of (f := Ft.pl t) rfl (HL.out.inn (w.heap.size) 28 t (by simp)) HL.out.shapes (by rw [pl_size]; have := HZt.out; omega) HNO.out)
      unfold Ft.val at HC
      go_wp2_with fail
      refine HC.out.mono ?_
      rintro e w92 ⟨rfl, hq⟩
      clear x00 x01 x02 x03 x04 x05 x06 HC
      replace HL := Go.Lib.hid (HL.out.keep hq)
      clear hq
      go_wp2_with fail
      go_ret
      exact ⟨rfl, HL.out.quiet⟩
    rw [show decide (first (Ft.pl t) = 0) = true by simpa using hf] at HC
    have HNO : Hid (nestOf (Ft.pl t) = (nestN tb : Int)) := Go.Lib.hid (by unfold nestOf; rw [if_pos hf, HN4.out])
    try unfold Ft.val at HC
    clear hf
    go_wp2_with fail
    refine HC.out.mono ?_
    rintro e w91 ⟨rfl, hq⟩
    clear x00 x01 x02 x03 x04 x05 x06 HC
    replace HL := Go.Lib.hid (HL.out.keep hq)
    clear hq
    obtain ⟨x00, x01, x02, x03, x04, x05, x06⟩ := HL.out.seven (w4.heap.size) 33 tb (by simp)
    have HC := Go.Lib.hid (nested68_any AllD tb (by rw [← pl_size, HPtb.out, pl_size]; have := HZt.out; omega) w91 (HL.out.inn (w4.heap.size) 33 tb (by simp)))
    unfold Ft.val at HC
    go_wp2_with fail
    refine HC.out.mono ?_
    rintro e w92 ⟨rfl, hq⟩
    clear x00 x01 x02 x03 x04 x05 x06 HC
    replace HL := Go.Lib.hid (HL.out.keep hq)
    clear hq
    obtain ⟨x00, x01, x02, x03, x04, x05, x06⟩ := HL.out.seven (w.heap.size) 28 t (by simp)
    have HC := Go.Lib.hid (nest_of (f := Ft.pl t) rfl (HL.out.inn (w.heap.size) 28 t (by simp)) HL.out.shapes (by rw [pl_size]; have := HZt.out; omega) HNO.out)
    unfold Ft.val at HC
    go_wp2_with fail
    refine HC.out.mono ?_
    rintro e w93 ⟨rfl, hq⟩
    clear x00 x01 x02 x03 x04 x05 x06 HC
    replace HL := Go.Lib.hid (HL.out.keep hq)
    clear hq
    go_wp2_with fail
    go_ret
    exact ⟨rfl, HL.out.quiet⟩
end Go.Proofs.YtnpcakakjhiboaaDoor
