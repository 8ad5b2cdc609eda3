/- NormSame: the walk of the law. No condition. -/
import Derived.Test.YtnpcakakjhiboaaDoorLawR
import Derived.Test.YtnpcakakjhiboaaDoorFew14
import Derived.Test.YtnpcakakjhiboaaDoorAwake14
import Derived.Test.YtnpcakakjhiboaaDoorNormOf
import Derived.Test.YtnpcakakjhiboaaDoorOpenF
namespace Go.Proofs.YtnpcakakjhiboaaDoor
open Go.RowKit Go.Lo Go.WideShapes

set_option maxRecDepth 100000 in
set_option maxHeartbeats 4000000 in
theorem normSame_walk (t : Ft) (a : Option Addr) (cap : Nat) (P : List Hp) (w : World) (hint : In AllD w t) (_hwt : ∀ n, n ∈ t.pre → n.top.n.wf) (hw : WdAt w a P) (hS : Shapes w) : Calls Tryd.prog 6 #[t.val, .slice a P.length cap] w (Said (.bool true) w) := by
  have hl := (LawR.zero w hS).box 28 hint
  skip
  have HL := Go.Lib.hid hl
  have HW := Go.Lib.hid hw
  clear hint hS hw hl
  unfold Ft.val
  go_enter Tryd.func6, Tryd.ntmps6
  go_wp2_with fail
  generalize w.alloc _ = w1 at *
  refine (awake_walk w1 HL.out.shapes).mono ?_
  rintro e w2 ⟨rfl, hq⟩
  replace HL := Go.Lib.hid (HL.out.keep hq)
  clear hq
  obtain ⟨x00, x01, x02, x03, x04, x05, x06⟩ := HL.out.seven (w.heap.size) 28 t (by simp)
  have HC := Go.Lib.hid (left_any AllD t 60 w2 (HL.out.inn (w.heap.size) 28 t (by simp)) (by decide))
  unfold Ft.val at HC
  go_wp2_with fail
  refine HC.out.mono ?_
  rintro e w3 ⟨rfl, hq⟩
  clear x00 x01 x02 x03 x04 x05 x06 HC
  replace HL := Go.Lib.hid (HL.out.keep hq)
  clear hq
  have HC := Go.Lib.hid (few37_walk a cap P w3 (HW.out.quiet HL.out.quiet))
  go_wp2_with fail
  refine HC.out.mono ?_
  rintro e w4 ⟨rfl, hq⟩
  clear HC
  replace HL := Go.Lib.hid (HL.out.keep hq)
  clear hq
  by_cases h0 : leftF (Ft.pl t) 60 ≤ 0
  · have b0 : decide (leftF (Ft.pl t) 60 ≤ 0) = true := by simpa using h0
    clear h0
    go_wp2_with fail
    go_ret
    exact ⟨rfl, HL.out.quiet⟩
  have hz0 := left_size13 h0
  have HZt : Hid (t.size ≤ 60) := Go.Lib.hid (by have := hz0; omega)
  have b0 : decide (leftF (Ft.pl t) 60 ≤ 0) = false := by simpa using h0
  clear hz0 h0
  cases hf : fewW P
  · go_wp2_with fail
    go_ret
    exact ⟨rfl, HL.out.quiet⟩
  have HPL : Hid (P.length ≤ 10000) := Go.Lib.hid (by have := fewW_len hf; omega)
  have HRL : Hid (∀ f, (rowF f (pts P)).length ≤ 10000) := Go.Lib.hid (fun f => Nat.le_trans (rowF_len _ _) (by rw [pts_len]; exact HPL.out))
  obtain ⟨x00, x01, x02, x03, x04, x05, x06⟩ := HL.out.seven (w.heap.size) 28 t (by simp)
  have HC := Go.Lib.hid (sound_walk AllD t w4 (HL.out.inn (w.heap.size) 28 t (by simp)) HL.out.shapes (by have := HZt.out; omega))
  by_cases hf : first (Ft.pl t) = 0
  rotate_left
  · rw [show decide (first (Ft.pl t) = 0) = false by simpa using hf] at HC
    try unfold Ft.val at HC
    clear hf
    go_wp2_with fail
    refine HC.out.mono ?_
    rintro e w5 ⟨rfl, hq⟩
    clear x00 x01 x02 x03 x04 x05 x06 HC
    replace HL := Go.Lib.hid (HL.out.keep hq)
    clear hq
    go_wp2_with fail
    go_ret
    exact ⟨rfl, HL.out.quiet⟩
  rw [show decide (first (Ft.pl t) = 0) = true by simpa using hf] at HC
  try unfold Ft.val at HC
  have HSt := Go.Lib.hid ((first_zero _).1 hf)
  clear hf
  go_wp2_with fail
  refine HC.out.mono ?_
  rintro e w5 ⟨rfl, hq⟩
  clear x00 x01 x02 x03 x04 x05 x06 HC
  replace HL := Go.Lib.hid (HL.out.keep hq)
  clear hq
  clear b0
  obtain ⟨K, hK⟩ : ∃ l, l = rowF (Ft.pl t) (pts P) := ⟨_, rfl⟩
  have HK : Hid (rowF (Ft.pl t) (pts P) = K) := Go.Lib.hid hK.symm
  have HKL : Hid (K.length ≤ 10000) := Go.Lib.hid (by rw [hK]; exact HRL.out _)
  clear hK
  obtain ⟨x00, x01, x02, x03, x04, x05, x06⟩ := HL.out.seven (w.heap.size) 28 t (by simp)
  have HC := Go.Lib.hid (row_of (c := cap) (f := Ft.pl t) rfl (HL.out.inn (w.heap.size) 28 t (by simp)) HL.out.shapes (by (repeat first | rw [exOne_size] | rw [exTwo_size] | rw [pl_size] | rw [leaf_size]); have := HZt.out; omega) (HW.out.quiet HL.out.quiet) HPL.out HK.out)
  unfold Ft.val at HC
  go_wp2_with fail
  refine HC.out.mono ?_
  rintro e w6 ⟨rl, cl, rfl, hl, hq⟩
  clear x00 x01 x02 x03 x04 x05 x06 HC
  replace HL := Go.Lib.hid ((HL.out.keep hq).row hl)
  clear hl
  clear hq
  obtain ⟨x00, x01, x02, x03, x04, x05, x06⟩ := HL.out.seven (w.heap.size) 28 t (by simp)
  have HC := Go.Lib.hid (normOf_v AllD t w6 (HL.out.inn (w.heap.size) 28 t (by simp)) HL.out.shapes (by have := HZt.out; omega) allD)
  unfold Ft.val at HC
  go_wp2_with fail
  refine HC.out.mono ?_
  rintro e w7 ⟨v, rfl, ⟨ta, rfl, hpa, hia⟩, hq⟩
  clear x00 x01 x02 x03 x04 x05 x06 HC
  replace HL := Go.Lib.hid (HL.out.keep hq)
  clear hq
  unfold Ft.val
  have HC := Go.Lib.hid (row_of (c := cap) (f := normOf (Ft.pl t)) hpa hia HL.out.shapes (by have := HZt.out; have := normOf_size6 (Ft.pl t) HSt.out; rw [pl_size] at this; omega) (HW.out.quiet HL.out.quiet) HPL.out ((rowF_norm HSt.out).trans HK.out))
  unfold Ft.val at HC
  go_wp2_with fail
  refine HC.out.mono ?_
  rintro e w8 ⟨ra, ca, rfl, ha, hq⟩
  clear  HC
  clear hpa hia
  replace HL := Go.Lib.hid ((HL.out.keep hq).row ha)
  clear ha
  clear hq
  have HC := Go.Lib.hid (same39_eq rl cl ra ca K _ (HL.out.bl rl K (by simp)) (HL.out.bl ra K (by simp)) HKL.out)
  go_wp2_with fail
  refine HC.out.mono ?_
  rintro e w9 ⟨rfl, hq⟩
  clear HC
  replace HL := Go.Lib.hid (HL.out.keep hq)
  clear hq
  have HC := Go.Lib.hid (right40_walk a cap P w9 (HW.out.quiet HL.out.quiet))
  cases hf : wordOk (pts P)
  · rw [hf] at HC
    clear hf
    go_wp2_with fail
    refine HC.out.mono ?_
    rintro e w10 ⟨rfl, hq⟩
    clear HC
    replace HL := Go.Lib.hid (HL.out.keep hq)
    clear hq
    go_wp2_with fail
    go_ret
    exact ⟨rfl, HL.out.quiet⟩
  · rw [hf] at HC
    have gK : ((K.length : Int) == (P.length : Int)) = true := by rw [← HK.out, rowF_full HSt.out hf]; simp
    clear hf
    go_wp2_with fail
    refine HC.out.mono ?_
    rintro e w10 ⟨rfl, hq⟩
    clear HC
    replace HL := Go.Lib.hid (HL.out.keep hq)
    clear hq
    go_wp2_with fail
    go_ret
    exact ⟨rfl, HL.out.quiet⟩
end Go.Proofs.YtnpcakakjhiboaaDoor
