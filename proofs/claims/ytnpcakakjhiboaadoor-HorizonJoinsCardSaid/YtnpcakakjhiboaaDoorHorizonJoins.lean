/- HorizonJoins: the walk of the law. No condition. -/
import Derived.Test.YtnpcakakjhiboaaDoorLaw11
import Derived.Test.YtnpcakakjhiboaaDoorHorizonSpans
import Derived.Test.YtnpcakakjhiboaaDoorNames67
import Derived.Test.YtnpcakakjhiboaaDoorLits
import Derived.BigQuiet
namespace Go.Proofs.YtnpcakakjhiboaaDoor
open Go Go.RowKit Go.Lo Go.WideShapes

theorem u8_range {n : Int} (h : (Lit.int .u8 n).wf = true) : 0 ≤ n ∧ n ≤ 255 := by
  simp only [Lit.wf, Bool.and_eq_true, decide_eq_true_eq] at h
  rw [show IntKind.min .u8 = 0 by decide, show IntKind.max .u8 = 255 by decide] at h
  exact h

/-- A flag tells whether something is so. -/
def FlagIs (fl : Value) (p : Prop) : Prop := ∃ b : Bool, fl = .bool b ∧ (b = true ↔ p)

set_option maxRecDepth 100000 in
set_option maxHeartbeats 4000000 in
theorem horizonJoins_walk (t r : Ft) (n : Int) (w : World) (hint : In AllD w t) (hwt : ∀ n, n ∈ t.pre → n.top.n.wf) (hinr : In AllD w r) (hwr : ∀ n, n ∈ r.pre → n.top.n.wf) (wn : (Lit.int .u8 n).wf = true) (hS : Shapes w) : Calls Tryd.prog 22 #[t.val, r.val, .int .u8 n] w (Said (.bool true) w) := by
  have hl := ((LawAt.zero w hS).box 28 hint).box 28 (hinr.quiet ((Alters.refl _).alloc _))
  simp only [World.size_alloc] at hl
  have HL := Go.Lib.hid hl
  have HNUMt := Go.Lib.hid (num_of11 hwt)
  have HNUMr := Go.Lib.hid (num_of11 hwr)
  clear hint hinr hwt hwr hS hl
  unfold Ft.val
  go_enter Tryd.func22, Tryd.ntmps22
  go_wp2_with fail
  generalize (w.alloc _).alloc _ = w1 at *
  refine (awake63_walk w1 HL.out.shapes).mono ?_
  rintro e w2 ⟨rfl, hq⟩
  replace HL := Go.Lib.hid (HL.out.keep hq)
  clear hq
  obtain ⟨x00, x01, x02, x03, x04, x05, x06⟩ := HL.out.seven (w.heap.size) 28 t (by simp)
  have HC := Go.Lib.hid (left_any11 AllD t 40 w2 (HL.out.inn (w.heap.size) 28 t (by simp)) (by decide))
  unfold Ft.val at HC
  go_wp2_with fail
  refine HC.out.mono ?_
  rintro e w3 ⟨rfl, hq⟩
  clear x00 x01 x02 x03 x04 x05 x06 HC
  replace HL := Go.Lib.hid (HL.out.keep hq)
  clear hq
  obtain ⟨x00, x01, x02, x03, x04, x05, x06⟩ := HL.out.seven (w.heap.size + 1) 28 r (by simp)
  have HC := Go.Lib.hid (left_any11 AllD r 40 w3 (HL.out.inn (w.heap.size + 1) 28 r (by simp)) (by decide))
  unfold Ft.val at HC
  go_wp2_with fail
  refine HC.out.mono ?_
  rintro e w4 ⟨rfl, hq⟩
  clear x00 x01 x02 x03 x04 x05 x06 HC
  replace HL := Go.Lib.hid (HL.out.keep hq)
  clear hq
  by_cases h0 : leftF (Ft.pl t) 40 ≤ 0
  · have b0 : decide (leftF (Ft.pl t) 40 ≤ 0) = true := by simpa using h0
    clear h0
    go_wp2_with fail
    go_ret
    exact ⟨rfl, HL.out.quiet⟩
  have hz0 := left_size11 h0
  have HZt : Hid (t.size ≤ 40) := Go.Lib.hid (by have := hz0; omega)
  have b0 : decide (leftF (Ft.pl t) 40 ≤ 0) = false := by simpa using h0
  clear hz0 h0
  by_cases h1 : leftF (Ft.pl r) 40 ≤ 0
  · have b0 : decide (leftF (Ft.pl r) 40 ≤ 0) = true := by simpa using h1
    clear h1
    go_wp2_with fail
    go_ret
    exact ⟨rfl, HL.out.quiet⟩
  have hz1 := left_size11 h1
  have HZr : Hid (r.size ≤ 40) := Go.Lib.hid (by have := hz1; omega)
  have b1 : decide (leftF (Ft.pl r) 40 ≤ 0) = false := by simpa using h1
  clear hz1 h1
  obtain ⟨n0, n1⟩ := u8_range wn
  have hcv : IntKind.i64.wrap n = n := by rw [IntKind.wrap_i64]; omega
  have htm : n.tmod 4 = n % 4 := Int.tmod_eq_emod_of_nonneg n0
  obtain ⟨m, hm⟩ : ∃ m, n % 4 = m := ⟨_, rfl⟩
  have hm0 : 0 ≤ m ∧ m < 4 := by omega
  obtain ⟨m0, m1⟩ := hm0
  clear wn
  obtain ⟨x00, x01, x02, x03, x04, x05, x06⟩ := HL.out.seven (w.heap.size) 28 t (by simp)
  obtain ⟨x10, x11, x12, x13, x14, x15, x16⟩ := HL.out.seven (w.heap.size + 1) 28 r (by simp)
  have hqx : Quiet w4 (w4.alloc (.cells #[.int .i64 t.top.n.op, .string t.top.n.nm, .int .i64 t.top.n.cmp, .int .i64 t.top.n.val, .int .i64 t.top.n.lo, .int .i64 t.top.n.hi, .slice t.top.a t.kids.length t.top.cap, .int .i64 r.top.n.op, .string r.top.n.nm, .int .i64 r.top.n.cmp, .int .i64 r.top.n.val, .int .i64 r.top.n.lo, .int .i64 r.top.n.hi, .slice r.top.a r.kids.length r.top.cap] 28)) := (Alters.refl _).alloc _
  have hinx : In AllD (w4.alloc (.cells #[.int .i64 t.top.n.op, .string t.top.n.nm, .int .i64 t.top.n.cmp, .int .i64 t.top.n.val, .int .i64 t.top.n.lo, .int .i64 t.top.n.hi, .slice t.top.a t.kids.length t.top.cap, .int .i64 r.top.n.op, .string r.top.n.nm, .int .i64 r.top.n.cmp, .int .i64 r.top.n.val, .int .i64 r.top.n.lo, .int .i64 r.top.n.hi, .slice r.top.a r.kids.length r.top.cap] 28)) (.nd ⟨{ z0 with op := 5 + m, lo := 0, hi := 0 }, some ⟨w4.heap.size, 0, none⟩, 2⟩ [t, r]) := (In.made (n := { z0 with op := 5 + m, lo := 0, hi := 0 }) (D := AllD) (w := w4) (c := 2) (T := [t, r]) (ty := 28) (b := w4.heap.size) (Blk.new w4 _ 28) (by simp [maxLen]) (fun x hx => by
    simp only [List.mem_cons, List.not_mem_nil, or_false] at hx
    rcases hx with rfl | rfl
    · exact (HL.out.inn (w.heap.size) 28 x (by simp))
    · exact (HL.out.inn (w.heap.size + 1) 28 x (by simp))) hqx (Nat.le_refl _)).mono (fun _ _ _ => trivial)
  have hbx := (HL.out.keep hqx).box 28 hinx
  rw [World.size_alloc] at hbx
  obtain ⟨tx, hlx, hpx⟩ : ∃ tx : Ft, LawAt w [(w4.heap.size + 1, 28, tx), (w.heap.size + 1, 28, r), (w.heap.size, 28, t)] [] ((w4.alloc (.cells #[.int .i64 t.top.n.op, .string t.top.n.nm, .int .i64 t.top.n.cmp, .int .i64 t.top.n.val, .int .i64 t.top.n.lo, .int .i64 t.top.n.hi, .slice t.top.a t.kids.length t.top.cap, .int .i64 r.top.n.op, .string r.top.n.nm, .int .i64 r.top.n.cmp, .int .i64 r.top.n.val, .int .i64 r.top.n.lo, .int .i64 r.top.n.hi, .slice r.top.a r.kids.length r.top.cap] 28)).alloc (.cells #[.int .i64 (5 + m), .string ⟨#[]⟩, .int .i64 0, .int .i64 0, .int .i64 0, .int .i64 0, .slice (some ⟨w4.heap.size, 0, none⟩) 2 2] 28)) ∧ Ft.pl tx = exTwo (5 + m) 0 0 (Ft.pl t) (Ft.pl r) := ⟨.nd ⟨{ z0 with op := 5 + m, lo := 0, hi := 0 }, some ⟨w4.heap.size, 0, none⟩, 2⟩ [t, r], hbx, by rw [pl_nd]; rfl⟩
  have HLX := Go.Lib.hid hlx
  have HPX := Go.Lib.hid hpx
  clear hqx hinx hbx hlx hpx
  go_upto_region 9 with (fail)
  clear x00 x01 x02 x03 x04 x05 x06 x10 x11 x12 x13 x14 x15 x16 hcv htm hm n0 n1 HL
  have HL := HLX
  clear HLX
  generalize (w4.alloc _).alloc _ = w5 at *
  generalize w4.heap.size + 1 = bx at *
  obtain ⟨x00, x01, x02, x03, x04, x05, x06⟩ := HL.out.seven (bx) 28 tx (by simp)
  obtain ⟨ck, hck⟩ : ∃ c, c = checkF (exTwo (5 + m) 0 0 (Ft.pl t) (Ft.pl r)) := ⟨_, rfl⟩
  have HCK : Hid (checkF (exTwo (5 + m) 0 0 (Ft.pl t) (Ft.pl r)) = ck) := Go.Lib.hid hck.symm
  clear hck
  have HC := Go.Lib.hid (check_of HPX.out (HL.out.inn (bx) 28 tx (by simp)) HL.out.shapes (by rw [exTwo_size, pl_size, pl_size]; have := HZt.out; have := HZr.out; omega) HCK.out)
  unfold Ft.val at HC
  go_wp2_with fail
  refine HC.out.mono ?_
  rintro e w6 ⟨rfl, hq⟩
  clear x00 x01 x02 x03 x04 x05 x06 HC
  replace HL := Go.Lib.hid (HL.out.keep hq)
  clear hq
  by_cases hc : ck = 0
  rotate_left
  · have b2 : (ck == 0) = false := by simpa using hc
    have b2n : (ck != 0) = true := by simp [hc]
    clear hc
    go_wp2_with fail
    go_ret
    exact ⟨rfl, HL.out.quiet⟩
  have b2 : (ck == 0) = true := by simpa using hc
  have b2n : (ck != 0) = false := by simp [hc]
  have HTW := Go.Lib.hid (two_hor (op := 5 + m) ⟨by omega, by omega⟩ (HCK.out.trans hc))
  have HSF : Hid (sound (exTwo (5 + m) 0 0 (Ft.pl t) (Ft.pl r)) ∧ sound (Ft.pl t) ∧ sound (Ft.pl r)) := Go.Lib.hid ⟨(checkF_sound (HCK.out.trans hc)).1, (checkF_sound HTW.out.1).1, (checkF_sound HTW.out.2.1).1⟩
  have HTN := Go.Lib.hid (two_names (op := 5 + m) ⟨by omega, by omega⟩ HSF.out.1 HSF.out.2.1 HSF.out.2.2)
  have HNE : Hid (nestOf (exTwo (5 + m) 0 0 (Ft.pl t) (Ft.pl r)) = max (nestOf (Ft.pl t)) (nestOf (Ft.pl r))) := Go.Lib.hid (by
    unfold nestOf
    rw [if_pos ((first_zero _).2 HSF.out.1), if_pos ((first_zero _).2 HSF.out.2.1), if_pos ((first_zero _).2 HSF.out.2.2), two_nested ⟨by omega, by omega⟩])
  clear hc
  obtain ⟨h, e, hHH⟩ : ∃ h e, horOf (Ft.pl t) = (h, e) := ⟨_, _, rfl⟩
  have HH := Go.Lib.hid hHH
  clear hHH
  obtain ⟨k, d, hHK⟩ : ∃ h e, horOf (Ft.pl r) = (h, e) := ⟨_, _, rfl⟩
  have HK := Go.Lib.hid hHK
  clear hHK
  obtain ⟨j, c, hHJ⟩ : ∃ h e, horOf (exTwo (5 + m) 0 0 (Ft.pl t) (Ft.pl r)) = (h, e) := ⟨_, _, rfl⟩
  have HJ := Go.Lib.hid hHJ
  clear hHJ
  rw [HH.out, HK.out, HJ.out] at HTW
  obtain ⟨x00, x01, x02, x03, x04, x05, x06⟩ := HL.out.seven (w.heap.size) 28 t (by simp)
  have HC := Go.Lib.hid (of_of (f := Ft.pl t) rfl (HL.out.inn (w.heap.size) 28 t (by simp)) HL.out.shapes (by rw [pl_size]; have := HZt.out; omega) HNUMt.out HH.out)
  unfold Ft.val at HC
  go_wp2_with fail
  refine HC.out.mono ?_
  rintro e w7 ⟨rfl, hq⟩
  clear x00 x01 x02 x03 x04 x05 x06 HC
  replace HL := Go.Lib.hid (HL.out.keep hq)
  clear hq
  obtain ⟨x00, x01, x02, x03, x04, x05, x06⟩ := HL.out.seven (w.heap.size + 1) 28 r (by simp)
  have HC := Go.Lib.hid (of_of (f := Ft.pl r) rfl (HL.out.inn (w.heap.size + 1) 28 r (by simp)) HL.out.shapes (by rw [pl_size]; have := HZr.out; omega) HNUMr.out HK.out)
  unfold Ft.val at HC
  go_wp2_with fail
  refine HC.out.mono ?_
  rintro e w8 ⟨rfl, hq⟩
  clear x00 x01 x02 x03 x04 x05 x06 HC
  replace HL := Go.Lib.hid (HL.out.keep hq)
  clear hq
  obtain ⟨x00, x01, x02, x03, x04, x05, x06⟩ := HL.out.seven (bx) 28 tx (by simp)
  have HC := Go.Lib.hid (of_of HPX.out (HL.out.inn (bx) 28 tx (by simp)) HL.out.shapes (by rw [exTwo_size, pl_size, pl_size]; have := HZt.out; have := HZr.out; omega) (an_exTwo i64_0 i64_0 HNUMt.out HNUMr.out) HJ.out)
  unfold Ft.val at HC
  go_wp2_with fail
  refine HC.out.mono ?_
  rintro e w9 ⟨rfl, hq⟩
  clear x00 x01 x02 x03 x04 x05 x06 HC
  replace HL := Go.Lib.hid (HL.out.keep hq)
  clear hq
  by_cases he : e = 0
  rotate_left
  · have h9 := HTW.out.2.2.1 (.inl he)
    simp only [Prod.mk.injEq] at h9
    obtain ⟨rfl, rfl⟩ := h9
    have b3 : (e == 0) = false := by simpa using he
    have b3n : (e != 0) = true := by simp [he]
    clear he
    go_wp2_with fail
    go_ret
    exact ⟨rfl, HL.out.quiet⟩
  by_cases hd : d = 0
  rotate_left
  · have h9 := HTW.out.2.2.1 (.inr hd)
    simp only [Prod.mk.injEq] at h9
    obtain ⟨rfl, rfl⟩ := h9
    have b3 : (e == 0) = true := by simpa using he
    have b3n : (e != 0) = false := by simp [he]
    have b4 : (d == 0) = false := by simpa using hd
    have b4n : (d != 0) = true := by simp [hd]
    clear he hd
    go_wp2_with fail
    go_ret
    exact ⟨rfl, HL.out.quiet⟩
  have h9 := HTW.out.2.2.2 he hd
  simp only [Prod.mk.injEq] at h9
  obtain ⟨hjm, rfl⟩ := h9
  have HJM := Go.Lib.hid hjm
  have b3 : (e == 0) = true := by simpa using he
  have b3n : (e != 0) = false := by simp [he]
  have b4 : (d == 0) = true := by simpa using hd
  have b4n : (d != 0) = false := by simp [hd]
  clear he hd hjm HTW
  obtain ⟨X, hX⟩ : ∃ L, L = namesOf (exTwo (5 + m) 0 0 (Ft.pl t) (Ft.pl r)) := ⟨_, rfl⟩
  have HX : Hid (namesOf (exTwo (5 + m) 0 0 (Ft.pl t) (Ft.pl r)) = X) := Go.Lib.hid hX.symm
  clear hX
  obtain ⟨A, hA⟩ : ∃ L, L = namesOf (Ft.pl t) := ⟨_, rfl⟩
  have HA : Hid (namesOf (Ft.pl t) = A) := Go.Lib.hid hA.symm
  clear hA
  obtain ⟨B, hB⟩ : ∃ L, L = namesOf (Ft.pl r) := ⟨_, rfl⟩
  have HB : Hid (namesOf (Ft.pl r) = B) := Go.Lib.hid hB.symm
  clear hB
  have HRI : Hid (Rises X) := Go.Lib.hid (by rw [← HX.out]; exact namesOf_rises _)
  rw [HX.out, HA.out, HB.out] at HTN
  have hxl : X.length ≤ 100 := by rw [← HX.out]; have := namesOf_len (exTwo (5 + m) 0 0 (Ft.pl t) (Ft.pl r)); rw [exTwo_size, pl_size, pl_size] at this; have := HZt.out; have := HZr.out; omega
  have hal : A.length ≤ 100 := by rw [← HA.out]; have := namesOf_len (Ft.pl t); rw [pl_size] at this; have := HZt.out; omega
  have hbl : B.length ≤ 100 := by rw [← HB.out]; have := namesOf_len (Ft.pl r); rw [pl_size] at this; have := HZr.out; omega
  obtain ⟨x00, x01, x02, x03, x04, x05, x06⟩ := HL.out.seven (bx) 28 tx (by simp)
  have HC := Go.Lib.hid (names_of (f := exTwo (5 + m) 0 0 (Ft.pl t) (Ft.pl r)) HPX.out (HL.out.inn (bx) 28 tx (by simp)) HL.out.shapes (by rw [exTwo_size, pl_size, pl_size]; have := HZt.out; have := HZr.out; omega) HX.out)
  unfold Ft.val at HC
  go_wp2_with fail
  refine HC.out.mono ?_
  rintro e w10 ⟨aX, cX, rfl, hst, hq⟩
  clear x00 x01 x02 x03 x04 x05 x06 HC
  replace HL := Go.Lib.hid (HL.out.keep hq)
  clear hq
  have HSX := Go.Lib.hid hst
  clear hst
  obtain ⟨x00, x01, x02, x03, x04, x05, x06⟩ := HL.out.seven (w.heap.size) 28 t (by simp)
  have HC := Go.Lib.hid (names_of (f := Ft.pl t) rfl (HL.out.inn (w.heap.size) 28 t (by simp)) HL.out.shapes (by rw [pl_size]; have := HZt.out; omega) HA.out)
  unfold Ft.val at HC
  go_wp2_with fail
  refine HC.out.mono ?_
  rintro e w11 ⟨aA, cA, rfl, hst, hq⟩
  clear x00 x01 x02 x03 x04 x05 x06 HC
  replace HL := Go.Lib.hid (HL.out.keep hq)
  replace HSX := Go.Lib.hid (HSX.out.quiet hq)
  clear hq
  have HSA := Go.Lib.hid hst
  clear hst
  obtain ⟨x00, x01, x02, x03, x04, x05, x06⟩ := HL.out.seven (w.heap.size + 1) 28 r (by simp)
  have HC := Go.Lib.hid (names_of (f := Ft.pl r) rfl (HL.out.inn (w.heap.size + 1) 28 r (by simp)) HL.out.shapes (by rw [pl_size]; have := HZr.out; omega) HB.out)
  unfold Ft.val at HC
  go_wp2_with fail
  refine HC.out.mono ?_
  rintro e w12 ⟨aB, cB, rfl, hst, hq⟩
  clear x00 x01 x02 x03 x04 x05 x06 HC
  replace HL := Go.Lib.hid (HL.out.keep hq)
  replace HSX := Go.Lib.hid (HSX.out.quiet hq)
  replace HSA := Go.Lib.hid (HSA.out.quiet hq)
  clear hq
  have HSB := Go.Lib.hid hst
  clear hst
  go_wp2_with fail
  go_loopw [20] (fun iv wr => ∃ i : Nat, i ≤ X.length ∧ iv = .int .i64 (i : Int) ∧ (LawAt w [(bx, 28, tx), (w.heap.size + 1, 28, r), (w.heap.size, 28, t)] []) wr ∧ StrsAt wr aX X ∧ StrsAt wr aA A ∧ StrsAt wr aB B) (fun iv _ => X.length - (intOf iv).toNat)
  case atStart => exact ⟨0, Nat.zero_le _, rfl, HL.out, HSX.out, HSA.out, HSB.out⟩
  case round =>
    clear HL HSX HSA HSB
    obtain ⟨i, hi, rfl, hl, hsx, hsa, hsb⟩ := hrel
    have HL := Go.Lib.hid hl
    have HSX := Go.Lib.hid hsx
    have HSA := Go.Lib.hid hsa
    have HSB := Go.Lib.hid hsb
    clear hl hsx hsa hsb
    by_cases hlt : i < X.length
    · have HXI : Hid (X[i]? = some X[i]) := Go.Lib.hid (List.getElem?_eq_getElem hlt)
      have HMEM : Hid (X[i] ∈ A ∨ X[i] ∈ B) := Go.Lib.hid (HTN.out.1 _ (by simp))
      obtain ⟨sx, hsx1, hsx2⟩ := nm_bytes X[i]
      have HXS : Hid (sx.data.toList = X[i] ∧ encStr X[i] = .string sx) := ⟨hsx1, hsx2⟩
      clear hsx1 hsx2
      generalize X[i] = x at *
      go_wp2_with fail
      go_loopw [21, 22] (fun fl p wr => ∃ q : Nat, q ≤ A.length ∧ p = .int .i64 (q : Int) ∧ FlagIs fl (x ∈ A.take q) ∧ (LawAt w [(bx, 28, tx), (w.heap.size + 1, 28, r), (w.heap.size, 28, t)] []) wr ∧ StrsAt wr aX X ∧ StrsAt wr aA A ∧ StrsAt wr aB B) (fun _ p _ => A.length - (intOf p).toNat)
      case atStart => exact ⟨0, Nat.zero_le _, rfl, ⟨false, rfl, by simp⟩, HL.out, HSX.out, HSA.out, HSB.out⟩
      case round =>
        clear HL HSX HSA HSB
        obtain ⟨q, hq, rfl, ⟨fb, rfl, hfb⟩, hl, hsx, hsa, hsb⟩ := hrel
        have HL := Go.Lib.hid hl
        have HSX := Go.Lib.hid hsx
        have HSA := Go.Lib.hid hsa
        have HSB := Go.Lib.hid hsb
        have HFB := Go.Lib.hid hfb
        clear hl hsx hsa hsb hfb
        by_cases hlq : q < A.length
        · have hy : A[q]? = some A[q] := List.getElem?_eq_getElem hlq
          obtain ⟨g1, e1, q1⟩ := HSA.out (fun h => by rw [h] at hlq; simp at hlq)
          obtain ⟨g2, e2, q2⟩ := HSX.out (fun h => by rw [h] at hlt; simp at hlt)
          have y1 := q1 q _ hy
          have y2 := q2 i _ HXI.out
          obtain ⟨sa, hsa1, hsa2⟩ := nm_bytes A[q]
          rw [hsa2] at y1
          rw [HXS.out.2] at y2
          have HEQ : Hid ((sa.toList == sx.toList) = decide (A[q] = x)) := Go.Lib.hid (by rw [ByteArray.toList_eq, ByteArray.toList_eq, hsa1, HXS.out.1, Bool.eq_iff_iff]; simp)
          have HTK : Hid (A.take (q + 1) = A.take q ++ [A[q]]) := Go.Lib.hid (by rw [List.take_add_one, hy]; rfl)
          clear q1 q2 hy hsa1 hsa2
          generalize A[q] = z at *
          subst e1
          subst e2
          cases fb
          · by_cases hz : z = x
            · have beq := HEQ.out
              rw [decide_eq_true hz] at beq
              go_upto_region 26 with (fail)
              go_quiet (fail)
              have hqd : Quiet wr (wr.drewN nq) := (Alters.refl _).drewN _
              replace HL := Go.Lib.hid (HL.out.keep hqd)
              replace HSX := Go.Lib.hid (HSX.out.quiet hqd)
              replace HSA := Go.Lib.hid (HSA.out.quiet hqd)
              replace HSB := Go.Lib.hid (HSB.out.quiet hqd)
              clear hqd y1 y2
              generalize wr.drewN nq = w9 at *
              clear beq
              go_wp2_with fail
              go_roundw
              case rel => exact ⟨q + 1, by omega, by go_num, ⟨_, rfl, by rw [HTK.out]; simp [hz]⟩, HL.out, HSX.out, HSA.out, HSB.out⟩
              case measure => simp [intOf]; omega
            · have beq := HEQ.out
              rw [decide_eq_false hz] at beq
              have hz2 : ¬ x = z := fun h => hz h.symm
              have hfn : ¬ (x ∈ A.take q) := fun h => Bool.noConfusion (HFB.out.2 h)
              have HFN := Go.Lib.hid hfn
              clear hfn
              go_upto_region 26 with (fail)
              go_quiet (fail)
              have hqd : Quiet wr (wr.drewN nq) := (Alters.refl _).drewN _
              replace HL := Go.Lib.hid (HL.out.keep hqd)
              replace HSX := Go.Lib.hid (HSX.out.quiet hqd)
              replace HSA := Go.Lib.hid (HSA.out.quiet hqd)
              replace HSB := Go.Lib.hid (HSB.out.quiet hqd)
              clear hqd y1 y2
              generalize wr.drewN nq = w9 at *
              clear beq
              go_wp2_with fail
              go_roundw
              case rel => exact ⟨q + 1, by omega, by go_num, ⟨_, rfl, by rw [HTK.out]; have hfn := HFN.out; simp [hz2]; simpa using hfn⟩, HL.out, HSX.out, HSA.out, HSB.out⟩
              case measure => simp [intOf]; omega
          · have hft : x ∈ A.take q := HFB.out.1 rfl
            have HFT := Go.Lib.hid hft
            clear hft
            go_upto_region 26 with (fail)
            go_quiet (fail)
            have hqd : Quiet wr (wr.drewN nq) := (Alters.refl _).drewN _
            replace HL := Go.Lib.hid (HL.out.keep hqd)
            replace HSX := Go.Lib.hid (HSX.out.quiet hqd)
            replace HSA := Go.Lib.hid (HSA.out.quiet hqd)
            replace HSB := Go.Lib.hid (HSB.out.quiet hqd)
            clear hqd y1 y2
            generalize wr.drewN nq = w9 at *
            go_wp2_with fail
            go_roundw
            case rel => exact ⟨q + 1, by omega, by go_num, ⟨_, rfl, by rw [HTK.out]; have hft := HFT.out; simp [hft]⟩, HL.out, HSX.out, HSA.out, HSB.out⟩
            case measure => simp [intOf]; omega
        · obtain rfl : q = A.length := by omega
          rw [List.take_length] at HFB
          clear hlq hq
          go_wp2_with fail
          go_loopw [21, 23] (fun fl p wr => ∃ q : Nat, q ≤ B.length ∧ p = .int .i64 (q : Int) ∧ FlagIs fl (x ∈ A ∨ x ∈ B.take q) ∧ (LawAt w [(bx, 28, tx), (w.heap.size + 1, 28, r), (w.heap.size, 28, t)] []) wr ∧ StrsAt wr aX X ∧ StrsAt wr aA A ∧ StrsAt wr aB B) (fun _ p _ => B.length - (intOf p).toNat)
          case atStart => exact ⟨0, Nat.zero_le _, rfl, ⟨fb, rfl, by rw [HFB.out]; simp⟩, HL.out, HSX.out, HSA.out, HSB.out⟩
          case round =>
            clear HL HSX HSA HSB
            obtain ⟨q, hq, rfl, ⟨fb, rfl, hfb⟩, hl, hsx, hsa, hsb⟩ := hrel
            have HL := Go.Lib.hid hl
            have HSX := Go.Lib.hid hsx
            have HSA := Go.Lib.hid hsa
            have HSB := Go.Lib.hid hsb
            have HFB := Go.Lib.hid hfb
            clear hl hsx hsa hsb hfb
            by_cases hlq : q < B.length
            · have hy : B[q]? = some B[q] := List.getElem?_eq_getElem hlq
              obtain ⟨g1, e1, q1⟩ := HSB.out (fun h => by rw [h] at hlq; simp at hlq)
              obtain ⟨g2, e2, q2⟩ := HSX.out (fun h => by rw [h] at hlt; simp at hlt)
              have y1 := q1 q _ hy
              have y2 := q2 i _ HXI.out
              obtain ⟨sa, hsa1, hsa2⟩ := nm_bytes B[q]
              rw [hsa2] at y1
              rw [HXS.out.2] at y2
              have HEQ : Hid ((sa.toList == sx.toList) = decide (B[q] = x)) := Go.Lib.hid (by rw [ByteArray.toList_eq, ByteArray.toList_eq, hsa1, HXS.out.1, Bool.eq_iff_iff]; simp)
              have HTK : Hid (B.take (q + 1) = B.take q ++ [B[q]]) := Go.Lib.hid (by rw [List.take_add_one, hy]; rfl)
              clear q1 q2 hy hsa1 hsa2
              generalize B[q] = z at *
              subst e1
              subst e2
              cases fb
              · by_cases hz : z = x
                · have beq := HEQ.out
                  rw [decide_eq_true hz] at beq
                  go_upto_region 30 with (fail)
                  go_quiet (fail)
                  have hqd : Quiet wr (wr.drewN nq) := (Alters.refl _).drewN _
                  replace HL := Go.Lib.hid (HL.out.keep hqd)
                  replace HSX := Go.Lib.hid (HSX.out.quiet hqd)
                  replace HSA := Go.Lib.hid (HSA.out.quiet hqd)
                  replace HSB := Go.Lib.hid (HSB.out.quiet hqd)
                  clear hqd y1 y2
                  generalize wr.drewN nq = w9 at *
                  clear beq
                  go_wp2_with fail
                  go_roundw
                  case rel => exact ⟨q + 1, by omega, by go_num, ⟨_, rfl, by rw [HTK.out]; simp [hz]⟩, HL.out, HSX.out, HSA.out, HSB.out⟩
                  case measure => simp [intOf]; omega
                · have beq := HEQ.out
                  rw [decide_eq_false hz] at beq
                  have hz2 : ¬ x = z := fun h => hz h.symm
                  have hfn : ¬ (x ∈ A ∨ x ∈ B.take q) := fun h => Bool.noConfusion (HFB.out.2 h)
                  have HFN := Go.Lib.hid hfn
                  clear hfn
                  go_upto_region 30 with (fail)
                  go_quiet (fail)
                  have hqd : Quiet wr (wr.drewN nq) := (Alters.refl _).drewN _
                  replace HL := Go.Lib.hid (HL.out.keep hqd)
                  replace HSX := Go.Lib.hid (HSX.out.quiet hqd)
                  replace HSA := Go.Lib.hid (HSA.out.quiet hqd)
                  replace HSB := Go.Lib.hid (HSB.out.quiet hqd)
                  clear hqd y1 y2
                  generalize wr.drewN nq = w9 at *
                  clear beq
                  go_wp2_with fail
                  go_roundw
                  case rel => exact ⟨q + 1, by omega, by go_num, ⟨_, rfl, by rw [HTK.out]; have hfn := HFN.out; simp [hz2]; simpa using hfn⟩, HL.out, HSX.out, HSA.out, HSB.out⟩
                  case measure => simp [intOf]; omega
              · have hft : x ∈ A ∨ x ∈ B.take q := HFB.out.1 rfl
                have HFT := Go.Lib.hid hft
                clear hft
                go_upto_region 30 with (fail)
                go_quiet (fail)
                have hqd : Quiet wr (wr.drewN nq) := (Alters.refl _).drewN _
                replace HL := Go.Lib.hid (HL.out.keep hqd)
                replace HSX := Go.Lib.hid (HSX.out.quiet hqd)
                replace HSA := Go.Lib.hid (HSA.out.quiet hqd)
                replace HSB := Go.Lib.hid (HSB.out.quiet hqd)
                clear hqd y1 y2
                generalize wr.drewN nq = w9 at *
                go_wp2_with fail
                go_roundw
                case rel => exact ⟨q + 1, by omega, by go_num, ⟨_, rfl, by rw [HTK.out]; have hft := HFT.out; simp; rcases hft with h | h <;> simp [h]⟩, HL.out, HSX.out, HSA.out, HSB.out⟩
                case measure => simp [intOf]; omega
            · obtain rfl : q = B.length := by omega
              rw [List.take_length] at HFB
              clear hlq hq
              obtain rfl : fb = true := HFB.out.2 HMEM.out
              clear HFB
              obtain ⟨g2, e2, q2⟩ := HSX.out (fun h => by rw [h] at hlt; simp at hlt)
              have y2 := q2 i _ HXI.out
              rw [HXS.out.2] at y2
              subst e2
              rcases Nat.eq_zero_or_pos i with hi0 | hi0
              · subst hi0
                have y1 := y2
                go_upto_region 31 with (fail)
                go_quiet (fail)
                have hqd : Quiet wr (wr.drewN nq) := (Alters.refl _).drewN _
                replace HL := Go.Lib.hid (HL.out.keep hqd)
                replace HSX := Go.Lib.hid (HSX.out.quiet hqd)
                replace HSA := Go.Lib.hid (HSA.out.quiet hqd)
                replace HSB := Go.Lib.hid (HSB.out.quiet hqd)
                clear hqd y1 y2
                generalize wr.drewN nq = w9 at *
                go_wp2_with fail
                go_roundw
                case rel => exact ⟨0 + 1, by omega, by go_num, HL.out, HSX.out, HSA.out, HSB.out⟩
                case measure => simp [intOf]; omega
              · obtain ⟨i0, hi1⟩ : ∃ i0, i = i0 + 1 := ⟨i - 1, by omega⟩
                have hx0 : X[i0]? = some X[i0] := List.getElem?_eq_getElem (by omega)
                have y1 := q2 i0 _ hx0
                obtain ⟨s0, hs1, hs2⟩ := nm_bytes X[i0]
                rw [hs2] at y1
                have hlt9 : ltN X[i0] x = true := by
                  have h9 := List.pairwise_iff_getElem.1 HRI.out i0 i (by omega) hlt (by omega)
                  have h8 : X[i] = x := by have := HXI.out; rw [List.getElem?_eq_getElem hlt] at this; exact Option.some.inj this
                  rw [h8] at h9
                  exact h9
                have bl : Op.bytesLess s0.toList sx.toList = true := by rw [ByteArray.toList_eq, ByteArray.toList_eq, hs1, HXS.out.1, less_ltN]; exact hlt9
                have hi2 : (i : Int) - 1 = (i0 : Int) := by omega
                have hwi : IntKind.i64.wrap (i0 : Int) = (i0 : Int) := by rw [IntKind.wrap_i64]; omega
                have hi3 : decide (0 < i) = true := decide_eq_true hi0
                have hi4 : i0 < X.length := by omega
                have HI1 := Go.Lib.hid hi1
                clear hx0 hs1 hs2 hlt9 q2 hi1
                go_upto_region 31 with (fail)
                go_quiet (fail)
                have hqd : Quiet wr (wr.drewN nq) := (Alters.refl _).drewN _
                replace HL := Go.Lib.hid (HL.out.keep hqd)
                replace HSX := Go.Lib.hid (HSX.out.quiet hqd)
                replace HSA := Go.Lib.hid (HSA.out.quiet hqd)
                replace HSB := Go.Lib.hid (HSB.out.quiet hqd)
                clear hqd y1 y2
                generalize wr.drewN nq = w9 at *
                clear bl hi2 hwi hi3
                go_wp2_with fail
                go_roundw
                case rel => exact ⟨i + 1, by omega, by go_num, HL.out, HSX.out, HSA.out, HSB.out⟩
                case measure => simp [intOf]; omega
    · obtain rfl : i = X.length := by omega
      clear hlt hi
      clear HSX HSA HSB HRI
      obtain ⟨nx, hnx⟩ : ∃ n, n = nestOf (exTwo (5 + m) 0 0 (Ft.pl t) (Ft.pl r)) := ⟨_, rfl⟩
      obtain ⟨nt, hnt⟩ : ∃ n, n = nestOf (Ft.pl t) := ⟨_, rfl⟩
      obtain ⟨nu, hnu⟩ : ∃ n, n = nestOf (Ft.pl r) := ⟨_, rfl⟩
      have HNE2 : Hid (nx = max nt nu) := Go.Lib.hid (by rw [hnx, hnt, hnu]; exact HNE.out)
      have HNX : Hid (nestOf (exTwo (5 + m) 0 0 (Ft.pl t) (Ft.pl r)) = nx) := Go.Lib.hid hnx.symm
      have HNT : Hid (nestOf (Ft.pl t) = nt) := Go.Lib.hid hnt.symm
      have HNU : Hid (nestOf (Ft.pl r) = nu) := Go.Lib.hid hnu.symm
      obtain ⟨M, hM⟩ : ∃ M, M = max A.length B.length := ⟨_, rfl⟩
      have HM := Go.Lib.hid hM
      have hwab : IntKind.i64.wrap ((A.length : Int) + (B.length : Int)) = (A.length : Int) + (B.length : Int) := by rw [IntKind.wrap_i64]; omega
      clear hnx hnt hnu hM HNE
      go_upto_region 33 with (fail)
      generalize hfr : Act.mk _ _ = a0
      have h3 : a0.tmps.getD 3 undef = (.pointer (some ⟨w.heap.size, 0, none⟩)) := by rw [← hfr]; kernel_rfl
      have h4 : a0.tmps.getD 4 undef = (.pointer (some ⟨w.heap.size + 1, 0, none⟩)) := by rw [← hfr]; kernel_rfl
      have h10 : a0.tmps.getD 10 undef = (.pointer (some ⟨bx, 0, none⟩)) := by rw [← hfr]; kernel_rfl
      have h11 : a0.tmps.getD 11 undef = (.int .i64 h) := by rw [← hfr]; kernel_rfl
      have h13 : a0.tmps.getD 13 undef = (.int .i64 k) := by rw [← hfr]; kernel_rfl
      have h15 : a0.tmps.getD 15 undef = (.int .i64 j) := by rw [← hfr]; kernel_rfl
      have h16 : a0.tmps.getD 16 undef = (.int .i64 0) := by rw [← hfr]; kernel_rfl
      have h17 : a0.tmps.getD 17 undef = (.slice aX X.length cX) := by rw [← hfr]; kernel_rfl
      have h18 : a0.tmps.getD 18 undef = (.slice aA A.length cA) := by rw [← hfr]; kernel_rfl
      have h19 : a0.tmps.getD 19 undef = (.slice aB B.length cB) := by rw [← hfr]; kernel_rfl
      obtain ⟨F, hF0⟩ : ∃ F : (Nat → Value) → Act, F = fun u => ⟨#[a0.tmps.getD 0 undef, a0.tmps.getD 1 undef, a0.tmps.getD 2 undef, a0.tmps.getD 3 undef, a0.tmps.getD 4 undef, a0.tmps.getD 5 undef, u 39, a0.tmps.getD 7 undef, a0.tmps.getD 8 undef, a0.tmps.getD 9 undef, a0.tmps.getD 10 undef, a0.tmps.getD 11 undef, a0.tmps.getD 12 undef, a0.tmps.getD 13 undef, a0.tmps.getD 14 undef, a0.tmps.getD 15 undef, a0.tmps.getD 16 undef, a0.tmps.getD 17 undef, a0.tmps.getD 18 undef, a0.tmps.getD 19 undef, a0.tmps.getD 20 undef, a0.tmps.getD 21 undef, a0.tmps.getD 22 undef, a0.tmps.getD 23 undef, a0.tmps.getD 24 undef, a0.tmps.getD 25 undef, a0.tmps.getD 26 undef, a0.tmps.getD 27 undef, a0.tmps.getD 28 undef, a0.tmps.getD 29 undef, a0.tmps.getD 30 undef, a0.tmps.getD 31 undef, a0.tmps.getD 32 undef, a0.tmps.getD 33 undef, a0.tmps.getD 34 undef, a0.tmps.getD 35 undef, a0.tmps.getD 36 undef, a0.tmps.getD 37 undef, a0.tmps.getD 38 undef, a0.tmps.getD 39 undef, a0.tmps.getD 40 undef, a0.tmps.getD 41 undef, a0.tmps.getD 42 undef, a0.tmps.getD 43 undef, a0.tmps.getD 44 undef, a0.tmps.getD 45 undef, a0.tmps.getD 46 undef, a0.tmps.getD 47 undef, a0.tmps.getD 48 undef, a0.tmps.getD 49 undef, a0.tmps.getD 50 undef, a0.tmps.getD 51 undef, a0.tmps.getD 52 undef, a0.tmps.getD 53 undef, a0.tmps.getD 54 undef, a0.tmps.getD 55 undef, a0.tmps.getD 56 undef, a0.tmps.getD 57 undef, a0.tmps.getD 58 undef, a0.tmps.getD 59 undef, a0.tmps.getD 60 undef, a0.tmps.getD 61 undef, a0.tmps.getD 62 undef, a0.tmps.getD 63 undef, a0.tmps.getD 64 undef, a0.tmps.getD 65 undef, a0.tmps.getD 66 undef, a0.tmps.getD 67 undef, a0.tmps.getD 68 undef, a0.tmps.getD 69 undef, a0.tmps.getD 70 undef, a0.tmps.getD 71 undef, a0.tmps.getD 72 undef, a0.tmps.getD 73 undef, a0.tmps.getD 74 undef, a0.tmps.getD 75 undef, a0.tmps.getD 76 undef, a0.tmps.getD 77 undef, a0.tmps.getD 78 undef, a0.tmps.getD 79 undef, a0.tmps.getD 80 undef, a0.tmps.getD 81 undef, a0.tmps.getD 82 undef, a0.tmps.getD 83 undef, a0.tmps.getD 84 undef, a0.tmps.getD 85 undef, a0.tmps.getD 86 undef, a0.tmps.getD 87 undef, a0.tmps.getD 88 undef, a0.tmps.getD 89 undef, a0.tmps.getD 90 undef, a0.tmps.getD 91 undef, a0.tmps.getD 92 undef, a0.tmps.getD 93 undef, a0.tmps.getD 94 undef, a0.tmps.getD 95 undef, a0.tmps.getD 96 undef, a0.tmps.getD 97 undef, a0.tmps.getD 98 undef, a0.tmps.getD 99 undef, a0.tmps.getD 100 undef, a0.tmps.getD 101 undef, a0.tmps.getD 102 undef, a0.tmps.getD 103 undef, a0.tmps.getD 104 undef, a0.tmps.getD 105 undef, a0.tmps.getD 106 undef, a0.tmps.getD 107 undef, a0.tmps.getD 108 undef, a0.tmps.getD 109 undef, a0.tmps.getD 110 undef, a0.tmps.getD 111 undef, a0.tmps.getD 112 undef, a0.tmps.getD 113 undef, a0.tmps.getD 114 undef, a0.tmps.getD 115 undef, a0.tmps.getD 116 undef, a0.tmps.getD 117 undef, a0.tmps.getD 118 undef, a0.tmps.getD 119 undef, a0.tmps.getD 120 undef, a0.tmps.getD 121 undef, a0.tmps.getD 122 undef, a0.tmps.getD 123 undef, a0.tmps.getD 124 undef, a0.tmps.getD 125 undef, a0.tmps.getD 126 undef, a0.tmps.getD 127 undef, a0.tmps.getD 128 undef, a0.tmps.getD 129 undef, a0.tmps.getD 130 undef, a0.tmps.getD 131 undef, a0.tmps.getD 132 undef, a0.tmps.getD 133 undef, a0.tmps.getD 134 undef, a0.tmps.getD 135 undef, a0.tmps.getD 136 undef, a0.tmps.getD 137 undef, a0.tmps.getD 138 undef, a0.tmps.getD 139 undef, a0.tmps.getD 140 undef, u 0, u 1, u 2, u 3, u 4, u 5, u 6, u 7, u 8, u 9, u 10, u 11, u 12, u 13, u 14, u 15, u 16, u 17, u 18, u 19, u 20, u 21, u 22, u 23, u 24, u 25, u 26, u 27, u 28, u 29, u 30, u 31, u 32, u 33, u 34, u 35, u 36, u 37, u 38], []⟩ := ⟨_, rfl⟩
      refine wp_region_wants_at F (fun u => by rw [hF0, ← hfr]; kernel_rfl) (by kernel_rfl) (by kernel_rfl) (by kernel_rfl) (by kernel_rfl) (LawAt w [(bx, 28, tx), (w.heap.size + 1, 28, r), (w.heap.size, 28, t)] []) (fun _ _ hq h => h.keep hq) [Want.is (.int .i64 0), Want.is (.bool true), Want.is (.bool true), Want.is (.int .i64 j), Want.is (.int .i64 h), Want.is (.int .i64 k), Want.is (.int .i64 j), Want.is (.bool true), Want.is (.bool true), Want.is (.bool true), Want.is (.slice aX X.length cX), Want.is (.int .i64 (X.length : Int)), Want.is (.slice aA A.length cA), Want.is (.int .i64 (A.length : Int)), Want.is (.slice aB B.length cB), Want.is (.int .i64 (B.length : Int)), Want.is (.int .i64 ((A.length : Int) + (B.length : Int))), Want.is (.bool true), Want.is (.bool true), Want.is (.bool true), Want.is (.slice aX X.length cX), Want.is (.int .i64 (X.length : Int)), Want.is (.slice aA A.length cA), Want.is (.int .i64 (A.length : Int)), Want.is (.slice aB B.length cB), Want.is (.int .i64 (B.length : Int)), Want.is (.int .i64 (M : Int)), Want.is (.bool true), Want.is (.bool true), Want.is (.bool true), Want.is (Ft.val tx), Want.is (.int .i64 nx), Want.is (Ft.val t), Want.is (.int .i64 nt), Want.is (Ft.val r), Want.is (.int .i64 nu), Want.is (.int .i64 nx), Want.is (.bool true), Want.is (.bool true)] (HL.out.keep ((Alters.refl _).drew)) (by decide) ?_
      clear hfr
      refine Steps.cons ?_ (Steps.cons ?_ (Steps.cons ?_ (Steps.cons ?_ (Steps.cons ?_ (Steps.cons ?_ (Steps.cons ?_ (Steps.cons ?_ (Steps.cons ?_ (Steps.cons ?_ (Steps.cons ?_ (Steps.cons ?_ (Steps.cons ?_ (Steps.cons ?_ (Steps.cons ?_ (Steps.cons ?_ (Steps.cons ?_ (Steps.cons ?_ (Steps.cons ?_ (Steps.cons ?_ (Steps.cons ?_ (Steps.cons ?_ (Steps.cons ?_ (Steps.cons ?_ (Steps.cons ?_ (Steps.cons ?_ (Steps.cons ?_ (Steps.cons ?_ (Steps.cons ?_ (Steps.cons ?_ (Steps.cons ?_ (Steps.cons ?_ (Steps.cons ?_ (Steps.cons ?_ (Steps.cons ?_ (Steps.cons ?_ (Steps.cons ?_ (Steps.cons ?_ (Steps.cons ?_ (Steps.last ?_)))))))))))))))))))))))))))))))))))))))
      · intro u W K hS hF hK
        generalize hA : F u = Ac at hK ⊢
        have a16 : Ac.tmps.getD 16 undef = (.int .i64 0) := (show Ac.tmps.getD 16 undef = a0.tmps.getD 16 undef by rw [← hA, hF0]; kernel_rfl).trans h16
        clear hA hF0
        clear hF
        go_simp
        exact hK.out _ _ (Alters.refl _) rfl
      · intro u W K hS hF hK
        have f0 : u 0 = .int .i64 0 := hF 0 (by kernel_rfl)
        generalize hA : F u = Ac at hK ⊢
        have a141 : Ac.tmps.getD 141 undef = u 0 := by rw [← hA, hF0]; kernel_rfl
        clear hA hF0
        simp only [f0] at a141
        clear hF
        go_simp
        exact hK.out _ _ (Alters.refl _) rfl
      · intro u W K hS hF hK
        have f1 : u 1 = .bool true := hF 1 (by kernel_rfl)
        generalize hA : F u = Ac at hK ⊢
        have a142 : Ac.tmps.getD 142 undef = u 1 := by rw [← hA, hF0]; kernel_rfl
        clear hA hF0
        simp only [f1] at a142
        clear hF
        go_simp
        exact hK.out _ _ (Alters.refl _) rfl
      · intro u W K hS hF hK
        have f2 : u 2 = .bool true := hF 2 (by kernel_rfl)
        generalize hA : F u = Ac at hK ⊢
        have a15 : Ac.tmps.getD 15 undef = (.int .i64 j) := (show Ac.tmps.getD 15 undef = a0.tmps.getD 15 undef by rw [← hA, hF0]; kernel_rfl).trans h15
        have a143 : Ac.tmps.getD 143 undef = u 2 := by rw [← hA, hF0]; kernel_rfl
        have g143 : Ac.tmps[143]? = some (u 2) := by rw [← hA, hF0]; kernel_rfl
        clear hA hF0
        simp only [f2] at a15 g143
        clear hF
        go_simp
        exact hK.out _ _ (Alters.refl _) rfl
      · intro u W K hS hF hK
        have f2 : u 2 = .bool true := hF 2 (by kernel_rfl)
        generalize hA : F u = Ac at hK ⊢
        have a11 : Ac.tmps.getD 11 undef = (.int .i64 h) := (show Ac.tmps.getD 11 undef = a0.tmps.getD 11 undef by rw [← hA, hF0]; kernel_rfl).trans h11
        have a143 : Ac.tmps.getD 143 undef = u 2 := by rw [← hA, hF0]; kernel_rfl
        have g143 : Ac.tmps[143]? = some (u 2) := by rw [← hA, hF0]; kernel_rfl
        clear hA hF0
        simp only [f2] at a11 g143
        clear hF
        go_simp
        exact hK.out _ _ (Alters.refl _) rfl
      · intro u W K hS hF hK
        have f2 : u 2 = .bool true := hF 2 (by kernel_rfl)
        generalize hA : F u = Ac at hK ⊢
        have a13 : Ac.tmps.getD 13 undef = (.int .i64 k) := (show Ac.tmps.getD 13 undef = a0.tmps.getD 13 undef by rw [← hA, hF0]; kernel_rfl).trans h13
        have a143 : Ac.tmps.getD 143 undef = u 2 := by rw [← hA, hF0]; kernel_rfl
        have g143 : Ac.tmps[143]? = some (u 2) := by rw [← hA, hF0]; kernel_rfl
        clear hA hF0
        simp only [f2] at a13 g143
        clear hF
        go_simp
        exact hK.out _ _ (Alters.refl _) rfl
      · intro u W K hS hF hK
        have f2 : u 2 = .bool true := hF 2 (by kernel_rfl)
        have f4 : u 4 = .int .i64 h := hF 4 (by kernel_rfl)
        have f5 : u 5 = .int .i64 k := hF 5 (by kernel_rfl)
        generalize hA : F u = Ac at hK ⊢
        have a143 : Ac.tmps.getD 143 undef = u 2 := by rw [← hA, hF0]; kernel_rfl
        have a145 : Ac.tmps.getD 145 undef = u 4 := by rw [← hA, hF0]; kernel_rfl
        have a146 : Ac.tmps.getD 146 undef = u 5 := by rw [← hA, hF0]; kernel_rfl
        have g143 : Ac.tmps[143]? = some (u 2) := by rw [← hA, hF0]; kernel_rfl
        clear hA hF0
        simp only [f2, f4, f5] at a145 a146 g143
        clear hF
        go_simp
        exact hK.out _ _ (Alters.refl _) (show Value.int .i64 _ = .int .i64 j by rw [HJM.out] <;> (congr 1 <;> first | omega | (split <;> omega)))
      · intro u W K hS hF hK
        have f2 : u 2 = .bool true := hF 2 (by kernel_rfl)
        have f3 : u 3 = .int .i64 j := hF 3 (by kernel_rfl)
        have f6 : u 6 = .int .i64 j := hF 6 (by kernel_rfl)
        generalize hA : F u = Ac at hK ⊢
        have a143 : Ac.tmps.getD 143 undef = u 2 := by rw [← hA, hF0]; kernel_rfl
        have a144 : Ac.tmps.getD 144 undef = u 3 := by rw [← hA, hF0]; kernel_rfl
        have a147 : Ac.tmps.getD 147 undef = u 6 := by rw [← hA, hF0]; kernel_rfl
        have g143 : Ac.tmps[143]? = some (u 2) := by rw [← hA, hF0]; kernel_rfl
        clear hA hF0
        simp only [f2, f3, f6] at a144 a147 g143
        clear hF
        go_simp
        exact hK.out _ _ (Alters.refl _) rfl
      · intro u W K hS hF hK
        have f2 : u 2 = .bool true := hF 2 (by kernel_rfl)
        have f7 : u 7 = .bool true := hF 7 (by kernel_rfl)
        generalize hA : F u = Ac at hK ⊢
        have a143 : Ac.tmps.getD 143 undef = u 2 := by rw [← hA, hF0]; kernel_rfl
        have a148 : Ac.tmps.getD 148 undef = u 7 := by rw [← hA, hF0]; kernel_rfl
        clear hA hF0
        simp only [f2, f7] at a143 a148
        clear hF
        go_simp
        exact hK.out _ _ (Alters.refl _) rfl
      · intro u W K hS hF hK
        have f8 : u 8 = .bool true := hF 8 (by kernel_rfl)
        generalize hA : F u = Ac at hK ⊢
        have a149 : Ac.tmps.getD 149 undef = u 8 := by rw [← hA, hF0]; kernel_rfl
        clear hA hF0
        simp only [f8] at a149
        clear hF
        go_simp
        exact hK.out _ _ (Alters.refl _) rfl
      · intro u W K hS hF hK
        have f9 : u 9 = .bool true := hF 9 (by kernel_rfl)
        generalize hA : F u = Ac at hK ⊢
        have a17 : Ac.tmps.getD 17 undef = (.slice aX X.length cX) := (show Ac.tmps.getD 17 undef = a0.tmps.getD 17 undef by rw [← hA, hF0]; kernel_rfl).trans h17
        have a150 : Ac.tmps.getD 150 undef = u 9 := by rw [← hA, hF0]; kernel_rfl
        have g150 : Ac.tmps[150]? = some (u 9) := by rw [← hA, hF0]; kernel_rfl
        clear hA hF0
        simp only [f9] at a17 g150
        clear hF
        go_simp
        exact hK.out _ _ (Alters.refl _) rfl
      · intro u W K hS hF hK
        have f9 : u 9 = .bool true := hF 9 (by kernel_rfl)
        have f10 : u 10 = .slice aX X.length cX := hF 10 (by kernel_rfl)
        generalize hA : F u = Ac at hK ⊢
        have a150 : Ac.tmps.getD 150 undef = u 9 := by rw [← hA, hF0]; kernel_rfl
        have a151 : Ac.tmps.getD 151 undef = u 10 := by rw [← hA, hF0]; kernel_rfl
        have g150 : Ac.tmps[150]? = some (u 9) := by rw [← hA, hF0]; kernel_rfl
        clear hA hF0
        simp only [f9, f10] at a151 g150
        clear hF
        go_simp
        exact hK.out _ _ (Alters.refl _) rfl
      · intro u W K hS hF hK
        have f9 : u 9 = .bool true := hF 9 (by kernel_rfl)
        generalize hA : F u = Ac at hK ⊢
        have a18 : Ac.tmps.getD 18 undef = (.slice aA A.length cA) := (show Ac.tmps.getD 18 undef = a0.tmps.getD 18 undef by rw [← hA, hF0]; kernel_rfl).trans h18
        have a150 : Ac.tmps.getD 150 undef = u 9 := by rw [← hA, hF0]; kernel_rfl
        have g150 : Ac.tmps[150]? = some (u 9) := by rw [← hA, hF0]; kernel_rfl
        clear hA hF0
        simp only [f9] at a18 g150
        clear hF
        go_simp
        exact hK.out _ _ (Alters.refl _) rfl
      · intro u W K hS hF hK
        have f9 : u 9 = .bool true := hF 9 (by kernel_rfl)
        have f12 : u 12 = .slice aA A.length cA := hF 12 (by kernel_rfl)
        generalize hA : F u = Ac at hK ⊢
        have a150 : Ac.tmps.getD 150 undef = u 9 := by rw [← hA, hF0]; kernel_rfl
        have a153 : Ac.tmps.getD 153 undef = u 12 := by rw [← hA, hF0]; kernel_rfl
        have g150 : Ac.tmps[150]? = some (u 9) := by rw [← hA, hF0]; kernel_rfl
        clear hA hF0
        simp only [f9, f12] at a153 g150
        clear hF
        go_simp
        exact hK.out _ _ (Alters.refl _) rfl
      · intro u W K hS hF hK
        have f9 : u 9 = .bool true := hF 9 (by kernel_rfl)
        generalize hA : F u = Ac at hK ⊢
        have a19 : Ac.tmps.getD 19 undef = (.slice aB B.length cB) := (show Ac.tmps.getD 19 undef = a0.tmps.getD 19 undef by rw [← hA, hF0]; kernel_rfl).trans h19
        have a150 : Ac.tmps.getD 150 undef = u 9 := by rw [← hA, hF0]; kernel_rfl
        have g150 : Ac.tmps[150]? = some (u 9) := by rw [← hA, hF0]; kernel_rfl
        clear hA hF0
        simp only [f9] at a19 g150
        clear hF
        go_simp
        exact hK.out _ _ (Alters.refl _) rfl
      · intro u W K hS hF hK
        have f9 : u 9 = .bool true := hF 9 (by kernel_rfl)
        have f14 : u 14 = .slice aB B.length cB := hF 14 (by kernel_rfl)
        generalize hA : F u = Ac at hK ⊢
        have a150 : Ac.tmps.getD 150 undef = u 9 := by rw [← hA, hF0]; kernel_rfl
        have a155 : Ac.tmps.getD 155 undef = u 14 := by rw [← hA, hF0]; kernel_rfl
        have g150 : Ac.tmps[150]? = some (u 9) := by rw [← hA, hF0]; kernel_rfl
        clear hA hF0
        simp only [f9, f14] at a155 g150
        clear hF
        go_simp
        exact hK.out _ _ (Alters.refl _) rfl
      · intro u W K hS hF hK
        have f9 : u 9 = .bool true := hF 9 (by kernel_rfl)
        have f13 : u 13 = .int .i64 (A.length : Int) := hF 13 (by kernel_rfl)
        have f15 : u 15 = .int .i64 (B.length : Int) := hF 15 (by kernel_rfl)
        generalize hA : F u = Ac at hK ⊢
        have a150 : Ac.tmps.getD 150 undef = u 9 := by rw [← hA, hF0]; kernel_rfl
        have a154 : Ac.tmps.getD 154 undef = u 13 := by rw [← hA, hF0]; kernel_rfl
        have a156 : Ac.tmps.getD 156 undef = u 15 := by rw [← hA, hF0]; kernel_rfl
        have g150 : Ac.tmps[150]? = some (u 9) := by rw [← hA, hF0]; kernel_rfl
        clear hA hF0
        simp only [f9, f13, f15] at a154 a156 g150
        clear hF
        go_simp
        exact hK.out _ _ (Alters.refl _) rfl
      · intro u W K hS hF hK
        have f9 : u 9 = .bool true := hF 9 (by kernel_rfl)
        have f11 : u 11 = .int .i64 (X.length : Int) := hF 11 (by kernel_rfl)
        have f16 : u 16 = .int .i64 ((A.length : Int) + (B.length : Int)) := hF 16 (by kernel_rfl)
        generalize hA : F u = Ac at hK ⊢
        have a150 : Ac.tmps.getD 150 undef = u 9 := by rw [← hA, hF0]; kernel_rfl
        have a152 : Ac.tmps.getD 152 undef = u 11 := by rw [← hA, hF0]; kernel_rfl
        have a157 : Ac.tmps.getD 157 undef = u 16 := by rw [← hA, hF0]; kernel_rfl
        have g150 : Ac.tmps[150]? = some (u 9) := by rw [← hA, hF0]; kernel_rfl
        clear hA hF0
        simp only [f9, f11, f16] at a152 a157 g150
        clear hF
        go_simp
        exact hK.out _ _ (Alters.refl _) (show Value.bool _ = .bool true by congr 1 <;> (rw [decide_eq_true_eq]; have h1 := HTN.out.2.1; have h2 := HTN.out.2.2.1; have h3 := HTN.out.2.2.2; have h4 := HM.out; omega))
      · intro u W K hS hF hK
        have f9 : u 9 = .bool true := hF 9 (by kernel_rfl)
        have f17 : u 17 = .bool true := hF 17 (by kernel_rfl)
        generalize hA : F u = Ac at hK ⊢
        have a150 : Ac.tmps.getD 150 undef = u 9 := by rw [← hA, hF0]; kernel_rfl
        have a158 : Ac.tmps.getD 158 undef = u 17 := by rw [← hA, hF0]; kernel_rfl
        clear hA hF0
        simp only [f9, f17] at a150 a158
        clear hF
        go_simp
        exact hK.out _ _ (Alters.refl _) rfl
      · intro u W K hS hF hK
        have f18 : u 18 = .bool true := hF 18 (by kernel_rfl)
        generalize hA : F u = Ac at hK ⊢
        have a159 : Ac.tmps.getD 159 undef = u 18 := by rw [← hA, hF0]; kernel_rfl
        clear hA hF0
        simp only [f18] at a159
        clear hF
        go_simp
        exact hK.out _ _ (Alters.refl _) rfl
      · intro u W K hS hF hK
        have f19 : u 19 = .bool true := hF 19 (by kernel_rfl)
        generalize hA : F u = Ac at hK ⊢
        have a17 : Ac.tmps.getD 17 undef = (.slice aX X.length cX) := (show Ac.tmps.getD 17 undef = a0.tmps.getD 17 undef by rw [← hA, hF0]; kernel_rfl).trans h17
        have a160 : Ac.tmps.getD 160 undef = u 19 := by rw [← hA, hF0]; kernel_rfl
        have g160 : Ac.tmps[160]? = some (u 19) := by rw [← hA, hF0]; kernel_rfl
        clear hA hF0
        simp only [f19] at a17 g160
        clear hF
        go_simp
        exact hK.out _ _ (Alters.refl _) rfl
      · intro u W K hS hF hK
        have f19 : u 19 = .bool true := hF 19 (by kernel_rfl)
        have f20 : u 20 = .slice aX X.length cX := hF 20 (by kernel_rfl)
        generalize hA : F u = Ac at hK ⊢
        have a160 : Ac.tmps.getD 160 undef = u 19 := by rw [← hA, hF0]; kernel_rfl
        have a161 : Ac.tmps.getD 161 undef = u 20 := by rw [← hA, hF0]; kernel_rfl
        have g160 : Ac.tmps[160]? = some (u 19) := by rw [← hA, hF0]; kernel_rfl
        clear hA hF0
        simp only [f19, f20] at a161 g160
        clear hF
        go_simp
        exact hK.out _ _ (Alters.refl _) rfl
      · intro u W K hS hF hK
        have f19 : u 19 = .bool true := hF 19 (by kernel_rfl)
        generalize hA : F u = Ac at hK ⊢
        have a18 : Ac.tmps.getD 18 undef = (.slice aA A.length cA) := (show Ac.tmps.getD 18 undef = a0.tmps.getD 18 undef by rw [← hA, hF0]; kernel_rfl).trans h18
        have a160 : Ac.tmps.getD 160 undef = u 19 := by rw [← hA, hF0]; kernel_rfl
        have g160 : Ac.tmps[160]? = some (u 19) := by rw [← hA, hF0]; kernel_rfl
        clear hA hF0
        simp only [f19] at a18 g160
        clear hF
        go_simp
        exact hK.out _ _ (Alters.refl _) rfl
      · intro u W K hS hF hK
        have f19 : u 19 = .bool true := hF 19 (by kernel_rfl)
        have f22 : u 22 = .slice aA A.length cA := hF 22 (by kernel_rfl)
        generalize hA : F u = Ac at hK ⊢
        have a160 : Ac.tmps.getD 160 undef = u 19 := by rw [← hA, hF0]; kernel_rfl
        have a163 : Ac.tmps.getD 163 undef = u 22 := by rw [← hA, hF0]; kernel_rfl
        have g160 : Ac.tmps[160]? = some (u 19) := by rw [← hA, hF0]; kernel_rfl
        clear hA hF0
        simp only [f19, f22] at a163 g160
        clear hF
        go_simp
        exact hK.out _ _ (Alters.refl _) rfl
      · intro u W K hS hF hK
        have f19 : u 19 = .bool true := hF 19 (by kernel_rfl)
        generalize hA : F u = Ac at hK ⊢
        have a19 : Ac.tmps.getD 19 undef = (.slice aB B.length cB) := (show Ac.tmps.getD 19 undef = a0.tmps.getD 19 undef by rw [← hA, hF0]; kernel_rfl).trans h19
        have a160 : Ac.tmps.getD 160 undef = u 19 := by rw [← hA, hF0]; kernel_rfl
        have g160 : Ac.tmps[160]? = some (u 19) := by rw [← hA, hF0]; kernel_rfl
        clear hA hF0
        simp only [f19] at a19 g160
        clear hF
        go_simp
        exact hK.out _ _ (Alters.refl _) rfl
      · intro u W K hS hF hK
        have f19 : u 19 = .bool true := hF 19 (by kernel_rfl)
        have f24 : u 24 = .slice aB B.length cB := hF 24 (by kernel_rfl)
        generalize hA : F u = Ac at hK ⊢
        have a160 : Ac.tmps.getD 160 undef = u 19 := by rw [← hA, hF0]; kernel_rfl
        have a165 : Ac.tmps.getD 165 undef = u 24 := by rw [← hA, hF0]; kernel_rfl
        have g160 : Ac.tmps[160]? = some (u 19) := by rw [← hA, hF0]; kernel_rfl
        clear hA hF0
        simp only [f19, f24] at a165 g160
        clear hF
        go_simp
        exact hK.out _ _ (Alters.refl _) rfl
      · intro u W K hS hF hK
        have f19 : u 19 = .bool true := hF 19 (by kernel_rfl)
        have f23 : u 23 = .int .i64 (A.length : Int) := hF 23 (by kernel_rfl)
        have f25 : u 25 = .int .i64 (B.length : Int) := hF 25 (by kernel_rfl)
        generalize hA : F u = Ac at hK ⊢
        have a160 : Ac.tmps.getD 160 undef = u 19 := by rw [← hA, hF0]; kernel_rfl
        have a164 : Ac.tmps.getD 164 undef = u 23 := by rw [← hA, hF0]; kernel_rfl
        have a166 : Ac.tmps.getD 166 undef = u 25 := by rw [← hA, hF0]; kernel_rfl
        have g160 : Ac.tmps[160]? = some (u 19) := by rw [← hA, hF0]; kernel_rfl
        clear hA hF0
        simp only [f19, f23, f25] at a164 a166 g160
        clear hF
        go_simp
        exact hK.out _ _ (Alters.refl _) (show Value.int .i64 _ = .int .i64 (M : Int) by rw [HM.out] <;> (congr 1 <;> first | omega | (split <;> omega)))
      · intro u W K hS hF hK
        have f19 : u 19 = .bool true := hF 19 (by kernel_rfl)
        have f21 : u 21 = .int .i64 (X.length : Int) := hF 21 (by kernel_rfl)
        have f26 : u 26 = .int .i64 (M : Int) := hF 26 (by kernel_rfl)
        generalize hA : F u = Ac at hK ⊢
        have a160 : Ac.tmps.getD 160 undef = u 19 := by rw [← hA, hF0]; kernel_rfl
        have a162 : Ac.tmps.getD 162 undef = u 21 := by rw [← hA, hF0]; kernel_rfl
        have a167 : Ac.tmps.getD 167 undef = u 26 := by rw [← hA, hF0]; kernel_rfl
        have g160 : Ac.tmps[160]? = some (u 19) := by rw [← hA, hF0]; kernel_rfl
        clear hA hF0
        simp only [f19, f21, f26] at a162 a167 g160
        clear hF
        go_simp
        exact hK.out _ _ (Alters.refl _) (show Value.bool _ = .bool true by congr 1 <;> (rw [decide_eq_true_eq]; have h1 := HTN.out.2.1; have h2 := HTN.out.2.2.1; have h3 := HTN.out.2.2.2; have h4 := HM.out; omega))
      · intro u W K hS hF hK
        have f19 : u 19 = .bool true := hF 19 (by kernel_rfl)
        have f27 : u 27 = .bool true := hF 27 (by kernel_rfl)
        generalize hA : F u = Ac at hK ⊢
        have a160 : Ac.tmps.getD 160 undef = u 19 := by rw [← hA, hF0]; kernel_rfl
        have a168 : Ac.tmps.getD 168 undef = u 27 := by rw [← hA, hF0]; kernel_rfl
        clear hA hF0
        simp only [f19, f27] at a160 a168
        clear hF
        go_simp
        exact hK.out _ _ (Alters.refl _) rfl
      · intro u W K hS hF hK
        have f28 : u 28 = .bool true := hF 28 (by kernel_rfl)
        generalize hA : F u = Ac at hK ⊢
        have a169 : Ac.tmps.getD 169 undef = u 28 := by rw [← hA, hF0]; kernel_rfl
        clear hA hF0
        simp only [f28] at a169
        clear hF
        go_simp
        exact hK.out _ _ (Alters.refl _) rfl
      · intro u W K hS hF hK
        have f29 : u 29 = .bool true := hF 29 (by kernel_rfl)
        generalize hA : F u = Ac at hK ⊢
        have a10 : Ac.tmps.getD 10 undef = (.pointer (some ⟨bx, 0, none⟩)) := (show Ac.tmps.getD 10 undef = a0.tmps.getD 10 undef by rw [← hA, hF0]; kernel_rfl).trans h10
        have a170 : Ac.tmps.getD 170 undef = u 29 := by rw [← hA, hF0]; kernel_rfl
        have g170 : Ac.tmps[170]? = some (u 29) := by rw [← hA, hF0]; kernel_rfl
        clear hA hF0
        simp only [f29] at a10 g170
        clear hF
        obtain ⟨x0, x1, x2, x3, x4, x5, x6⟩ := hS.seven (bx) 28 tx (by simp)
        go_simp
        exact hK.out _ _ (Alters.refl _) rfl
      · intro u W K hS hF hK
        have f29 : u 29 = .bool true := hF 29 (by kernel_rfl)
        have f30 : u 30 = Ft.val tx := hF 30 (by kernel_rfl)
        generalize hA : F u = Ac at hK ⊢
        have a170 : Ac.tmps.getD 170 undef = u 29 := by rw [← hA, hF0]; kernel_rfl
        have a171 : Ac.tmps.getD 171 undef = u 30 := by rw [← hA, hF0]; kernel_rfl
        have g170 : Ac.tmps[170]? = some (u 29) := by rw [← hA, hF0]; kernel_rfl
        clear hA hF0
        simp only [f29, f30] at a171 g170
        clear hF
        go_simp
        refine (nest_of (f := exTwo (5 + m) 0 0 (Ft.pl t) (Ft.pl r)) HPX.out (hS.inn (bx) 28 tx (by simp)) hS.shapes (by rw [exTwo_size, pl_size, pl_size]; have := HZt.out; have := HZr.out; omega) HNX.out).mono ?_
        rintro e W2 ⟨rfl, hq⟩
        exact hK.out _ _ hq rfl
      · intro u W K hS hF hK
        have f29 : u 29 = .bool true := hF 29 (by kernel_rfl)
        generalize hA : F u = Ac at hK ⊢
        have a3 : Ac.tmps.getD 3 undef = (.pointer (some ⟨w.heap.size, 0, none⟩)) := (show Ac.tmps.getD 3 undef = a0.tmps.getD 3 undef by rw [← hA, hF0]; kernel_rfl).trans h3
        have a170 : Ac.tmps.getD 170 undef = u 29 := by rw [← hA, hF0]; kernel_rfl
        have g170 : Ac.tmps[170]? = some (u 29) := by rw [← hA, hF0]; kernel_rfl
        clear hA hF0
        simp only [f29] at a3 g170
        clear hF
        obtain ⟨x0, x1, x2, x3, x4, x5, x6⟩ := hS.seven (w.heap.size) 28 t (by simp)
        go_simp
        exact hK.out _ _ (Alters.refl _) rfl
      · intro u W K hS hF hK
        have f29 : u 29 = .bool true := hF 29 (by kernel_rfl)
        have f32 : u 32 = Ft.val t := hF 32 (by kernel_rfl)
        generalize hA : F u = Ac at hK ⊢
        have a170 : Ac.tmps.getD 170 undef = u 29 := by rw [← hA, hF0]; kernel_rfl
        have a173 : Ac.tmps.getD 173 undef = u 32 := by rw [← hA, hF0]; kernel_rfl
        have g170 : Ac.tmps[170]? = some (u 29) := by rw [← hA, hF0]; kernel_rfl
        clear hA hF0
        simp only [f29, f32] at a173 g170
        clear hF
        go_simp
        refine (nest_of (f := Ft.pl t) rfl (hS.inn (w.heap.size) 28 t (by simp)) hS.shapes (by rw [pl_size]; have := HZt.out; omega) HNT.out).mono ?_
        rintro e W2 ⟨rfl, hq⟩
        exact hK.out _ _ hq rfl
      · intro u W K hS hF hK
        have f29 : u 29 = .bool true := hF 29 (by kernel_rfl)
        generalize hA : F u = Ac at hK ⊢
        have a4 : Ac.tmps.getD 4 undef = (.pointer (some ⟨w.heap.size + 1, 0, none⟩)) := (show Ac.tmps.getD 4 undef = a0.tmps.getD 4 undef by rw [← hA, hF0]; kernel_rfl).trans h4
        have a170 : Ac.tmps.getD 170 undef = u 29 := by rw [← hA, hF0]; kernel_rfl
        have g170 : Ac.tmps[170]? = some (u 29) := by rw [← hA, hF0]; kernel_rfl
        clear hA hF0
        simp only [f29] at a4 g170
        clear hF
        obtain ⟨x0, x1, x2, x3, x4, x5, x6⟩ := hS.seven (w.heap.size + 1) 28 r (by simp)
        go_simp
        exact hK.out _ _ (Alters.refl _) rfl
      · intro u W K hS hF hK
        have f29 : u 29 = .bool true := hF 29 (by kernel_rfl)
        have f34 : u 34 = Ft.val r := hF 34 (by kernel_rfl)
        generalize hA : F u = Ac at hK ⊢
        have a170 : Ac.tmps.getD 170 undef = u 29 := by rw [← hA, hF0]; kernel_rfl
        have a175 : Ac.tmps.getD 175 undef = u 34 := by rw [← hA, hF0]; kernel_rfl
        have g170 : Ac.tmps[170]? = some (u 29) := by rw [← hA, hF0]; kernel_rfl
        clear hA hF0
        simp only [f29, f34] at a175 g170
        clear hF
        go_simp
        refine (nest_of (f := Ft.pl r) rfl (hS.inn (w.heap.size + 1) 28 r (by simp)) hS.shapes (by rw [pl_size]; have := HZr.out; omega) HNU.out).mono ?_
        rintro e W2 ⟨rfl, hq⟩
        exact hK.out _ _ hq rfl
      · intro u W K hS hF hK
        have f29 : u 29 = .bool true := hF 29 (by kernel_rfl)
        have f33 : u 33 = .int .i64 nt := hF 33 (by kernel_rfl)
        have f35 : u 35 = .int .i64 nu := hF 35 (by kernel_rfl)
        generalize hA : F u = Ac at hK ⊢
        have a170 : Ac.tmps.getD 170 undef = u 29 := by rw [← hA, hF0]; kernel_rfl
        have a174 : Ac.tmps.getD 174 undef = u 33 := by rw [← hA, hF0]; kernel_rfl
        have a176 : Ac.tmps.getD 176 undef = u 35 := by rw [← hA, hF0]; kernel_rfl
        have g170 : Ac.tmps[170]? = some (u 29) := by rw [← hA, hF0]; kernel_rfl
        clear hA hF0
        simp only [f29, f33, f35] at a174 a176 g170
        clear hF
        go_simp
        exact hK.out _ _ (Alters.refl _) (show Value.int .i64 _ = .int .i64 nx by rw [HNE2.out] <;> (congr 1 <;> first | omega | (split <;> omega)))
      · intro u W K hS hF hK
        have f29 : u 29 = .bool true := hF 29 (by kernel_rfl)
        have f31 : u 31 = .int .i64 nx := hF 31 (by kernel_rfl)
        have f36 : u 36 = .int .i64 nx := hF 36 (by kernel_rfl)
        generalize hA : F u = Ac at hK ⊢
        have a170 : Ac.tmps.getD 170 undef = u 29 := by rw [← hA, hF0]; kernel_rfl
        have a172 : Ac.tmps.getD 172 undef = u 31 := by rw [← hA, hF0]; kernel_rfl
        have a177 : Ac.tmps.getD 177 undef = u 36 := by rw [← hA, hF0]; kernel_rfl
        have g170 : Ac.tmps[170]? = some (u 29) := by rw [← hA, hF0]; kernel_rfl
        clear hA hF0
        simp only [f29, f31, f36] at a172 a177 g170
        clear hF
        go_simp
        exact hK.out _ _ (Alters.refl _) rfl
      · intro u W K hS hF hK
        have f29 : u 29 = .bool true := hF 29 (by kernel_rfl)
        have f37 : u 37 = .bool true := hF 37 (by kernel_rfl)
        generalize hA : F u = Ac at hK ⊢
        have a170 : Ac.tmps.getD 170 undef = u 29 := by rw [← hA, hF0]; kernel_rfl
        have a178 : Ac.tmps.getD 178 undef = u 37 := by rw [← hA, hF0]; kernel_rfl
        clear hA hF0
        simp only [f29, f37] at a170 a178
        clear hF
        go_simp
        exact hK.out _ _ (Alters.refl _) rfl
      · intro u W hS hF
        have f38 : u 38 = .bool true := hF 38 (by simp)
        clear hF
        have HS := Go.Lib.hid hS
        clear hS
        simp only [hF0, h3, h4, h10, h11, h13, h15, h16, h17, h18, h19, f38]
        clear hF0 h3 h4 h10 h11 h13 h15 h16 h17 h18 h19 f38
        go_simp
        go_wp2
        go_ret
        exact ⟨rfl, HS.out.quiet⟩
end Go.Proofs.YtnpcakakjhiboaaDoor
