/- Are two formulas the same, as the model tells it. No condition. -/
import Derived.Test.YtnpcakakjhiboaaDoorNodes8
import Derived.StillTailTactics
namespace Go.Proofs.YtnpcakakjhiboaaDoor
open Go.RowKit Go.Lo Go.WideShapes

theorem bytes_eq (s t : ByteArray) : (s.toList = t.toList) ↔ s = t := by
  constructor
  · intro h; rw [ByteArray.toList_eq, ByteArray.toList_eq] at h; exact bytes_inj h
  · rintro rfl; rfl

theorem sameL_len : ∀ l m : List Fm, sameL l m = true → l.length = m.length
  | [], [], _ => rfl
  | [], _ :: _, h => by simp [sameL] at h
  | _ :: _, [], h => by simp [sameL] at h
  | a :: l, b :: m, h => by
    simp only [sameL, Bool.and_eq_true] at h
    simp [sameL_len l m h.2]

theorem sameL_drop (l m : List Fm) (k : Nat) (h : k < l.length) (h2 : k < m.length) : sameL (l.drop k) (m.drop k) = (same l[k] m[k] && sameL (l.drop (k + 1)) (m.drop (k + 1))) := by
  rw [List.drop_eq_getElem_cons h, List.drop_eq_getElem_cons h2, sameL]

theorem same_nd (n m : Nd) (a a2 : Option Addr) (c c2 : Nat) (ks ls : List Ft) : same (Ft.pl (.nd ⟨n, a, c⟩ ks)) (Ft.pl (.nd ⟨m, a2, c2⟩ ls)) = (decide (n = m) && sameL (ks.map Ft.pl) (ls.map Ft.pl)) := by
  simp only [Ft.pl, Tr.map, Tr.mapL_eq, same]
  rfl

set_option maxRecDepth 100000 in
set_option maxHeartbeats 4000000 in
theorem same8_any (D : Nat → Prop) (t : Ft) : ∀ (u : Ft) (w : World), In D w t → In D w u → Calls Tryd.prog 28 #[t.val, u.val] w (Said (.bool (same t.pl u.pl)) w) := by
  induction t using Tr.ind with
  | h x ks ih =>
    rintro ⟨⟨⟨op2, nm2, cmp2, val2, lo2, hi2⟩, a2, cap2⟩, ls⟩ w hin hin2
    obtain ⟨⟨op, nm, cmp, val, lo, hi⟩, a, cap⟩ := x
    have hs := same_nd ⟨op, nm, cmp, val, lo, hi⟩ ⟨op2, nm2, cmp2, val2, lo2, hi2⟩ a a2 cap cap2 ks ls
    have hl := hin.len
    have hl2 := hin2.len
    have HI := Go.Lib.hid hin
    have HI2 := Go.Lib.hid hin2
    have HIH := Go.Lib.hid ih
    unfold maxLen at hl hl2
    simp only [Tr.kids] at hl hl2
    clear hin hin2 ih
    unfold Ft.val
    simp only [Tr.top, Tr.kids]
    by_cases hop : op = op2
    rotate_left
    · have hw : same (Ft.pl _) (Ft.pl _) = false := hs.trans (by simp [hop])
      have b1 : (op == op2) = false := by simpa using hop
      have b2 : (op != op2) = true := by simpa using hop
      rw [hw]
      clear hw hs hop
      go_enter Tryd.func28, Tryd.ntmps28
      go_wp2
      go_ret
      exact ⟨rfl, ((Alters.refl _).alloc _).alloc _⟩
    subst hop
    by_cases hnm : nm = nm2
    rotate_left
    · have hw : same (Ft.pl _) (Ft.pl _) = false := hs.trans (by simp [hnm])
      have b1 : (nm.toList == nm2.toList) = false := by simpa [bytes_eq] using hnm
      have b2 : (nm.toList != nm2.toList) = true := by simpa [bytes_eq] using hnm
      rw [hw]
      clear hw hs hnm
      go_enter Tryd.func28, Tryd.ntmps28
      go_wp2
      go_ret
      exact ⟨rfl, ((Alters.refl _).alloc _).alloc _⟩
    subst hnm
    by_cases hcmp : cmp = cmp2
    rotate_left
    · have hw : same (Ft.pl _) (Ft.pl _) = false := hs.trans (by simp [hcmp])
      have b1 : (cmp == cmp2) = false := by simpa using hcmp
      have b2 : (cmp != cmp2) = true := by simpa using hcmp
      rw [hw]
      clear hw hs hcmp
      go_enter Tryd.func28, Tryd.ntmps28
      go_wp2
      go_ret
      exact ⟨rfl, ((Alters.refl _).alloc _).alloc _⟩
    subst hcmp
    by_cases hval : val = val2
    rotate_left
    · have hw : same (Ft.pl _) (Ft.pl _) = false := hs.trans (by simp [hval])
      have b1 : (val == val2) = false := by simpa using hval
      have b2 : (val != val2) = true := by simpa using hval
      rw [hw]
      clear hw hs hval
      go_enter Tryd.func28, Tryd.ntmps28
      go_wp2
      go_ret
      exact ⟨rfl, ((Alters.refl _).alloc _).alloc _⟩
    subst hval
    by_cases hlo : lo = lo2
    rotate_left
    · have hw : same (Ft.pl _) (Ft.pl _) = false := hs.trans (by simp [hlo])
      have b1 : (lo == lo2) = false := by simpa using hlo
      have b2 : (lo != lo2) = true := by simpa using hlo
      rw [hw]
      clear hw hs hlo
      go_enter Tryd.func28, Tryd.ntmps28
      go_wp2
      go_ret
      exact ⟨rfl, ((Alters.refl _).alloc _).alloc _⟩
    subst hlo
    by_cases hhi : hi = hi2
    rotate_left
    · have hw : same (Ft.pl _) (Ft.pl _) = false := hs.trans (by simp [hhi])
      have b1 : (hi == hi2) = false := by simpa using hhi
      have b2 : (hi != hi2) = true := by simpa using hhi
      rw [hw]
      clear hw hs hhi
      go_enter Tryd.func28, Tryd.ntmps28
      go_wp2
      go_ret
      exact ⟨rfl, ((Alters.refl _).alloc _).alloc _⟩
    subst hhi
    by_cases hlen : ks.length = ls.length
    rotate_left
    · have hw : same (Ft.pl _) (Ft.pl _) = false := hs.trans (by
        cases h : sameL (ks.map Ft.pl) (ls.map Ft.pl)
        · simp
        · have := sameL_len _ _ h; simp at this; omega)
      have b1 : ((ks.length : Int) == (ls.length : Int)) = false := by simp; omega
      have b2 : ((ks.length : Int) != (ls.length : Int)) = true := by simp; omega
      rw [hw]
      clear hw hs
      go_enter Tryd.func28, Tryd.ntmps28
      go_wp2
      go_ret
      exact ⟨rfl, ((Alters.refl _).alloc _).alloc _⟩
    have hw : same (Ft.pl _) (Ft.pl _) = sameL (ks.map Ft.pl) (ls.map Ft.pl) := hs.trans (by simp)
    rw [hw]
    clear hw hs
    rw [← hlen] at hl2 ⊢
    have HLEN := Go.Lib.hid hlen
    clear hlen
    have hq : Quiet w ((w.alloc (.cells #[.int .i64 op, .string nm, .int .i64 cmp, .int .i64 val, .int .i64 lo, .int .i64 hi, .slice a ks.length cap] 33)).alloc (.cells #[.int .i64 op, .string nm, .int .i64 cmp, .int .i64 val, .int .i64 lo, .int .i64 hi, .slice a2 ks.length cap2] 33)) := ((Alters.refl _).alloc _).alloc _
    have hB := (Blk.new w #[.int .i64 op, .string nm, .int .i64 cmp, .int .i64 val, .int .i64 lo, .int .i64 hi, .slice a ks.length cap] 33).alloc (.cells #[.int .i64 op, .string nm, .int .i64 cmp, .int .i64 val, .int .i64 lo, .int .i64 hi, .slice a2 ks.length cap2] 33)
    have hB2 := Blk.new (w.alloc (.cells #[.int .i64 op, .string nm, .int .i64 cmp, .int .i64 val, .int .i64 lo, .int .i64 hi, .slice a ks.length cap] 33)) #[.int .i64 op, .string nm, .int .i64 cmp, .int .i64 val, .int .i64 lo, .int .i64 hi, .slice a2 ks.length cap2] 33
    rw [World.size_alloc] at hB2
    go_enter Tryd.func28, Tryd.ntmps28
    go_wp2
    generalize (w.alloc _).alloc _ = w1 at *
    go_loopw [5] (fun i wr => ∃ k : Nat, k ≤ ks.length ∧ i = .int .i64 k ∧ sameL ((ks.map Ft.pl).drop k) ((ls.map Ft.pl).drop k) = sameL (ks.map Ft.pl) (ls.map Ft.pl) ∧ Quiet w1 wr) (fun i _ => ks.length - (intOf i).toNat)
    case atStart => exact ⟨0, Nat.zero_le _, rfl, rfl, Alters.refl _⟩
    case round =>
      obtain ⟨k, hk, rfl, hL, hQ⟩ := hrel
      have HL := Go.Lib.hid hL
      have HQ := Go.Lib.hid hQ
      have c6 : wr.cell? ⟨w.heap.size, 6, none⟩ = some (.slice a ks.length cap) := hQ.cell (hB.cell 6 rfl) (by simp)
      have e6 : wr.cell? ⟨w.heap.size + 1, 6, none⟩ = some (.slice a2 ks.length cap2) := hQ.cell (hB2.cell 6 rfl) (by simp)
      clear hL hQ
      by_cases hlt : k < ks.length
      · have hlt2 : k < ls.length := by have := HLEN.out; omega
        have hne : ks ≠ [] := fun h => by subst h; simp at hlt
        have hne2 : ls ≠ [] := fun h => by subst h; simp at hlt2
        obtain ⟨b, o, rfl, hD, hc⟩ := HI.out.fs hne
        obtain ⟨b2, o2, rfl, hD2, hc2⟩ := HI2.out.fs hne2
        obtain ⟨d0, d1, d2, d3, d4, d5, d6⟩ := (((hc k ks[k] (by simp [Tr.kids, hlt])).keep hq (by simp)).keep HQ.out.drew (by simp)).seven
        obtain ⟨f0, f1, f2, f3, f4, f5, f6⟩ := (((hc2 k ls[k] (by simp [Tr.kids, hlt2])).keep hq (by simp)).keep HQ.out.drew (by simp)).seven
        have HK := Go.Lib.hid (HIH.out ks[k] (by simp) ls[k] wr.drew (((HI.out.kid (k := ks[k]) (by simp [Tr.kids])).quiet hq).quiet HQ.out.drew) (((HI2.out.kid (k := ls[k]) (by simp [Tr.kids])).quiet hq).quiet HQ.out.drew))
        have HS := sameL_drop (ks.map Ft.pl) (ls.map Ft.pl) k (by simpa using hlt) (by simpa using hlt2)
        rw [show (ks.map Ft.pl)[k]'(by simpa using hlt) = Ft.pl ks[k] by simp, show (ls.map Ft.pl)[k]'(by simpa using hlt2) = Ft.pl ls[k] by simp] at HS
        have HS := Go.Lib.hid HS
        have HQ2 : Hid (Quiet w1 wr.drew) := HQ.out.drew
        clear hc hD hc2 hD2
        unfold Ft.val at HK
        generalize ks[k] = kk at *
        generalize ls[k] = ll at *
        go_wp2
        refine wp_region_still_tail 10 (by kernel_rfl) (by kernel_rfl) ?_
        change wpStill _ _ wr.drew (fun a' => wpList _ _ _ _ a' wr.drew) _ _
        have c6' : wr.drew.cell? ⟨w.heap.size, 6, none⟩ = some (.slice (some ⟨b, o, none⟩) ks.length cap) := c6
        have e6' : wr.drew.cell? ⟨w.heap.size + 1, 6, none⟩ = some (.slice (some ⟨b2, o2, none⟩) ks.length cap2) := e6
        generalize wr.drew = w2 at *
        clear c6 e6
        simp only [List.take_succ_cons, List.take_zero, List.drop_succ_cons, List.drop_zero]
        repeat still_step
        refine wpStill_nil ?_
        go_wp2_with fail
        refine HK.out.mono ?_
        rintro e w3 ⟨rfl, hq3⟩
        have HQ3 := Go.Lib.hid (HQ2.out.trans hq3)
        clear d0 d1 d2 d3 d4 d5 d6 f0 f1 f2 f3 f4 f5 f6 c6' e6' hq3
        cases hsame : same (Ft.pl kk) (Ft.pl ll)
        · have hf : sameL (ks.map Ft.pl) (ls.map Ft.pl) = false := by rw [← HL.out, HS.out, hsame]; rfl
          have HF := Go.Lib.hid hf
          clear hf
          go_wp2
          go_ret
          exact ⟨by rw [HF.out]; rfl, hq.trans HQ3.out⟩
        · have hf : sameL ((ks.map Ft.pl).drop (k + 1)) ((ls.map Ft.pl).drop (k + 1)) = sameL (ks.map Ft.pl) (ls.map Ft.pl) := by rw [← HL.out, HS.out, hsame]; rfl
          have HF := Go.Lib.hid hf
          clear hf
          go_wp2
          go_roundw
          case rel => exact ⟨k + 1, by omega, by go_num, HF.out, HQ3.out⟩
          case measure => simp [intOf]; omega
      · obtain rfl : k = ks.length := by omega
        have hf : sameL (ks.map Ft.pl) (ls.map Ft.pl) = true := by rw [← HL.out, List.drop_eq_nil_of_le (by simp), List.drop_eq_nil_of_le (by simp [HLEN.out])]; rfl
        have HF := Go.Lib.hid hf
        clear hf
        go_wp2
        go_ret
        exact ⟨by rw [HF.out]; rfl, hq.trans HQ.out⟩
end Go.Proofs.YtnpcakakjhiboaaDoor
