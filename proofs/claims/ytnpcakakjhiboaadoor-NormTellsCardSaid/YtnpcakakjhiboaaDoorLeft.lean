/- How many nodes a formula has, as the law counts them. No condition. -/
import Derived.Test.YtnpcakakjhiboaaDoorMem
import Derived.Outline
import Derived.Deep.QuietTactic
import Derived.BigQuiet
import Derived.Lib.Hide
import Derived.RegionTactic
import Derived.ChangeAlike
import Derived.Deep.DeepCutAuto
import Derived.Deep.LoopGhost
namespace Go.Proofs.YtnpcakakjhiboaaDoor
open Go.RowKit Go.Lo

theorem leftL_drop (ks : List Ft) (k : Nat) (h : k < ks.length) : ks.drop k = ks[k] :: ks.drop (k + 1) := List.drop_eq_getElem_cons h

set_option maxHeartbeats 1000000 in
theorem left_any (D : Nat → Prop) (t : Ft) : ∀ (n : Int) (w : World), In D w t → n ≤ 1000 → Calls Tryd.prog 24 #[t.val, .int .i64 n] w (Said (.int .i64 (leftF t.pl n)) w) := by
  induction t using Tr.ind with
  | h x ks ih =>
    intro n w hin hn
    obtain ⟨⟨op, nm, cmp, val, lo, hi⟩, a, cap⟩ := x
    have hl := hin.len
    have HI := Go.Lib.hid hin
    have HIH := Go.Lib.hid ih
    unfold maxLen at hl
    clear hin ih
    simp only [Tr.kids] at hl
    have hv : leftF (Ft.pl (.nd ⟨⟨op, nm, cmp, val, lo, hi⟩, a, cap⟩ ks)) n = if n ≤ 0 ∨ 40 < nm.size then 0 else leftL (ks.map Ft.pl) (n - 1) := by
      simp [Ft.pl, Tr.map, Tr.mapL_eq, leftF]; rfl
    have HV := Go.Lib.hid hv
    clear hv
    unfold Ft.val
    simp only [Tr.top, Tr.kids]
    go_enter Tryd.func24, Tryd.ntmps24
    by_cases h0 : n ≤ 0
    · have e : leftF (Ft.pl (.nd ⟨⟨op, nm, cmp, val, lo, hi⟩, a, cap⟩ ks)) n = 0 := by rw [HV.out, if_pos (.inl h0)]
      rw [e]
      clear e
      go_wp2
      go_ret
      exact ⟨rfl, (Alters.refl _).alloc _⟩
    · by_cases h1 : 40 < nm.size
      · have e : leftF (Ft.pl (.nd ⟨⟨op, nm, cmp, val, lo, hi⟩, a, cap⟩ ks)) n = 0 := by rw [HV.out, if_pos (.inr h1)]
        rw [e]
        clear e
        go_wp2
        go_ret
        exact ⟨rfl, (Alters.refl _).alloc _⟩
      · have e : leftF (Ft.pl (.nd ⟨⟨op, nm, cmp, val, lo, hi⟩, a, cap⟩ ks)) n = leftL (ks.map Ft.pl) (n - 1) := by rw [HV.out, if_neg (by omega)]
        rw [e]
        clear e HV
        have hB := Blk.new w #[.int .i64 op, .string nm, .int .i64 cmp, .int .i64 val, .int .i64 lo, .int .i64 hi, .slice a ks.length cap] 28
        have hq : Quiet w (w.alloc (.cells #[.int .i64 op, .string nm, .int .i64 cmp, .int .i64 val, .int .i64 lo, .int .i64 hi, .slice a ks.length cap] 28)) := (Alters.refl _).alloc _
        go_wp2
        generalize w.alloc _ = w1 at *
        go_loopw [5, 6] (fun m i wr => ∃ (k : Nat) (mm : Int), k ≤ ks.length ∧ i = .int .i64 k ∧ m = .int .i64 mm ∧ mm ≤ 1000 ∧ leftL ((ks.drop k).map Ft.pl) mm = leftL (ks.map Ft.pl) (n - 1) ∧ Quiet w1 wr) (fun _ i _ => ks.length - (intOf i).toNat)
        case atStart => exact ⟨0, n - 1, Nat.zero_le _, rfl, rfl, by omega, rfl, Alters.refl _⟩
        case round =>
          obtain ⟨k, mm, hk, rfl, rfl, hmm, hL, hQ⟩ := hrel
          have HL := Go.Lib.hid hL
          have HQ := Go.Lib.hid hQ
          have c6 : wr.cell? ⟨w.heap.size, 6, none⟩ = some (.slice a ks.length cap) := hQ.cell (hB.cell 6 rfl) (by simp)
          clear hL hQ
          by_cases hlt : k < ks.length
          · by_cases hm : 0 < mm
            · have hne : ks ≠ [] := fun h => by subst h; simp at hlt
              obtain ⟨b, o, rfl, hD, hc⟩ := HI.out.fs hne
              obtain ⟨d0, d1, d2, d3, d4, d5, d6⟩ := (((hc k ks[k] (by simp [Tr.kids, hlt])).keep hq (by simp)).keep HQ.out (by simp)).seven
              have HK := Go.Lib.hid (HIH.out ks[k] (by simp) mm wr (((HI.out.kid (k := ks[k]) (by simp [Tr.kids])).quiet hq).quiet HQ.out) (by omega))
              have HS := Go.Lib.hid (leftL_drop ks k hlt)
              have HR := Go.Lib.hid (leftF_range (Ft.pl ks[k]) mm)
              clear hc hD
              unfold Ft.val at HK
              generalize ks[k] = kk at *
              go_wp2_with fail
              refine HK.out.mono ?_
              rintro e w3 ⟨rfl, hq3⟩
              have hQ3 := HQ.out.trans hq3
              have HQ3 := Go.Lib.hid hQ3
              clear d0 d1 d2 d3 d4 d5 d6 hQ3 hq3
              go_wp2
              go_roundw
              case rel =>
                refine ⟨k + 1, leftF (Ft.pl kk) mm, by omega, by go_num, rfl, by have := HR.out.2.1 hm; omega, ?_, HQ3.out⟩
                rw [← HL.out, HS.out, List.map_cons, leftL, if_pos hm]
              case measure => simp [intOf]; omega
            · have e : leftL (ks.map Ft.pl) (n - 1) = mm := by
                rw [← HL.out, leftL_drop ks k hlt, List.map_cons, leftL, if_neg hm]
              have HE := Go.Lib.hid e
              clear e
              go_wp2
              go_ret
              exact ⟨by rw [HE.out]; rfl, hq.trans HQ.out⟩
          · obtain rfl : k = ks.length := by omega
            have e : leftL (ks.map Ft.pl) (n - 1) = mm := by
              rw [← HL.out, List.drop_length]; rfl
            have HE := Go.Lib.hid e
            clear e
            go_wp2
            go_ret
            exact ⟨by rw [HE.out]; rfl, hq.trans HQ.out⟩
end Go.Proofs.YtnpcakakjhiboaaDoor
