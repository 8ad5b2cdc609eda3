/- Sizes, depths and sums as the model reckons them. No condition. -/
import Derived.Test.YtnpcakakjhiboaaDoorMem
import Derived.Test.YtnpcakakjhiboaaDoorHorQ
namespace Go.Proofs.YtnpcakakjhiboaaDoor
open Go Go.RowKit Go.Lo Go.WideShapes

theorem deep_le_size {α : Type} (t : Tr α) : t.deep ≤ t.size := by
  induction t using Tr.ind with
  | h x ks ih =>
    simp only [Tr.deep, Tr.size]
    have : Tr.deepL ks ≤ Tr.sizeL ks := by
      clear x
      induction ks with
      | nil => simp [Tr.deepL, Tr.sizeL]
      | cons k ks ih2 => simp only [Tr.deepL, Tr.sizeL]; have := ih k (by simp); have := ih2 (fun k hk => ih k (by simp [hk])); omega
    omega

mutual
/-- How deep spans are nested, as a number. -/
def nestN : Ft → Nat | .nd x ks => if 9 ≤ x.n.op then nestL ks + 1 else nestL ks
def nestL : List Ft → Nat | [] => 0 | k :: ks => max (nestN k) (nestL ks)
end

theorem nestN_le (t : Ft) : nestN t ≤ t.size := by
  induction t using Tr.ind with
  | h x ks ih =>
    have : nestL ks ≤ Tr.sizeL ks := by
      clear x
      induction ks with
      | nil => simp [nestL, Tr.sizeL]
      | cons k ks ih2 => simp only [nestL, Tr.sizeL]; have := ih k (by simp); have := ih2 (fun k hk => ih k (by simp [hk])); omega
    simp only [nestN, Tr.size]
    split <;> omega

theorem nestN_eq (t : Ft) : ((nestN t : Nat) : Int) = nested t.pl := by
  induction t using Tr.ind with
  | h x ks ih =>
    have hl : ((nestL ks : Nat) : Int) = maxI ((ks.map Ft.pl).map nested) := by
      clear x
      suffices ∀ m : Nat, ((max m (nestL ks) : Nat) : Int) = ((ks.map Ft.pl).map nested).foldl max (m : Int) from by
        have := this 0
        simpa [maxI] using this
      induction ks with
      | nil => intro m; simp [nestL]
      | cons k ks ih2 =>
        intro m
        have h1 := ih k (by simp)
        have h2 := ih2 (fun k hk => ih k (by simp [hk])) (max m (nestN k))
        simp only [nestL, List.map_cons, List.foldl_cons]
        rw [← h1]
        have e : (max (m : Int) (nestN k : Int)) = ((max m (nestN k) : Nat) : Int) := by omega
        rw [e, ← h2]
        omega
    obtain ⟨n, a, cap⟩ := x
    rw [pl_nd, nested_nd, ← hl]
    simp only [nestN]
    split <;> simp

set_option maxRecDepth 100000 in
set_option maxHeartbeats 4000000 in
theorem size135_any (D : Nat → Prop) (t : Ft) : t.size ≤ 1000000 → ∀ (w : World), In D w t → Calls Tryd.prog 135 #[t.val] w (Said (.int .i64 ((t.size : Nat) : Int)) w) := by
  induction t using Tr.ind with
  | h x ks ih =>
    intro hsz w hin
    obtain ⟨⟨op, nm, cmp, val, lo, hi⟩, a, cap⟩ := x
    have hl := hin.len
    have HI := Go.Lib.hid hin
    have HIH := Go.Lib.hid ih
    unfold maxLen at hl
    clear hin ih
    simp only [Tr.kids] at hl
    have hsz2 : 1 + Tr.sizeL ks ≤ 1000000 := by simpa [Tr.size] using hsz
    have HVAL : Hid ((Tr.nd (⟨⟨op, nm, cmp, val, lo, hi⟩, a, cap⟩ : Hd) ks).size = 1 + Tr.sizeL ks) := rfl
    rw [HVAL.out]
    clear HVAL hsz
    unfold Ft.val
    simp only [Tr.top, Tr.kids]
    go_enter Tryd.func135, Tryd.ntmps135
    have hB := Blk.new w #[.int .i64 op, .string nm, .int .i64 cmp, .int .i64 val, .int .i64 lo, .int .i64 hi, .slice a ks.length cap] 33
    have hq : Quiet w (w.alloc (.cells #[.int .i64 op, .string nm, .int .i64 cmp, .int .i64 val, .int .i64 lo, .int .i64 hi, .slice a ks.length cap] 33)) := (Alters.refl _).alloc _
    go_wp2_with fail
    generalize w.alloc _ = w1 at *
    go_loopw [3, 4] (fun m i wr => ∃ (k mm : Nat), k ≤ ks.length ∧ i = .int .i64 k ∧ m = .int .i64 (mm : Int) ∧ mm + Tr.sizeL (ks.drop k) = 1 + Tr.sizeL ks ∧ Quiet w1 wr) (fun _ i _ => ks.length - (intOf i).toNat)
    case atStart => exact ⟨0, 1, Nat.zero_le _, rfl, rfl, by simp, Alters.refl _⟩
    case round =>
      obtain ⟨k, mm, hk, rfl, rfl, hL, hQ⟩ := hrel
      have HL := Go.Lib.hid hL
      have HQ := Go.Lib.hid hQ
      have c0 : wr.cell? ⟨w.heap.size, 0, none⟩ = some (.int .i64 op) := hQ.cell (hB.cell 0 rfl) (by simp)
      have c6 : wr.cell? ⟨w.heap.size, 6, none⟩ = some (.slice a ks.length cap) := hQ.cell (hB.cell 6 rfl) (by simp)
      clear hL hQ
      by_cases hlt : k < ks.length
      · have hne : ks ≠ [] := fun h => by subst h; simp at hlt
        obtain ⟨b, o, rfl, hD, hc⟩ := HI.out.fs hne
        obtain ⟨d0, d1, d2, d3, d4, d5, d6⟩ := (((hc k ks[k] (by simp [Tr.kids, hlt])).keep hq (by simp)).keep HQ.out (by simp)).seven
        have HK := Go.Lib.hid (HIH.out ks[k] (by simp) (by have := Tr.size_kid (k := ks[k]) (ks := ks) (by simp); omega) wr (((HI.out.kid (k := ks[k]) (by simp [Tr.kids])).quiet hq).quiet HQ.out))
        have hdr := leftL_drop ks k hlt
        rw [hdr] at HL
        clear hdr
        simp only [Tr.sizeL] at HL
        have hmm : mm + ks[k].size ≤ 1000000 := by have := HL.out; omega
        clear hc hD
        unfold Ft.val at HK
        generalize ks[k] = kk at *
        go_wp2_with fail
        refine HK.out.mono ?_
        rintro e w3 ⟨rfl, hq3⟩
        have HQ3 := Go.Lib.hid (HQ.out.trans hq3)
        clear d0 d1 d2 d3 d4 d5 d6 hq3
        go_wp2
        go_roundw
        case rel => exact ⟨k + 1, mm + kk.size, by omega, by go_num, by go_num, by have := HL.out; omega, HQ3.out⟩
        case measure => simp [intOf]; omega
      · obtain rfl : k = ks.length := by omega
        have hL := HL.out
        simp only [List.drop_length, Tr.sizeL, Nat.add_zero] at hL
        subst hL
        clear HL
        go_wp2
        go_ret
        exact ⟨rfl, hq.trans HQ.out⟩

set_option maxRecDepth 100000 in
set_option maxHeartbeats 4000000 in
theorem deep136_any (D : Nat → Prop) (t : Ft) : t.size ≤ 1000000 → ∀ (w : World), In D w t → Calls Tryd.prog 136 #[t.val] w (Said (.int .i64 ((t.deep : Nat) : Int)) w) := by
  induction t using Tr.ind with
  | h x ks ih =>
    intro hsz w hin
    obtain ⟨⟨op, nm, cmp, val, lo, hi⟩, a, cap⟩ := x
    have hl := hin.len
    have HI := Go.Lib.hid hin
    have HIH := Go.Lib.hid ih
    unfold maxLen at hl
    clear hin ih
    simp only [Tr.kids] at hl
    have hsz2 : Tr.deepL ks ≤ 1000000 := by have := deep_le_size (Tr.nd (⟨⟨op, nm, cmp, val, lo, hi⟩, a, cap⟩ : Hd) ks); simp only [Tr.deep] at this; omega
    have hsz3 : Tr.sizeL ks ≤ 1000000 := by simp only [Tr.size] at hsz; omega
    have HVAL : Hid ((Tr.nd (⟨⟨op, nm, cmp, val, lo, hi⟩, a, cap⟩ : Hd) ks).deep = Tr.deepL ks + 1) := rfl
    rw [HVAL.out]
    clear HVAL hsz
    unfold Ft.val
    simp only [Tr.top, Tr.kids]
    go_enter Tryd.func136, Tryd.ntmps136
    have hB := Blk.new w #[.int .i64 op, .string nm, .int .i64 cmp, .int .i64 val, .int .i64 lo, .int .i64 hi, .slice a ks.length cap] 33
    have hq : Quiet w (w.alloc (.cells #[.int .i64 op, .string nm, .int .i64 cmp, .int .i64 val, .int .i64 lo, .int .i64 hi, .slice a ks.length cap] 33)) := (Alters.refl _).alloc _
    go_wp2_with fail
    generalize w.alloc _ = w1 at *
    go_loopw [3, 4] (fun m i wr => ∃ (k mm : Nat), k ≤ ks.length ∧ i = .int .i64 k ∧ m = .int .i64 (mm : Int) ∧ max mm (Tr.deepL (ks.drop k)) = Tr.deepL ks ∧ Quiet w1 wr) (fun _ i _ => ks.length - (intOf i).toNat)
    case atStart => exact ⟨0, 0, Nat.zero_le _, rfl, rfl, by simp, Alters.refl _⟩
    case round =>
      obtain ⟨k, mm, hk, rfl, rfl, hL, hQ⟩ := hrel
      have HL := Go.Lib.hid hL
      have HQ := Go.Lib.hid hQ
      have c0 : wr.cell? ⟨w.heap.size, 0, none⟩ = some (.int .i64 op) := hQ.cell (hB.cell 0 rfl) (by simp)
      have c6 : wr.cell? ⟨w.heap.size, 6, none⟩ = some (.slice a ks.length cap) := hQ.cell (hB.cell 6 rfl) (by simp)
      clear hL hQ
      by_cases hlt : k < ks.length
      · have hne : ks ≠ [] := fun h => by subst h; simp at hlt
        obtain ⟨b, o, rfl, hD, hc⟩ := HI.out.fs hne
        obtain ⟨d0, d1, d2, d3, d4, d5, d6⟩ := (((hc k ks[k] (by simp [Tr.kids, hlt])).keep hq (by simp)).keep HQ.out (by simp)).seven
        have HK := Go.Lib.hid (HIH.out ks[k] (by simp) (by have := Tr.size_kid (k := ks[k]) (ks := ks) (by simp); omega) wr (((HI.out.kid (k := ks[k]) (by simp [Tr.kids])).quiet hq).quiet HQ.out))
        have hdr := leftL_drop ks k hlt
        rw [hdr] at HL
        clear hdr
        simp only [Tr.deepL] at HL
        have hmm : mm ≤ 1000000 ∧ ks[k].deep ≤ 1000000 := by have := HL.out; omega
        obtain ⟨hm1, hm2⟩ := hmm
        clear hc hD
        unfold Ft.val at HK
        generalize ks[k] = kk at *
        go_wp2_with fail
        refine HK.out.mono ?_
        rintro e w3 ⟨rfl, hq3⟩
        have HQ3 := Go.Lib.hid (HQ.out.trans hq3)
        clear d0 d1 d2 d3 d4 d5 d6 hq3
        by_cases hd : mm < kk.deep
        · have hd2 : decide ((mm : Int) < (kk.deep : Int)) = true := by simpa using hd
          go_wp2
          go_roundw
          case rel => exact ⟨k + 1, kk.deep, by omega, by go_num, rfl, by have := HL.out; omega, HQ3.out⟩
          case measure => simp [intOf]; omega
        · have hd2 : decide ((mm : Int) < (kk.deep : Int)) = false := by simpa using hd
          go_wp2
          go_roundw
          case rel => exact ⟨k + 1, mm, by omega, by go_num, rfl, by have := HL.out; omega, HQ3.out⟩
          case measure => simp [intOf]; omega
      · obtain rfl : k = ks.length := by omega
        have hL := HL.out
        simp only [List.drop_length, Tr.deepL, Nat.max_zero] at hL
        subst hL
        clear HL
        go_wp2
        go_ret
        exact ⟨by simp, hq.trans HQ.out⟩

set_option maxRecDepth 100000 in
set_option maxHeartbeats 4000000 in
theorem nested68_any (D : Nat → Prop) (t : Ft) : t.size ≤ 1000000 → ∀ (w : World), In D w t → Calls Tryd.prog 68 #[t.val] w (Said (.int .i64 ((nestN t : Nat) : Int)) w) := by
  induction t using Tr.ind with
  | h x ks ih =>
    intro hsz w hin
    obtain ⟨⟨op, nm, cmp, val, lo, hi⟩, a, cap⟩ := x
    have hl := hin.len
    have HI := Go.Lib.hid hin
    have HIH := Go.Lib.hid ih
    unfold maxLen at hl
    clear hin ih
    simp only [Tr.kids] at hl
    have hsz2 : nestL ks ≤ 1000000 := by have := nestN_le (Tr.nd (⟨⟨op, nm, cmp, val, lo, hi⟩, a, cap⟩ : Hd) ks); simp only [nestN] at this; split at this <;> omega
    have hsz3 : Tr.sizeL ks ≤ 1000000 := by simp only [Tr.size] at hsz; omega
    obtain ⟨V, hV⟩ : ∃ V : Nat, V = nestN (Tr.nd (⟨⟨op, nm, cmp, val, lo, hi⟩, a, cap⟩ : Hd) ks) := ⟨_, rfl⟩
    rw [← hV]
    have HV : Hid (V = if 9 ≤ op then nestL ks + 1 else nestL ks) := hV
    clear hV hsz
    unfold Ft.val
    simp only [Tr.top, Tr.kids]
    go_enter Tryd.func68, Tryd.ntmps68
    have hB := Blk.new w #[.int .i64 op, .string nm, .int .i64 cmp, .int .i64 val, .int .i64 lo, .int .i64 hi, .slice a ks.length cap] 33
    have hq : Quiet w (w.alloc (.cells #[.int .i64 op, .string nm, .int .i64 cmp, .int .i64 val, .int .i64 lo, .int .i64 hi, .slice a ks.length cap] 33)) := (Alters.refl _).alloc _
    go_wp2_with fail
    generalize w.alloc _ = w1 at *
    go_loopw [3, 4] (fun m i wr => ∃ (k mm : Nat), k ≤ ks.length ∧ i = .int .i64 k ∧ m = .int .i64 (mm : Int) ∧ max mm (nestL (ks.drop k)) = nestL ks ∧ Quiet w1 wr) (fun _ i _ => ks.length - (intOf i).toNat)
    case atStart => exact ⟨0, 0, Nat.zero_le _, rfl, rfl, by simp, Alters.refl _⟩
    case round =>
      obtain ⟨k, mm, hk, rfl, rfl, hL, hQ⟩ := hrel
      have HL := Go.Lib.hid hL
      have HQ := Go.Lib.hid hQ
      have c0 : wr.cell? ⟨w.heap.size, 0, none⟩ = some (.int .i64 op) := hQ.cell (hB.cell 0 rfl) (by simp)
      have c6 : wr.cell? ⟨w.heap.size, 6, none⟩ = some (.slice a ks.length cap) := hQ.cell (hB.cell 6 rfl) (by simp)
      clear hL hQ
      by_cases hlt : k < ks.length
      · have hne : ks ≠ [] := fun h => by subst h; simp at hlt
        obtain ⟨b, o, rfl, hD, hc⟩ := HI.out.fs hne
        obtain ⟨d0, d1, d2, d3, d4, d5, d6⟩ := (((hc k ks[k] (by simp [Tr.kids, hlt])).keep hq (by simp)).keep HQ.out (by simp)).seven
        have HK := Go.Lib.hid (HIH.out ks[k] (by simp) (by have := Tr.size_kid (k := ks[k]) (ks := ks) (by simp); omega) wr (((HI.out.kid (k := ks[k]) (by simp [Tr.kids])).quiet hq).quiet HQ.out))
        have hdr := leftL_drop ks k hlt
        rw [hdr] at HL
        clear hdr
        simp only [nestL] at HL
        have hmm : mm ≤ 1000000 ∧ nestN ks[k] ≤ 1000000 := by have := HL.out; omega
        obtain ⟨hm1, hm2⟩ := hmm
        clear hc hD
        unfold Ft.val at HK
        generalize ks[k] = kk at *
        generalize nestN kk = kd at *
        go_wp2_with fail
        refine HK.out.mono ?_
        rintro e w3 ⟨rfl, hq3⟩
        have HQ3 := Go.Lib.hid (HQ.out.trans hq3)
        clear d0 d1 d2 d3 d4 d5 d6 hq3 c0
        by_cases hd : mm < kd
        · have hd2 : decide ((mm : Int) < (kd : Int)) = true := by simpa using hd
          go_wp2
          go_roundw
          case rel => exact ⟨k + 1, kd, by omega, by go_num, rfl, by have := HL.out; omega, HQ3.out⟩
          case measure => simp [intOf]; omega
        · have hd2 : decide ((mm : Int) < (kd : Int)) = false := by simpa using hd
          go_wp2
          go_roundw
          case rel => exact ⟨k + 1, mm, by omega, by go_num, rfl, by have := HL.out; omega, HQ3.out⟩
          case measure => simp [intOf]; omega
      · obtain rfl : k = ks.length := by omega
        have hL := HL.out
        simp only [List.drop_length, nestL, Nat.max_zero] at hL
        subst hL
        clear HL
        generalize hnl : nestL ks = nl at *
        by_cases h9 : 9 ≤ op
        · have h92 : decide (9 ≤ op) = true := by simpa using h9
          rw [if_pos h9] at HV
          obtain rfl := HV.out
          go_wp2
          go_ret
          exact ⟨by simp, hq.trans HQ.out⟩
        · have h92 : decide (9 ≤ op) = false := by simpa using h9
          rw [if_neg h9] at HV
          obtain rfl := HV.out
          go_wp2
          go_ret
          exact ⟨rfl, hq.trans HQ.out⟩

end Go.Proofs.YtnpcakakjhiboaaDoor
