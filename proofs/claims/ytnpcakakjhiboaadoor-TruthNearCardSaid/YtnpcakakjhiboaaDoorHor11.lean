/- Horizons as they are reckoned node by node; the model's Check and Of. No condition. -/
import Derived.Test.YtnpcakakjhiboaaDoorSum2
import Derived.Test.YtnpcakakjhiboaaDoorWfP
import Derived.Test.YtnpcakakjhiboaaDoorNodes8
namespace Go.Proofs.YtnpcakakjhiboaaDoor
open Go Go.RowKit Go.Lo Go.WideShapes

theorem far_range {f : Fm} (h : sound f) : 0 ≤ (far f).1 ∧ (far f).1 ≤ 9223372036854775807 := by
  have := hz_nonneg f h
  rw [far_eq f h]
  have e : top63 = 9223372036854775807 := rfl
  simp only
  omega

theorem addCut_range {a b : Int} (h : 0 ≤ a) (h' : 0 ≤ b) : 0 ≤ (addCut a b).1 ∧ (addCut a b).1 ≤ 9223372036854775807 := by
  have e : top63 = 9223372036854775807 := rfl
  unfold addCut
  split
  · rw [e]; simp
  · simp only; omega

def cutStep (x p : Int × Bool) : Int × Bool := (max x.1 p.1, x.2 || p.2)

set_option maxHeartbeats 1000000 in
theorem spans83_walk (t : Ft) (w : World) (r : Bool) (h12 : t.top.n.op ≤ 12) (hr : r = true ↔ 9 ≤ t.top.n.op) : Calls Tryd.prog 83 #[t.val] w (Said (.bool r) w) := by
  obtain ⟨⟨⟨op, nm, cmp, val, lo, hi⟩, a, cap⟩, ks⟩ := t
  unfold Ft.val
  simp only [Tr.top, Tr.kids] at h12 hr ⊢
  have hq : Quiet w (w.alloc (.cells #[.int .i64 op, .string nm, .int .i64 cmp, .int .i64 val, .int .i64 lo, .int .i64 hi, .slice a ks.length cap] 28)) := (Alters.refl _).alloc _
  cases b9 : (op == 9)
  rotate_left
  · obtain rfl : r = true := by
      have : op = 9 := by simpa using b9
      exact hr.2 (by omega)
    clear hr h12
    go_enter Tryd.func83, Tryd.ntmps83
    go_wp2_with fail
    go_ret
    exact ⟨rfl, hq⟩
  cases b10 : (op == 10)
  rotate_left
  · obtain rfl : r = true := by
      have : op = 10 := by simpa using b10
      exact hr.2 (by omega)
    clear hr h12
    go_enter Tryd.func83, Tryd.ntmps83
    go_wp2_with fail
    go_ret
    exact ⟨rfl, hq⟩
  cases b11 : (op == 11)
  rotate_left
  · obtain rfl : r = true := by
      have : op = 11 := by simpa using b11
      exact hr.2 (by omega)
    clear hr h12
    go_enter Tryd.func83, Tryd.ntmps83
    go_wp2_with fail
    go_ret
    exact ⟨rfl, hq⟩
  cases b12 : (op == 12)
  rotate_left
  · obtain rfl : r = true := by
      have : op = 12 := by simpa using b12
      exact hr.2 (by omega)
    clear hr h12
    go_enter Tryd.func83, Tryd.ntmps83
    go_wp2_with fail
    go_ret
    exact ⟨rfl, hq⟩
  obtain rfl : r = false := by
    have n9 : op ≠ 9 := by simpa using b9
    have n10 : op ≠ 10 := by simpa using b10
    have n11 : op ≠ 11 := by simpa using b11
    have n12 : op ≠ 12 := by simpa using b12
    rw [Bool.eq_false_iff]
    intro h
    have := hr.1 h
    omega
  clear hr h12
  go_enter Tryd.func83, Tryd.ntmps83
  go_wp2_with fail
  go_ret
  exact ⟨rfl, hq⟩

set_option maxRecDepth 100000 in
set_option maxHeartbeats 4000000 in
theorem far95_any (D : Nat → Prop) (t : Ft) : sound t.pl → allNum t.pl → ∀ (w : World), In D w t → Calls Tryd.prog 95 #[t.val] w (Said (.tuple #[.int .i64 (far t.pl).1, .bool (far t.pl).2]) w) := by
  induction t using Tr.ind with
  | h x ks ih =>
    intro hs hnum w hin
    obtain ⟨⟨op, nm, cmp, val, lo, hi⟩, a, cap⟩ := x
    have hl := hin.len
    have HI := Go.Lib.hid hin
    rw [pl_nd] at hs hnum
    have HIH : Hid (∀ k, k ∈ ks → sound (Ft.pl k) ∧ ∀ (w : World), In D w k → Calls Tryd.prog 95 #[Ft.val k] w (Said (.tuple #[.int .i64 (far (Ft.pl k)).1, .bool (far (Ft.pl k)).2]) w)) := Go.Lib.hid (fun k hk => ⟨sound_kid hs (List.mem_map_of_mem hk), ih k hk (sound_kid hs (List.mem_map_of_mem hk)) ((allNum_nd.1 hnum).2 _ (List.mem_map_of_mem hk))⟩)
    have hh0 : 0 ≤ hi := sound_hi (sound_top hs)
    have hh1 : hi ≤ 9223372036854775807 := by obtain ⟨-, -, h⟩ := (allNum_nd.1 hnum).1; unfold I64 at h; simp only at h; omega
    have h12 : op ≤ 12 := by obtain ⟨-, h, -⟩ := wrong_zero (sound_top hs); exact h
    unfold maxLen at hl
    clear hin ih
    simp only [Tr.kids] at hl
    obtain ⟨V, hV⟩ : ∃ V : Int × Bool, V = far (Ft.pl (.nd ⟨⟨op, nm, cmp, val, lo, hi⟩, a, cap⟩ ks)) := ⟨_, rfl⟩
    rw [← hV]
    rw [pl_nd, far_nd] at hV
    have HV : Hid (V = farN ⟨op, nm, cmp, val, lo, hi⟩ ((ks.map Ft.pl).map far)) := hV
    clear hV hs hnum
    unfold Ft.val
    simp only [Tr.top, Tr.kids]
    go_enter Tryd.func95, Tryd.ntmps95
    have hB := Blk.new w #[.int .i64 op, .string nm, .int .i64 cmp, .int .i64 val, .int .i64 lo, .int .i64 hi, .slice a ks.length cap] 33
    have hq : Quiet w (w.alloc (.cells #[.int .i64 op, .string nm, .int .i64 cmp, .int .i64 val, .int .i64 lo, .int .i64 hi, .slice a ks.length cap] 33)) := (Alters.refl _).alloc _
    have cc6 : (w.alloc (.cells #[.int .i64 op, .string nm, .int .i64 cmp, .int .i64 val, .int .i64 lo, .int .i64 hi, .slice a ks.length cap] 33)).cell? ⟨w.heap.size, 6, none⟩ = some (.slice a ks.length cap) := hB.cell 6 rfl
    go_wp2_with fail
    clear cc6
    generalize w.alloc _ = w1 at *
    go_loopw [4, 5, 6] (fun m c i wr => ∃ (k : Nat) (h : Int) (p : Bool), k ≤ ks.length ∧ i = .int .i64 k ∧ m = .int .i64 h ∧ c = .bool p ∧ 0 ≤ h ∧ h ≤ 9223372036854775807 ∧ (((ks.map Ft.pl).map far).drop k).foldl cutStep (h, p) = maxCut ((ks.map Ft.pl).map far) ∧ Quiet w1 wr) (fun _ _ i _ => ks.length - (intOf i).toNat)
    case atStart => exact ⟨0, 0, false, Nat.zero_le _, rfl, rfl, rfl, Int.le_refl _, by decide, rfl, Alters.refl _⟩
    case round =>
      obtain ⟨k, h, p, hk, rfl, rfl, rfl, hm0, hm1, hL, hQ⟩ := hrel
      have HL := Go.Lib.hid hL
      have HQ := Go.Lib.hid hQ
      have c0 : wr.cell? ⟨w.heap.size, 0, none⟩ = some (.int .i64 op) := hQ.cell (hB.cell 0 rfl) (by simp)
      have c1 : wr.cell? ⟨w.heap.size, 1, none⟩ = some (.string nm) := hQ.cell (hB.cell 1 rfl) (by simp)
      have c2 : wr.cell? ⟨w.heap.size, 2, none⟩ = some (.int .i64 cmp) := hQ.cell (hB.cell 2 rfl) (by simp)
      have c3 : wr.cell? ⟨w.heap.size, 3, none⟩ = some (.int .i64 val) := hQ.cell (hB.cell 3 rfl) (by simp)
      have c4 : wr.cell? ⟨w.heap.size, 4, none⟩ = some (.int .i64 lo) := hQ.cell (hB.cell 4 rfl) (by simp)
      have c5 : wr.cell? ⟨w.heap.size, 5, none⟩ = some (.int .i64 hi) := hQ.cell (hB.cell 5 rfl) (by simp)
      have c6 : wr.cell? ⟨w.heap.size, 6, none⟩ = some (.slice a ks.length cap) := hQ.cell (hB.cell 6 rfl) (by simp)
      clear hL hQ
      by_cases hlt : k < ks.length
      · have hne : ks ≠ [] := fun h => by subst h; simp at hlt
        obtain ⟨b, o, rfl, hD, hc⟩ := HI.out.fs hne
        obtain ⟨d0, d1, d2, d3, d4, d5, d6⟩ := (((hc k ks[k] (by simp [Tr.kids, hlt])).keep hq (by simp)).keep HQ.out (by simp)).seven
        have hks := HIH.out ks[k] (by simp)
        have hr := far_range hks.1
        have hin2 := ((HI.out.kid (k := ks[k]) (by simp [Tr.kids])).quiet hq).quiet HQ.out
        have HK : Hid (∀ w2, Quiet wr w2 → Calls Tryd.prog 95 #[Ft.val ks[k]] w2 (Said (.tuple #[.int .i64 (far (Ft.pl ks[k])).1, .bool (far (Ft.pl ks[k])).2]) w2)) := Go.Lib.hid (fun w2 hq2 => hks.2 w2 (hin2.quiet hq2))
        have hdr : ((ks.map Ft.pl).map far).drop k = far (Ft.pl ks[k]) :: ((ks.map Ft.pl).map far).drop (k + 1) := by
          rw [List.drop_eq_getElem_cons (by simpa using hlt)]; simp
        rw [hdr, List.foldl_cons] at HL
        clear hc hD hks hin2 hdr
        unfold Ft.val at HK
        generalize ks[k] = kk at *
        generalize far (Ft.pl kk) = fk at *
        obtain ⟨kh, kp⟩ := fk
        simp only [cutStep] at hr HL HK
        obtain ⟨hr0, hr1⟩ := hr
        go_wp2_with fail
        refine (HK.out _ (Alters.refl _)).mono ?_
        rintro e w3 ⟨rfl, hq3⟩
        have HQ3 := Go.Lib.hid (HQ.out.trans (hq3))
        clear d0 d1 d2 d3 d4 d5 d6 hq3
        clear c0 c1 c2 c3 c4 c5
        by_cases hd : h < kh
        · have hd2 : decide (h < kh) = true := by simpa using hd
          have hmx : max h kh = kh := by omega
          rw [hmx] at HL
          clear hmx
          cases p
          · go_wp2_with fail
            go_roundw
            case rel => exact ⟨k + 1, kh, kp, by omega, by go_num, rfl, rfl, by omega, by omega, HL.out, HQ3.out⟩
            case measure => simp [intOf]; omega
          · go_wp2_with fail
            go_roundw
            case rel => exact ⟨k + 1, kh, true, by omega, by go_num, rfl, rfl, by omega, by omega, HL.out, HQ3.out⟩
            case measure => simp [intOf]; omega
        · have hd2 : decide (h < kh) = false := by simpa using hd
          have hmx : max h kh = h := by omega
          rw [hmx] at HL
          clear hmx
          cases p
          · go_wp2_with fail
            go_roundw
            case rel => exact ⟨k + 1, h, kp, by omega, by go_num, rfl, rfl, by omega, by omega, HL.out, HQ3.out⟩
            case measure => simp [intOf]; omega
          · go_wp2_with fail
            go_roundw
            case rel => exact ⟨k + 1, h, true, by omega, by go_num, rfl, rfl, by omega, by omega, HL.out, HQ3.out⟩
            case measure => simp [intOf]; omega
      · obtain rfl : k = ks.length := by omega
        have hL := HL.out
        have hdl : ((ks.map Ft.pl).map far).drop ks.length = [] := List.drop_eq_nil_of_le (by simp)
        rw [hdl, List.foldl_nil] at hL
        clear HL hdl
        have HA := fun w => Go.Lib.hid (add71_walk h hi w hm0 hm1 hh0 hh1)
        by_cases h9 : 9 ≤ op
        · have hv := HV.out
          simp only [farN] at hv
          rw [← hL, if_pos h9] at hv
          obtain ⟨A, hA⟩ : ∃ A, A = addCut h hi := ⟨_, rfl⟩
          rw [← hA] at hv
          simp only [← hA] at HA
          obtain ⟨A1, A2⟩ := A
          simp only at hv HA
          have d9 : decide (9 ≤ op) = true := by simpa using h9
          clear HV hA hL
          clear h9
          cases p
          · simp only [Bool.false_or] at hv
            subst hv
            go_wp2_with fail
            refine (HA _).out.mono ?_
            rintro e w3 ⟨rfl, hq3⟩
            go_wp2_with fail
            exact bodyPost_ret (v := .tuple #[.int .i64 A1, .bool A2]) (by simp [results, Tryd.results95, go_sem]) rfl ⟨rfl, (hq.trans HQ.out).trans hq3⟩
          · simp only [Bool.true_or] at hv
            subst hv
            go_wp2_with fail
            refine (HA _).out.mono ?_
            rintro e w3 ⟨rfl, hq3⟩
            go_wp2_with fail
            exact bodyPost_ret (v := .tuple #[.int .i64 A1, .bool true]) (by simp [results, Tryd.results95, go_sem]) rfl ⟨rfl, (hq.trans HQ.out).trans hq3⟩
        · have hv := HV.out
          simp only [farN] at hv
          rw [← hL, if_neg h9] at hv
          have d9 : decide (9 ≤ op) = false := by simpa using h9
          clear HV HA hL
          subst hv
          clear h9
          go_wp2_with fail
          exact bodyPost_ret (v := .tuple #[.int .i64 h, .bool p]) (by simp [results, Tryd.results95, go_sem]) rfl ⟨rfl, hq.trans HQ.out⟩

set_option maxRecDepth 100000 in
set_option maxHeartbeats 4000000 in
theorem far86_any (D : Nat → Prop) (t : Ft) : sound t.pl → allNum t.pl → ∀ (w : World), In D w t → Calls Tryd.prog 86 #[t.val] w (Said (.tuple #[.int .i64 (far t.pl).1, .bool (far t.pl).2]) w) := by
  induction t using Tr.ind with
  | h x ks ih =>
    intro hs hnum w hin
    obtain ⟨⟨op, nm, cmp, val, lo, hi⟩, a, cap⟩ := x
    have hl := hin.len
    have HI := Go.Lib.hid hin
    rw [pl_nd] at hs hnum
    have HIH : Hid (∀ k, k ∈ ks → sound (Ft.pl k) ∧ ∀ (w : World), In D w k → Calls Tryd.prog 86 #[Ft.val k] w (Said (.tuple #[.int .i64 (far (Ft.pl k)).1, .bool (far (Ft.pl k)).2]) w)) := Go.Lib.hid (fun k hk => ⟨sound_kid hs (List.mem_map_of_mem hk), ih k hk (sound_kid hs (List.mem_map_of_mem hk)) ((allNum_nd.1 hnum).2 _ (List.mem_map_of_mem hk))⟩)
    have hh0 : 0 ≤ hi := sound_hi (sound_top hs)
    have hh1 : hi ≤ 9223372036854775807 := by obtain ⟨-, -, h⟩ := (allNum_nd.1 hnum).1; unfold I64 at h; simp only at h; omega
    have h12 : op ≤ 12 := by obtain ⟨-, h, -⟩ := wrong_zero (sound_top hs); exact h
    unfold maxLen at hl
    clear hin ih
    simp only [Tr.kids] at hl
    obtain ⟨V, hV⟩ : ∃ V : Int × Bool, V = far (Ft.pl (.nd ⟨⟨op, nm, cmp, val, lo, hi⟩, a, cap⟩ ks)) := ⟨_, rfl⟩
    rw [← hV]
    rw [pl_nd, far_nd] at hV
    have HV : Hid (V = farN ⟨op, nm, cmp, val, lo, hi⟩ ((ks.map Ft.pl).map far)) := hV
    clear hV hs hnum
    unfold Ft.val
    simp only [Tr.top, Tr.kids]
    go_enter Tryd.func86, Tryd.ntmps86
    have hB := Blk.new w #[.int .i64 op, .string nm, .int .i64 cmp, .int .i64 val, .int .i64 lo, .int .i64 hi, .slice a ks.length cap] 28
    have hq : Quiet w (w.alloc (.cells #[.int .i64 op, .string nm, .int .i64 cmp, .int .i64 val, .int .i64 lo, .int .i64 hi, .slice a ks.length cap] 28)) := (Alters.refl _).alloc _
    have cc6 : (w.alloc (.cells #[.int .i64 op, .string nm, .int .i64 cmp, .int .i64 val, .int .i64 lo, .int .i64 hi, .slice a ks.length cap] 28)).cell? ⟨w.heap.size, 6, none⟩ = some (.slice a ks.length cap) := hB.cell 6 rfl
    go_wp2_with fail
    clear cc6
    generalize w.alloc _ = w1 at *
    go_loopw [4, 5, 15] (fun m c i wr => ∃ (k : Nat) (h : Int) (p : Bool), k ≤ ks.length ∧ i = .int .i64 k ∧ m = .int .i64 h ∧ c = .bool p ∧ 0 ≤ h ∧ h ≤ 9223372036854775807 ∧ (((ks.map Ft.pl).map far).drop k).foldl cutStep (h, p) = maxCut ((ks.map Ft.pl).map far) ∧ Quiet w1 wr) (fun _ _ i _ => ks.length - (intOf i).toNat)
    case atStart => exact ⟨0, 0, false, Nat.zero_le _, rfl, rfl, rfl, Int.le_refl _, by decide, rfl, Alters.refl _⟩
    case round =>
      obtain ⟨k, h, p, hk, rfl, rfl, rfl, hm0, hm1, hL, hQ⟩ := hrel
      have HL := Go.Lib.hid hL
      have HQ := Go.Lib.hid hQ
      have c0 : wr.cell? ⟨w.heap.size, 0, none⟩ = some (.int .i64 op) := hQ.cell (hB.cell 0 rfl) (by simp)
      have c1 : wr.cell? ⟨w.heap.size, 1, none⟩ = some (.string nm) := hQ.cell (hB.cell 1 rfl) (by simp)
      have c2 : wr.cell? ⟨w.heap.size, 2, none⟩ = some (.int .i64 cmp) := hQ.cell (hB.cell 2 rfl) (by simp)
      have c3 : wr.cell? ⟨w.heap.size, 3, none⟩ = some (.int .i64 val) := hQ.cell (hB.cell 3 rfl) (by simp)
      have c4 : wr.cell? ⟨w.heap.size, 4, none⟩ = some (.int .i64 lo) := hQ.cell (hB.cell 4 rfl) (by simp)
      have c5 : wr.cell? ⟨w.heap.size, 5, none⟩ = some (.int .i64 hi) := hQ.cell (hB.cell 5 rfl) (by simp)
      have c6 : wr.cell? ⟨w.heap.size, 6, none⟩ = some (.slice a ks.length cap) := hQ.cell (hB.cell 6 rfl) (by simp)
      clear hL hQ
      by_cases hlt : k < ks.length
      · have hne : ks ≠ [] := fun h => by subst h; simp at hlt
        obtain ⟨b, o, rfl, hD, hc⟩ := HI.out.fs hne
        obtain ⟨d0, d1, d2, d3, d4, d5, d6⟩ := (((hc k ks[k] (by simp [Tr.kids, hlt])).keep hq (by simp)).keep HQ.out (by simp)).seven
        have hks := HIH.out ks[k] (by simp)
        have hr := far_range hks.1
        have hin2 := ((HI.out.kid (k := ks[k]) (by simp [Tr.kids])).quiet hq).quiet HQ.out
        have HK : Hid (∀ w2, Quiet wr w2 → Calls Tryd.prog 86 #[Ft.val ks[k]] w2 (Said (.tuple #[.int .i64 (far (Ft.pl ks[k])).1, .bool (far (Ft.pl ks[k])).2]) w2)) := Go.Lib.hid (fun w2 hq2 => hks.2 w2 (hin2.quiet hq2))
        have hdr : ((ks.map Ft.pl).map far).drop k = far (Ft.pl ks[k]) :: ((ks.map Ft.pl).map far).drop (k + 1) := by
          rw [List.drop_eq_getElem_cons (by simpa using hlt)]; simp
        rw [hdr, List.foldl_cons] at HL
        clear hc hD hks hin2 hdr
        unfold Ft.val at HK
        generalize ks[k] = kk at *
        generalize far (Ft.pl kk) = fk at *
        obtain ⟨kh, kp⟩ := fk
        simp only [cutStep] at hr HL HK
        obtain ⟨hr0, hr1⟩ := hr
        go_wp2_with fail
        refine (HK.out _ ((Alters.refl _).alloc _)).mono ?_
        rintro e w3 ⟨rfl, hq3⟩
        have HQ3 := Go.Lib.hid (HQ.out.trans (((Alters.refl _).alloc _).trans hq3))
        clear d0 d1 d2 d3 d4 d5 d6 hq3
        clear c0 c1 c2 c3 c4 c5
        cases p
        · go_wp2_with fail
          go_roundw
          case rel => exact ⟨k + 1, max h kh, kp, by omega, by go_num, (by congr 1; split <;> omega), rfl, by omega, by omega, HL.out, HQ3.out⟩
          case measure => simp [intOf]; omega
        · go_wp2_with fail
          go_roundw
          case rel => exact ⟨k + 1, max h kh, true, by omega, by go_num, (by congr 1; split <;> omega), rfl, by omega, by omega, HL.out, HQ3.out⟩
          case measure => simp [intOf]; omega
      · obtain rfl : k = ks.length := by omega
        have hL := HL.out
        have hdl : ((ks.map Ft.pl).map far).drop ks.length = [] := List.drop_eq_nil_of_le (by simp)
        rw [hdl, List.foldl_nil] at hL
        clear HL hdl
        have HA := fun w => Go.Lib.hid (add132_walk h hi w hm0 hm1 hh0 hh1)
        by_cases h9 : 9 ≤ op
        · have hv := HV.out
          simp only [farN] at hv
          rw [← hL, if_pos h9] at hv
          obtain ⟨A, hA⟩ : ∃ A, A = addCut h hi := ⟨_, rfl⟩
          rw [← hA] at hv
          simp only [← hA] at HA
          obtain ⟨A1, A2⟩ := A
          simp only at hv HA
          have d9 : decide (9 ≤ op) = true := by simpa using h9
          clear HV hA hL
          have HS := Go.Lib.hid (spans83_walk (.nd ⟨⟨op, nm, cmp, val, lo, hi⟩, a, cap⟩ ks) wr true h12 ⟨fun _ => h9, fun _ => rfl⟩)
          unfold Ft.val at HS
          simp only [Tr.top, Tr.kids] at HS
          clear h9
          go_wp2_with fail
          refine HS.out.mono ?_
          rintro e w5 ⟨rfl, hq5⟩
          replace c5 := hq5.cell c5 (by simp)
          clear c0 c1 c2 c3 c4 c6 HS
          cases p
          · simp only [Bool.false_or] at hv
            subst hv
            go_wp2_with fail
            refine (HA _).out.mono ?_
            rintro e w3 ⟨rfl, hq3⟩
            go_wp2_with fail
            exact bodyPost_ret (v := .tuple #[.int .i64 A1, .bool A2]) (by simp [results, Tryd.results86, go_sem]) rfl ⟨rfl, ((hq.trans HQ.out).trans hq5).trans hq3⟩
          · simp only [Bool.true_or] at hv
            subst hv
            go_wp2_with fail
            refine (HA _).out.mono ?_
            rintro e w3 ⟨rfl, hq3⟩
            go_wp2_with fail
            exact bodyPost_ret (v := .tuple #[.int .i64 A1, .bool true]) (by simp [results, Tryd.results86, go_sem]) rfl ⟨rfl, ((hq.trans HQ.out).trans hq5).trans hq3⟩
        · have hv := HV.out
          simp only [farN] at hv
          rw [← hL, if_neg h9] at hv
          have d9 : decide (9 ≤ op) = false := by simpa using h9
          clear HV HA hL
          subst hv
          have HS := Go.Lib.hid (spans83_walk (.nd ⟨⟨op, nm, cmp, val, lo, hi⟩, a, cap⟩ ks) wr false h12 ⟨fun h => Bool.noConfusion h, fun h => absurd h h9⟩)
          unfold Ft.val at HS
          simp only [Tr.top, Tr.kids] at HS
          clear h9
          go_wp2_with fail
          refine HS.out.mono ?_
          rintro e w5 ⟨rfl, hq5⟩
          replace c5 := hq5.cell c5 (by simp)
          clear c0 c1 c2 c3 c4 c6 HS
          go_wp2_with fail
          exact bodyPost_ret (v := .tuple #[.int .i64 h, .bool p]) (by simp [results, Tryd.results86, go_sem]) rfl ⟨rfl, (hq.trans HQ.out).trans hq5⟩

set_option maxHeartbeats 2000000 in
theorem check94_walk (D : Nat → Prop) (t : Ft) (w : World) (hin : In D w t) (hsz : t.size ≤ 1000) : Calls Tryd.prog 94 #[t.val] w (Said (.int .i64 (checkF t.pl)) w) := by
  have HA := fun (w2 : World) (hq : Quiet w w2) => Go.Lib.hid (size135_any D t (by omega) w2 (hin.quiet hq))
  have HB := fun (w2 : World) (hq : Quiet w w2) => Go.Lib.hid (deep136_any D t (by omega) w2 (hin.quiet hq))
  have HC := fun (w2 : World) (hq : Quiet w w2) => Go.Lib.hid (first8_walk D t (by omega) w2 (hin.quiet hq))
  obtain ⟨V, hV⟩ : ∃ V, V = checkF t.pl := ⟨_, rfl⟩
  rw [← hV]
  unfold checkF at hV
  rw [show (Ft.pl t).size = t.size from Tr.map_size _ _, show (Ft.pl t).deep = t.deep from Tr.map_deep _ _] at hV
  clear hin
  have hdz := deep_le_size t
  obtain ⟨⟨⟨op, nm, cmp, val, lo, hi⟩, a, cap⟩, ks⟩ := t
  unfold Ft.val at HA HB HC ⊢
  simp only [Tr.top, Tr.kids] at HA HB HC ⊢
  generalize Tr.size _ = sz at *
  generalize Tr.deep _ = dp at *
  generalize first _ = fs at *
  have hB := Blk.new w #[.int .i64 op, .string nm, .int .i64 cmp, .int .i64 val, .int .i64 lo, .int .i64 hi, .slice a ks.length cap] 33
  have hq : Quiet w (w.alloc (.cells #[.int .i64 op, .string nm, .int .i64 cmp, .int .i64 val, .int .i64 lo, .int .i64 hi, .slice a ks.length cap] 33)) := (Alters.refl _).alloc _
  have HBK := Go.Lib.hid hB
  have HQ := Go.Lib.hid hq
  clear hB hq
  have HV := Go.Lib.hid hV
  clear hV
  go_enter Tryd.func94, Tryd.ntmps94
  go_wp2_with fail
  refine (HA _ HQ.out).out.mono ?_
  rintro e w2 ⟨rfl, q2⟩
  replace HQ := Go.Lib.hid (HQ.out.trans q2)
  obtain ⟨c0, c1, c2, c3, c4, c5, c6⟩ := seven_cells (q2.blk HBK.out (by simp))
  replace HBK := Go.Lib.hid (q2.blk HBK.out (by simp))
  clear HA q2
  by_cases h48 : 48 < sz
  · have d48 : decide ((48 : Int) < (sz : Int)) = true := decide_eq_true (by omega)
    have hV := HV.out
    rw [if_pos h48] at hV
    clear HV
    subst hV
    go_wp2_with fail
    go_ret
    exact ⟨rfl, HQ.out⟩
  have d48 : decide ((48 : Int) < (sz : Int)) = false := decide_eq_false (by omega)
  rw [if_neg h48] at HV
  go_wp2_with fail
  refine (HB _ HQ.out).out.mono ?_
  rintro e w3 ⟨rfl, q3⟩
  replace HQ := Go.Lib.hid (HQ.out.trans q3)
  clear c0 c1 c2 c3 c4 c5 c6
  obtain ⟨c0, c1, c2, c3, c4, c5, c6⟩ := seven_cells (q3.blk HBK.out (by simp))
  clear HB q3
  by_cases h12 : 12 < dp
  · have d12 : decide ((12 : Int) < (dp : Int)) = true := decide_eq_true (by omega)
    have hV := HV.out
    rw [if_pos h12] at hV
    clear HV
    subst hV
    go_wp2_with fail
    go_ret
    exact ⟨rfl, HQ.out⟩
  have d12 : decide ((12 : Int) < (dp : Int)) = false := decide_eq_false (by omega)
  have hV := HV.out
  rw [if_neg h12] at hV
  clear HV
  subst hV
  go_wp2_with fail
  refine (HC _ HQ.out).out.mono ?_
  rintro e w4 ⟨rfl, q4⟩
  go_wp2_with fail
  go_ret
  exact ⟨rfl, HQ.out.trans q4⟩


set_option maxHeartbeats 2000000 in
theorem of65_walk (D : Nat → Prop) (t : Ft) (w : World) (hin : In D w t) (hsz : t.size ≤ 1000) (hnum : allNum t.pl) : Calls Tryd.prog 65 #[t.val] w (Said (.tuple #[.int .i64 (horOf t.pl).1, .int .i64 (horOf t.pl).2]) w) := by
  have HA := fun (w2 : World) (hq : Quiet w w2) => Go.Lib.hid (check94_walk D t w2 (hin.quiet hq) (by omega))
  have HB := fun (hs : sound t.pl) (w2 : World) (hq : Quiet w w2) => Go.Lib.hid (far95_any D t hs hnum w2 (hin.quiet hq))
  obtain ⟨V, hV⟩ : ∃ V, V = horOf t.pl := ⟨_, rfl⟩
  rw [← hV]
  unfold horOf at hV
  have HSO : Hid (checkF t.pl = 0 → sound t.pl) := Go.Lib.hid (fun h => (checkF_sound h).1)
  clear hin hnum
  obtain ⟨⟨⟨op, nm, cmp, val, lo, hi⟩, a, cap⟩, ks⟩ := t
  unfold Ft.val at HA HB ⊢
  simp only [Tr.top, Tr.kids] at HA HB ⊢
  generalize Ft.pl _ = f at *
  generalize checkF f = ck at *
  have HBK := Go.Lib.hid (Blk.new w #[.int .i64 op, .string nm, .int .i64 cmp, .int .i64 val, .int .i64 lo, .int .i64 hi, .slice a ks.length cap] 33)
  have HQ : Hid (Quiet w (w.alloc (.cells #[.int .i64 op, .string nm, .int .i64 cmp, .int .i64 val, .int .i64 lo, .int .i64 hi, .slice a ks.length cap] 33))) := (Alters.refl _).alloc _
  have HV := Go.Lib.hid hV
  clear hV
  go_enter Tryd.func65, Tryd.ntmps65
  go_wp2_with fail
  refine (HA _ HQ.out).out.mono ?_
  rintro e w2 ⟨rfl, q2⟩
  replace HQ := Go.Lib.hid (HQ.out.trans q2)
  obtain ⟨c0, c1, c2, c3, c4, c5, c6⟩ := seven_cells (q2.blk HBK.out (by simp))
  clear HA q2
  by_cases h0 : ck = 0
  rotate_left
  · have b0 : (ck == 0) = false := by simpa using h0
    have hV := HV.out
    rw [if_pos h0] at hV
    clear HV
    subst hV
    clear h0
    go_wp2_with fail
    exact bodyPost_ret (v := .tuple #[.int .i64 0, .int .i64 ck]) (by simp [results, Tryd.results65, go_sem]) rfl ⟨rfl, HQ.out⟩
  have b0 : (ck == 0) = true := by simpa using h0
  have HB2 := HB (HSO.out h0)
  rw [if_neg (by omega)] at HV
  clear HB HSO h0
  generalize far f = ff at *
  obtain ⟨h, p⟩ := ff
  simp only at HV HB2
  go_wp2_with fail
  refine (HB2 _ HQ.out).out.mono ?_
  rintro e w3 ⟨rfl, q3⟩
  replace HQ := Go.Lib.hid (HQ.out.trans q3)
  clear c0 c1 c2 c3 c4 c5 c6 HB2 q3
  cases p
  · have hV := HV.out
    simp only [Bool.false_eq_true, if_false] at hV
    clear HV
    subst hV
    go_wp2_with fail
    exact bodyPost_ret (v := .tuple #[.int .i64 h, .int .i64 0]) (by simp [results, Tryd.results65, go_sem]) rfl ⟨rfl, HQ.out⟩
  · have hV := HV.out
    simp only [if_true] at hV
    clear HV
    subst hV
    go_wp2_with fail
    exact bodyPost_ret (v := .tuple #[.int .i64 0, .int .i64 25]) (by simp [results, Tryd.results65, go_sem]) rfl ⟨rfl, HQ.out⟩

end Go.Proofs.YtnpcakakjhiboaaDoor
