/- DrrServes: for every input the law returns true and its arguments read as before. No condition. -/
import Derived.Test.YtoebhifnfomkhaaAwake
namespace Go.Proofs.Ytoebhifnfomkhaa
open Go.RowKit Go.Lo

theorem code_zero {n : Nat} {q : Int} {wt : Nat → Int} (h : codeOf n q wt = 0) : 1 ≤ n ∧ n ≤ 8 ∧ 1 ≤ q ∧ q ≤ 64 ∧ ∀ i, i < n → 1 ≤ wt i ∧ wt i ≤ 16 := by
  unfold codeOf at h
  by_cases h1 : n < 1 ∨ 8 < n
  · rw [if_pos h1] at h; omega
  · rw [if_neg h1] at h
    by_cases h2 : q < 1 ∨ 64 < q
    · rw [if_pos h2] at h; omega
    · rw [if_neg h2] at h
      by_cases h3 : ∃ i, i < n ∧ (wt i < 1 ∨ 16 < wt i)
      · rw [if_pos h3] at h; omega
      · refine ⟨by omega, by omega, by omega, by omega, fun i hi => ?_⟩
        have : ¬ (wt i < 1 ∨ 16 < wt i) := fun h' => h3 ⟨i, hi, h'⟩
        omega

theorem IntsIn.below {w w' : World} {a : Option Addr} {n : Nat} {z : Nat → Int} (h : IntsIn w a n z) (hB : Below w.heap.size w w') : IntsIn w' a n z := fun hn => by
  obtain ⟨b, off, rfl, hb, hz⟩ := h hn
  exact ⟨b, off, rfl, Nat.lt_of_lt_of_le hb hB.size, fun i hi => (hB.cell (p := ⟨b, off + i, none⟩) hb).trans (hz i hi)⟩

/-- How a call of Next ends, whatever the costs. -/
def NextEnds (bd bg bl : Nat) (d : D) (len : Nat) (z : Nat → Int) (w : World) (e : Ending) (w' : World) : Prop :=
  ((len = d.n ∧ ∃ j, j < len ∧ 0 < z j) ∧ ∃ d' k, Runs z d d' k ∧ e = .returned (.int .i64 k) ∧ IsDrr w' bd bg bl d' ∧ d'.Ok ∧ Alters (fun k => k = bd ∨ k = bl) w w') ∨
  (¬ (len = d.n ∧ ∃ j, j < len ∧ 0 < z j) ∧ e = .returned (.int .i64 (-1)) ∧ w = w')

theorem next_any (bd bg bl : Nat) (d : D) (a : Option Addr) (len cap : Nat) (z : Nat → Int) (w0 w : World) (h : IsDrr w bd bg bl d) (ok : d.Ok) (hc : IntsIn w0 a len z) (hB : Below w0.heap.size w0 w) (h1 : w0.heap.size ≤ bd) (h2 : w0.heap.size ≤ bl) :
    Calls Try.prog 11 #[.pointer (some ⟨bd, 0, none⟩), .slice a len cap] w (NextEnds bd bg bl d len z w) := by
  by_cases hl : len = d.n
  · subst hl
    by_cases hj : ∃ j, j < d.n ∧ 0 < z j
    · obtain ⟨j, hj, hz⟩ := hj
      obtain ⟨b, off, rfl, hb, hcz⟩ := hc (by omega)
      refine (next_walk bd bg bl b off cap j z d w h ok hj hz (fun i hi => (hB.cell (p := ⟨b, off + i, none⟩) hb).trans (hcz i hi)) (by omega) (by omega) (Nat.lt_of_lt_of_le hb hB.size)).mono ?_
      rintro e w' ⟨d', k, hr, rfl, hI, hA⟩
      exact .inl ⟨⟨rfl, j, hj, hz⟩, d', k, hr, rfl, hI, (hr.ok ok).1, hA⟩
    · refine (next_none_waits bd bg bl d a cap z w h ok.n8 (fun j hj' => ?_) (hc.below hB)).mono ?_
      · have : ¬ 0 < z j := fun h => hj ⟨j, hj', h⟩
        omega
      · rintro e w' ⟨rfl, rfl⟩
        exact .inr ⟨fun h => hj h.2, rfl, rfl⟩
  · refine (next_none_len bd bg bl d a len cap w h hl).mono ?_
    rintro e w' ⟨rfl, rfl⟩
    exact .inr ⟨fun h => hl h.1, rfl, rfl⟩

/-- Does something wait among the first m? -/
def anyB (z : Nat → Int) : Nat → Bool
  | 0 => false
  | m + 1 => anyB z m || decide (0 < z m)
theorem anyB_iff (z : Nat → Int) (m : Nat) : anyB z m = true ↔ ∃ j, j < m ∧ 0 < z j := by
  induction m with
  | zero => simp [anyB]
  | succ m ih =>
    simp only [anyB, Bool.or_eq_true, ih, decide_eq_true_eq]
    constructor
    · rintro (⟨j, hj, h⟩ | h)
      · exact ⟨j, by omega, h⟩
      · exact ⟨m, by omega, h⟩
    · rintro ⟨j, hj, h⟩
      by_cases e : j = m
      · subst e; exact .inr h
      · exact .inl ⟨j, by omega, h⟩

/-- The law's loop: a Drr of the call's own, sound, at the weights. -/
def ServRel (w0 : World) (bd bg bl n : Nat) (q : Int) (wt : Nat → Int) (w : World) : Prop :=
  ∃ d : D, IsDrr w bd bg bl d ∧ d.Ok ∧ d.n = n ∧ d.g = (fun i => q * wt i) ∧ Quiet w0 w

/-- What a call of Next leaves, told once for both ways. -/
theorem serv_step {w0 w w' : World} {bd bg bl n len : Nat} {q : Int} {wt z : Nat → Int} {d : D} {e : Ending} (hI : IsDrr w bd bg bl d) (ok : d.Ok) (E : d.n = n ∧ d.g = fun i => q * wt i) (hQ : Quiet w0 w)
    (HD : w0.heap.size ≤ bd ∧ w0.heap.size ≤ bl) (h : NextEnds bd bg bl d len z w e w') :
    ∃ (x : Int) (d2 : D), e = .returned (.int .i64 x) ∧ IsDrr w' bd bg bl d2 ∧ d2.Ok ∧ (d2.n = n ∧ d2.g = fun i => q * wt i) ∧ Quiet w0 w' ∧
      ((len = n ∧ anyB z len = true ∧ ∃ xn : Nat, x = xn ∧ xn < len ∧ 0 < z xn) ∨ ((len ≠ n ∨ anyB z len = false) ∧ x = -1)) := by
  obtain ⟨e1, e2⟩ := E
  rcases h with ⟨⟨h1, h2⟩, d', k, hr, rfl, hI', ok', hA⟩ | ⟨h1, rfl, rfl⟩
  · obtain ⟨_, k1, k2, k3, k4, _, _⟩ := hr.ok ok
    exact ⟨k, d', rfl, hI', ok', ⟨k3.trans e1, k4.trans e2⟩, quiet_then hQ hA (fun i hi => by omega), .inl ⟨h1.trans e1, (anyB_iff _ _).2 h2, k, rfl, by omega, k2⟩⟩
  · refine ⟨-1, d, rfl, hI, ok, ⟨e1, e2⟩, hQ, .inr ⟨?_, rfl⟩⟩
    by_cases hl : len = n
    · refine .inr ?_
      have : ¬ anyB z len = true := fun h => h1 ⟨hl.trans e1.symm, (anyB_iff _ _).1 h⟩
      simpa using this
    · exact .inl hl

set_option maxRecDepth 100000 in
set_option maxHeartbeats 4000000 in
theorem serves_walk (a la : Option Addr) (n cap ln lcap : Nat) (q : Int) (wt : Nat → Int) (L : Nat → Nat) (Z : Nat → Nat → Int) (w : World) (hn : n ≤ maxLen) (hln : ln ≤ maxLen) (hw : IntsIn w a n wt) (hl : ListsIn w la ln L Z) :
    Calls Try.prog 3 #[.slice a n cap, .int .i64 q, .slice la ln lcap] w fun e w' => e = .returned (.bool true) ∧ Below w.heap.size w w' := by
  have HW := Go.Lib.hid hw
  have HL := Go.Lib.hid hl
  have HN := Go.Lib.hid hn
  have HM := Go.Lib.hid hln
  have hfew := few_walk la ln lcap L Z
  have HF := Go.Lib.hid hfew
  unfold maxLen at hn hln
  clear hw hl hfew
  go_enter Try.func3, Try.ntmps3
  go_wp2_with (go_at_call 8; refine (awake_any _).mono ?_; rintro e w1 ⟨rfl, hq1⟩)
  have b1 : Below w.heap.size w w1 := hq1.below (Nat.le_refl _) (by simp)
  have hl1 : ListsIn w1 la ln L Z := fun h => by
    obtain ⟨b, off, rfl, hb, hz⟩ := HL.out h
    refine ⟨b, off, rfl, Nat.lt_of_lt_of_le hb b1.size, fun i hi => ?_⟩
    obtain ⟨a', cap', h1, h2, h3⟩ := hz i hi
    exact ⟨a', cap', (b1.cell (p := ⟨b, off + i, none⟩) hb).trans h1, h2, h3.below b1⟩
  refine (HF.out w1 HM.out hl1).mono ?_
  rintro e w2 ⟨⟨B, rfl, hB⟩, rfl⟩
  clear hl1
  cases B
  · clear hB
    go_wp2
    go_ret
    exact ⟨rfl, b1⟩
  · have HB := Go.Lib.hid (hB rfl)
    clear hB
    by_cases hn20 : 20 < n
    · go_wp2
      go_ret
      exact ⟨rfl, b1⟩
    · have l120 := HB.out.1
      have HC := Go.Lib.hid HB.out.2
      clear HB
      go_wp2_with fail
      refine (new_walk a n cap q wt w1 HN.out (HW.out.below b1)).mono ?_
      rintro e w2 ⟨hq2, ⟨hne, rfl⟩ | ⟨he, bd, bg, bl, rfl, hbd, hbg, hbl, hI⟩⟩
      · have hc0 : (codeOf n q wt != 0) = true := by simpa using hne
        go_wp2
        go_ret
        exact ⟨rfl, b1.trans (hq2.below b1.size (by simp))⟩
      · obtain ⟨n1, n8, q1, q64, hwt⟩ := code_zero he
        have R0 : ServRel w bd bg bl n q wt w2 := ⟨_, hI, New_ok n q wt n1 n8 q1 q64 hwt, rfl, rfl, hq1.trans hq2⟩
        have HWT := Go.Lib.hid hwt
        have hz := hq1.size
        have HD := Go.Lib.hid (show w.heap.size ≤ bd ∧ w.heap.size ≤ bl from by omega)
        clear hq2 he hbd hbg hbl hI hwt hq1 b1 hz hn20
        go_wp2
        go_loopw [11] (fun i wr => ∃ k : Nat, k ≤ ln ∧ i = .int .i64 k ∧ ServRel w bd bg bl n q wt wr) (fun i _ => ln - (intOf i).toNat)
        case atStart => exact ⟨0, Nat.zero_le _, rfl, R0⟩
        case round =>
          clear R0
          obtain ⟨k, hk, rfl, d, hI, ok, e1, e2, hQ⟩ := hrel
          by_cases hlt : k < ln
          · obtain ⟨lb, lo, rfl, hlb, hz⟩ := HL.out (by omega)
            obtain ⟨a', cap', h1, h2, h3⟩ := hz k hlt
            have l20 := HC.out k hlt
            clear hz h2
            have bQ : Below w.heap.size w wr := hQ.below (Nat.le_refl _) (by simp)
            have c1 : wr.cell? ⟨lb, lo + k, none⟩ = some (.slice a' (L k) cap') := (bQ.cell (p := ⟨lb, lo + k, none⟩) hlb).trans h1
            have E := Go.Lib.hid (And.intro e1 e2)
            have H1 := Go.Lib.hid h1
            clear e1 e2 h1
            go_wp2_with fail
            refine (next_any bd bg bl d a' (L k) cap' (Z k) w wr hI ok h3 bQ HD.out.1 HD.out.2).mono ?_
            rintro e wx hne
            obtain ⟨x, d2, rfl, hI2, ok2, E2, hQ2, hS⟩ := serv_step hI ok E.out hQ HD.out hne
            clear hne hI ok hQ bQ c1 E
            have bQ : Below w.heap.size w wx := hQ2.below (Nat.le_refl _) (by simp)
            have c1 : wx.cell? ⟨lb, lo + k, none⟩ = some (.slice a' (L k) cap') := (bQ.cell (p := ⟨lb, lo + k, none⟩) hlb).trans H1.out
            have H3 := Go.Lib.hid h3
            have HS := Go.Lib.hid hS
            have EE := Go.Lib.hid E2
            clear h3 hS E2
            go_wp2_with fail
            go_loop [13, 14] (fun an m => ∃ m' : Nat, m' ≤ L k ∧ m = .int .i64 m' ∧ an = .bool (anyB (Z k) m')) (fun _ m => L k - (intOf m).toNat)
            case atStart => exact ⟨0, Nat.zero_le _, rfl, rfl⟩
            case round =>
              obtain ⟨m, hm, rfl, rfl⟩ := hrel
              by_cases hmt : m < L k
              · obtain ⟨rb, ro, rfl, hrb, hzz⟩ := H3.out (by omega)
                have czz := (bQ.cell (p := ⟨rb, ro + m, none⟩) hrb).trans (hzz m hmt)
                clear hzz
                cases hab : anyB (Z k) m
                · by_cases hp : 0 < Z k m
                  · have HE := Go.Lib.hid (show anyB (Z k) (m + 1) = true by simp [anyB, hp])
                    clear hab
                    go_wp2
                    go_round
                    case rel => exact ⟨m + 1, by omega, by go_num, by rw [HE.out]⟩
                    case measure => simp [intOf]; omega
                  · have HE := Go.Lib.hid (show anyB (Z k) (m + 1) = false by simp [anyB, hab, hp])
                    clear hab
                    go_wp2
                    go_round
                    case rel => exact ⟨m + 1, by omega, by go_num, by rw [HE.out]⟩
                    case measure => simp [intOf]; omega
                · have HE := Go.Lib.hid (show anyB (Z k) (m + 1) = true by simp [anyB, hab])
                  clear hab
                  go_wp2
                  go_round
                  case rel => exact ⟨m + 1, by omega, by go_num, by rw [HE.out]⟩
                  case measure => simp [intOf]; omega
              · obtain rfl : m = L k := by omega
                rcases HS.out with ⟨s1, s2, xn, rfl, s3, s4⟩ | ⟨s1, rfl⟩
                · obtain ⟨rb, ro, rfl, hrb, hzz⟩ := H3.out (by omega)
                  have czz := (bQ.cell (p := ⟨rb, ro + xn, none⟩) hrb).trans (hzz xn s3)
                  have b0 : ((L k : Int) == (n : Int)) = true := by simp; omega
                  have S2 := Go.Lib.hid s2
                  clear hzz s1 hm hmt
                  go_wp2_with fail
                  refine (left_walk bd bg bl d2 wx hI2 (by rw [EE.out.1]; exact n1) (by rw [EE.out.1]; exact n8)).mono ?_
                  rintro e w7 ⟨v, rfl, ⟨g, vcap, rfl, hrow⟩, hq7⟩
                  have hI7 := Quiet.drr hq7 hI2
                  have hQ7 := hQ2.trans hq7
                  have HR := Go.Lib.hid hrow
                  rw [EE.out.1]
                  have bW : IntsIn w7 a n wt := HW.out.below (hQ7.below (Nat.le_refl _) (by simp))
                  obtain ⟨wb, wo, hwa, hwb, hwz⟩ := bW (by omega)
                  have HZ := Go.Lib.hid hwz
                  have HA := Go.Lib.hid hwa
                  clear hq7 hrow bW hwz hwa hI2 hQ2 bQ c1
                  go_wp2
                  go_loopw [16] (fun kk wr2 => ∃ m nd : Nat, m ≤ n ∧ kk = .int .i64 m ∧ wr2 = w7.drewN nd) (fun kk _ => n - (intOf kk).toNat)
                  case atStart => exact ⟨0, 0, Nat.zero_le _, rfl, rfl⟩
                  case round =>
                    obtain ⟨m, nd, hm, rfl, rfl⟩ := hrel
                    by_cases hmt : m < n
                    · have z1 : w7.cell? ⟨g, m, none⟩ = some (.int .i64 (d2.f m)) := HR.out m (by rw [EE.out.1]; exact hmt)
                      have z2 := HZ.out m hmt
                      have f0 : 0 ≤ d2.f m := ok2.f0 m (by rw [EE.out.1]; exact hmt)
                      have f1 : d2.f m < q * wt m + 64 := by
                        have h := ok2.f1 m (by rw [EE.out.1]; exact hmt)
                        have hg : d2.g m = q * wt m := by rw [EE.out.2]
                        have hp : 1 ≤ q * wt m := by have := Int.mul_le_mul q1 (HWT.out m hmt).1 (by omega) (by omega); omega
                        rw [hg] at h
                        split at h <;> omega
                      have m2 : q * wt m ≤ 1024 := by have := Int.mul_le_mul q64 (HWT.out m hmt).2 (by have := (HWT.out m hmt).1; omega) (by omega); omega
                      have m1 : 1 ≤ q * wt m := by have := Int.mul_le_mul q1 (HWT.out m hmt).1 (by omega) (by omega); omega
                      generalize d2.f m = fm at z1 f0 f1
                      have b0 : decide (fm < 0) = false := by simp; omega
                      have b1 : decide (q * wt m + 64 ≤ fm) = false := by simp; omega
                      have ha := HA.out
                      subst ha
                      go_wp2
                      go_quiet (fail)
                      go_wp2
                      go_roundw
                      case rel => exact ⟨m + 1, _, by omega, by go_num, rfl⟩
                      case measure => simp [intOf]; omega
                    · clear HA HZ HR
                      go_wp2
                      go_roundw
                      case rel => exact ⟨k + 1, by omega, by go_num, d2, hI7.drewN _, ok2, EE.out.1, EE.out.2, hQ7.drewN _⟩
                      case measure => simp [intOf]; omega
                · by_cases hb : anyB (Z k) (L k) = true
                  · have b0 : ((L k : Int) == (n : Int)) = false := by
                      rcases s1 with h | h
                      · simp; omega
                      · rw [hb] at h; simp at h
                    clear s1 hm hmt
                    go_wp2_with fail
                    refine (left_walk bd bg bl d2 wx hI2 (by rw [EE.out.1]; exact n1) (by rw [EE.out.1]; exact n8)).mono ?_
                    rintro e w7 ⟨v, rfl, ⟨g, vcap, rfl, hrow⟩, hq7⟩
                    have hI7 := Quiet.drr hq7 hI2
                    have hQ7 := hQ2.trans hq7
                    have HR := Go.Lib.hid hrow
                    rw [EE.out.1]
                    have bW : IntsIn w7 a n wt := HW.out.below (hQ7.below (Nat.le_refl _) (by simp))
                    obtain ⟨wb, wo, hwa, hwb, hwz⟩ := bW (by omega)
                    have HZ := Go.Lib.hid hwz
                    have HA := Go.Lib.hid hwa
                    clear hq7 hrow bW hwz hwa hI2 hQ2 bQ c1
                    go_wp2
                    go_loopw [16] (fun kk wr2 => ∃ m nd : Nat, m ≤ n ∧ kk = .int .i64 m ∧ wr2 = w7.drewN nd) (fun kk _ => n - (intOf kk).toNat)
                    case atStart => exact ⟨0, 0, Nat.zero_le _, rfl, rfl⟩
                    case round =>
                      obtain ⟨m, nd, hm, rfl, rfl⟩ := hrel
                      by_cases hmt : m < n
                      · have z1 : w7.cell? ⟨g, m, none⟩ = some (.int .i64 (d2.f m)) := HR.out m (by rw [EE.out.1]; exact hmt)
                        have z2 := HZ.out m hmt
                        have f0 : 0 ≤ d2.f m := ok2.f0 m (by rw [EE.out.1]; exact hmt)
                        have f1 : d2.f m < q * wt m + 64 := by
                          have h := ok2.f1 m (by rw [EE.out.1]; exact hmt)
                          have hg : d2.g m = q * wt m := by rw [EE.out.2]
                          have hp : 1 ≤ q * wt m := by have := Int.mul_le_mul q1 (HWT.out m hmt).1 (by omega) (by omega); omega
                          rw [hg] at h
                          split at h <;> omega
                        have m2 : q * wt m ≤ 1024 := by have := Int.mul_le_mul q64 (HWT.out m hmt).2 (by have := (HWT.out m hmt).1; omega) (by omega); omega
                        have m1 : 1 ≤ q * wt m := by have := Int.mul_le_mul q1 (HWT.out m hmt).1 (by omega) (by omega); omega
                        generalize d2.f m = fm at z1 f0 f1
                        have b0 : decide (fm < 0) = false := by simp; omega
                        have b1 : decide (q * wt m + 64 ≤ fm) = false := by simp; omega
                        have ha := HA.out
                        subst ha
                        go_wp2
                        go_quiet (fail)
                        go_wp2
                        go_roundw
                        case rel => exact ⟨m + 1, _, by omega, by go_num, rfl⟩
                        case measure => simp [intOf]; omega
                      · clear HA HZ HR
                        go_wp2
                        go_roundw
                        case rel => exact ⟨k + 1, by omega, by go_num, d2, hI7.drewN _, ok2, EE.out.1, EE.out.2, hQ7.drewN _⟩
                        case measure => simp [intOf]; omega
                  · have hb : anyB (Z k) (L k) = false := by simpa using hb
                    clear s1 hm hmt
                    go_wp2_with fail
                    refine (left_walk bd bg bl d2 wx hI2 (by rw [EE.out.1]; exact n1) (by rw [EE.out.1]; exact n8)).mono ?_
                    rintro e w7 ⟨v, rfl, ⟨g, vcap, rfl, hrow⟩, hq7⟩
                    have hI7 := Quiet.drr hq7 hI2
                    have hQ7 := hQ2.trans hq7
                    have HR := Go.Lib.hid hrow
                    rw [EE.out.1]
                    have bW : IntsIn w7 a n wt := HW.out.below (hQ7.below (Nat.le_refl _) (by simp))
                    obtain ⟨wb, wo, hwa, hwb, hwz⟩ := bW (by omega)
                    have HZ := Go.Lib.hid hwz
                    have HA := Go.Lib.hid hwa
                    clear hq7 hrow bW hwz hwa hI2 hQ2 bQ c1
                    go_wp2
                    go_loopw [16] (fun kk wr2 => ∃ m nd : Nat, m ≤ n ∧ kk = .int .i64 m ∧ wr2 = w7.drewN nd) (fun kk _ => n - (intOf kk).toNat)
                    case atStart => exact ⟨0, 0, Nat.zero_le _, rfl, rfl⟩
                    case round =>
                      obtain ⟨m, nd, hm, rfl, rfl⟩ := hrel
                      by_cases hmt : m < n
                      · have z1 : w7.cell? ⟨g, m, none⟩ = some (.int .i64 (d2.f m)) := HR.out m (by rw [EE.out.1]; exact hmt)
                        have z2 := HZ.out m hmt
                        have f0 : 0 ≤ d2.f m := ok2.f0 m (by rw [EE.out.1]; exact hmt)
                        have f1 : d2.f m < q * wt m + 64 := by
                          have h := ok2.f1 m (by rw [EE.out.1]; exact hmt)
                          have hg : d2.g m = q * wt m := by rw [EE.out.2]
                          have hp : 1 ≤ q * wt m := by have := Int.mul_le_mul q1 (HWT.out m hmt).1 (by omega) (by omega); omega
                          rw [hg] at h
                          split at h <;> omega
                        have m2 : q * wt m ≤ 1024 := by have := Int.mul_le_mul q64 (HWT.out m hmt).2 (by have := (HWT.out m hmt).1; omega) (by omega); omega
                        have m1 : 1 ≤ q * wt m := by have := Int.mul_le_mul q1 (HWT.out m hmt).1 (by omega) (by omega); omega
                        generalize d2.f m = fm at z1 f0 f1
                        have b0 : decide (fm < 0) = false := by simp; omega
                        have b1 : decide (q * wt m + 64 ≤ fm) = false := by simp; omega
                        have ha := HA.out
                        subst ha
                        go_wp2
                        go_quiet (fail)
                        go_wp2
                        go_roundw
                        case rel => exact ⟨m + 1, _, by omega, by go_num, rfl⟩
                        case measure => simp [intOf]; omega
                      · clear HA HZ HR
                        go_wp2
                        go_roundw
                        case rel => exact ⟨k + 1, by omega, by go_num, d2, hI7.drewN _, ok2, EE.out.1, EE.out.2, hQ7.drewN _⟩
                        case measure => simp [intOf]; omega
          · go_wp2
            go_ret
            exact ⟨rfl, hQ.below (Nat.le_refl _) (by simp)⟩
end Go.Proofs.Ytoebhifnfomkhaa
