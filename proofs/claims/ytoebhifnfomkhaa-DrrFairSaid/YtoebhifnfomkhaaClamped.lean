/- DrrClamps: for every input the law returns true and its arguments read as before. No condition. -/
import Derived.Test.YtoebhifnfomkhaaClamps
namespace Go.Proofs.Ytoebhifnfomkhaa
open Go.RowKit Go.Lo

theorem cp_low (x : Int) (h : x < 0) : cp x = 0 := by unfold cp; simp [h]
theorem cp_high (x : Int) (h : 64 < x) : cp x = 64 := by
  have : ¬ x < 0 := by omega
  unfold cp; simp [this, h]
theorem cp_mid (x : Int) (h : 0 ≤ x) (h' : x ≤ 64) : cp x = x := by
  have h1 : ¬ x < 0 := by omega
  have h2 : ¬ 64 < x := by omega
  unfold cp; simp [h1, h2]

def Off (g bd bg bl od og ol : Nat) : Prop := g ≠ bd ∧ g ≠ bg ∧ g ≠ bl ∧ g ≠ od ∧ g ≠ og ∧ g ≠ ol

theorem Twins.off {w0 w w' : World} {bd bg bl od og ol n g : Nat} (h : Twins w0 bd bg bl od og ol n w) (ho : Off g bd bg bl od og ol) (hg : w0.heap.size ≤ g) (hA : Alters (fun k => k = g) w w') : Twins w0 bd bg bl od og ol n w' := by
  obtain ⟨d, hI, hO, ok, e, hQ⟩ := h
  obtain ⟨o1, o2, o3, o4, o5, o6⟩ := ho
  exact ⟨d, ⟨hA.blk hI.own (by omega), hA.blk hI.gain (by omega), hA.blk hI.left (by omega), hI.gd, hI.ld, hI.gl⟩,
    ⟨hA.blk hO.own (by omega), hA.blk hO.gain (by omega), hA.blk hO.left (by omega), hO.gd, hO.ld, hO.gl⟩, ok, e, quiet_then hQ hA (fun i hi => by omega)⟩

theorem Twins.new {w0 w : World} {bd bg bl od og ol n : Nat} (h : Twins w0 bd bg bl od og ol n w) : Off w.heap.size bd bg bl od og ol ∧ w0.heap.size ≤ w.heap.size := by
  obtain ⟨d, hI, hO, ok, e, hQ⟩ := h
  have := hI.own.lt; have := hI.gain.lt; have := hI.left.lt; have := hO.own.lt; have := hO.gain.lt; have := hO.left.lt
  exact ⟨⟨by omega, by omega, by omega, by omega, by omega, by omega⟩, hQ.size⟩

theorem Twins.quiet {w0 w w' : World} {bd bg bl od og ol n : Nat} (h : Twins w0 bd bg bl od og ol n w) (hq : Quiet w w') : Twins w0 bd bg bl od og ol n w' := by
  obtain ⟨d, hI, hO, ok, e, hQ⟩ := h
  exact ⟨d, Quiet.drr hq hI, Quiet.drr hq hO, ok, e, hQ.trans hq⟩

set_option maxRecDepth 100000 in
set_option maxHeartbeats 4000000 in
theorem clamps_walk (a la : Option Addr) (n cap ln lcap : Nat) (q : Int) (wt : Nat → Int) (L : Nat → Nat) (Z : Nat → Nat → Int) (w : World) (hn : n ≤ maxLen) (hln : ln ≤ maxLen) (hw : IntsIn w a n wt) (hl : ListsIn w la ln L Z) :
    Calls Try.prog 7 #[.slice a n cap, .int .i64 q, .slice la ln lcap] w fun e w' => e = .returned (.bool true) ∧ Below w.heap.size w w' := by
  have HW := Go.Lib.hid hw
  have HL := Go.Lib.hid hl
  have HN := Go.Lib.hid hn
  have HM := Go.Lib.hid hln
  have hfew := few_walk la ln lcap L Z
  have HF := Go.Lib.hid hfew
  unfold maxLen at hn hln
  clear hw hl hfew
  go_enter Try.func7, Try.ntmps7
  go_wp2_with (go_at_call 8; refine (awake_any _).mono ?_; rintro e w1 ⟨rfl, hq1⟩)
  have b1 : Below w.heap.size w w1 := hq1.below (Nat.le_refl _) (by simp)
  have hl1 : ListsIn w1 la ln L Z := fun h => by
    obtain ⟨b, off, rfl, hb, hz⟩ := HL.out h
    refine ⟨b, off, rfl, Nat.lt_of_lt_of_le hb b1.size, fun i hi => ?_⟩
    obtain ⟨a', cap', h1, h2, h3⟩ := hz i hi
    exact ⟨a', cap', (b1.cell (p := ⟨b, off + i, none⟩) hb).trans h1, h2, h3.below b1⟩
  refine (HF.out w1 HM.out hl1).mono ?_
  rintro e w2 ⟨⟨B, rfl, hB⟩, rfl⟩
  clear hl1
  cases B
  · clear hB
    go_wp2
    go_ret
    exact ⟨rfl, b1⟩
  · have HB := Go.Lib.hid (hB rfl)
    clear hB
    by_cases hn20 : 20 < n
    · go_wp2
      go_ret
      exact ⟨rfl, b1⟩
    · have l120 := HB.out.1
      have HC := Go.Lib.hid HB.out.2
      clear HB
      go_wp2_with fail
      refine (new_walk a n cap q wt w1 HN.out (HW.out.below b1)).mono ?_
      rintro e w2 ⟨hq2, hends⟩
      have b2 := b1.trans (hq2.below b1.size (by simp))
      have hnew := new_walk a n cap q wt w2 HN.out (HW.out.below b2)
      have HNEW := Go.Lib.hid hnew
      clear hnew
      rcases hends with ⟨hne, rfl⟩ | ⟨he, bd, bg, bl, rfl, hbd, hbg, hbl, hI⟩
      · go_wp2_with fail
        refine HNEW.out.mono ?_
        rintro e w3 ⟨hq3, ⟨hne3, rfl⟩ | ⟨he, -⟩⟩
        · have hc0 : (codeOf n q wt != 0) = true := by simpa using hne
          clear hne hne3
          go_wp2
          go_ret
          exact ⟨rfl, b2.trans (hq3.below b2.size (by simp))⟩
        · exact absurd he hne
      · go_wp2_with fail
        refine HNEW.out.mono ?_
        rintro e w3 ⟨hq3, ⟨hne3, rfl⟩ | ⟨-, od, og, ol, rfl, hod, hog, hol, hO⟩⟩
        · exact absurd he hne3
        · obtain ⟨n1, n8, q1, q64, hwt⟩ := code_zero he
          have hz := hq1.size
          have hz2 := hq2.size
          have l1 := hI.own.lt
          have l2 := hI.gain.lt
          have l3 := hI.left.lt
          have R0 : Twins w bd bg bl od og ol n w3 := ⟨_, Quiet.drr hq3 hI, hO, New_ok n q wt n1 n8 q1 q64 hwt, rfl, (hq1.trans hq2).trans hq3⟩
          have HA := Go.Lib.hid (show Apart w bd bg bl od og ol from ⟨⟨by omega, by omega, by omega, by omega⟩, ⟨by omega, by omega⟩, ⟨by omega, by omega⟩, ⟨by omega, by omega⟩, by omega, by omega⟩)
          clear hq2 he hbd hbg hbl hI hwt hq1 b1 hz hn20 hO hod hog hol HNEW b2 hq3 hz2 l1 l2 l3 HW
          go_wp2
          go_loopw [13] (fun i wr => ∃ k : Nat, k ≤ ln ∧ i = .int .i64 k ∧ Twins w bd bg bl od og ol n wr) (fun i _ => ln - (intOf i).toNat)
          case atStart => exact ⟨0, Nat.zero_le _, rfl, R0⟩
          case round =>
            clear R0
            obtain ⟨k, hk, rfl, hT⟩ := hrel
            by_cases hlt : k < ln
            · obtain ⟨lb, lo, rfl, hlb, hz⟩ := HL.out (by omega)
              obtain ⟨a', cap', h1, h2, h3⟩ := hz k hlt
              have l20 := HC.out k hlt
              clear hz h2
              have hmk := make_ints (L k) (by omega)
              have H1 := Go.Lib.hid h1
              have H3 := Go.Lib.hid h3
              clear h1 h3
              have c1 : wr.cell? ⟨lb, lo + k, none⟩ = some (.slice a' (L k) cap') := by
                obtain ⟨_, _, _, _, _, hQ⟩ := hT
                exact hQ.cell H1.out (by simp)
              have hlb2 : lb < wr.heap.size := by
                obtain ⟨_, _, _, _, _, hQ⟩ := hT
                exact Nat.lt_of_lt_of_le hlb hQ.size
              go_wp2
              obtain ⟨hoff, hge⟩ := hT.new
              have T0 : Twins w bd bg bl od og ol n (wr.alloc (.cells (ints (L k) fun _ => 0) 3)) := hT.quiet ((Alters.refl _).alloc _)
              have B0 : Blk (wr.alloc (.cells (ints (L k) fun _ => 0) 3)) wr.heap.size (ints (L k) fun i => if i < 0 then cp (Z k i) else 0) 3 := by
                have := Blk.new wr (ints (L k) fun _ => 0) 3
                simpa using this
              have HO := Go.Lib.hid (And.intro hoff hge)
              clear hT hoff hge c1 hlb2 hmk
              generalize wr.alloc _ = w4 at *
              generalize wr.heap.size = g at *
              go_loopw [15] (fun i wr2 => ∃ m : Nat, m ≤ L k ∧ i = .int .i64 m ∧ (Twins w bd bg bl od og ol n wr2 ∧ Blk wr2 g (ints (L k) fun i => if i < m then cp (Z k i) else 0) 3)) (fun i _ => L k - (intOf i).toNat)
              case atStart => exact ⟨0, Nat.zero_le _, rfl, T0, B0⟩
              case round =>
                clear T0 B0
                obtain ⟨m, hm, rfl, hT, hB⟩ := hrel
                have hQ : Quiet w wr := by
                  obtain ⟨_, _, _, _, _, hQ⟩ := hT
                  exact hQ
                by_cases hmt : m < L k
                · obtain ⟨rb, ro, rfl, hrb, hzz⟩ := H3.out (by omega)
                  have c1 : wr.cell? ⟨lb, lo + k, none⟩ = some (.slice (some ⟨rb, ro, none⟩) (L k) cap') := hQ.cell H1.out (by simp)
                  have c2 : wr.cell? ⟨rb, ro + m, none⟩ = some (.int .i64 (Z k m)) := hQ.cell (hzz m hmt) (by simp)
                  have step : ∀ v, cp (Z k m) = v → Twins w bd bg bl od og ol n (wr.setCell ⟨g, m, none⟩ (.int .i64 v)) ∧ Blk (wr.setCell ⟨g, m, none⟩ (.int .i64 v)) g (ints (L k) fun i => if i < m + 1 then cp (Z k i) else 0) 3 := by
                    rintro v rfl
                    refine ⟨hT.off HO.out.1 HO.out.2 ((Alters.refl _).set (by simp) _), ?_⟩
                    have := hB.set m (.int .i64 (cp (Z k m)))
                    rw [ints_put] at this
                    rw [show (fun i => if i < m + 1 then cp (Z k i) else 0) = put (fun i => if i < m then cp (Z k i) else 0) m (cp (Z k m)) from ?_]
                    · exact this
                    · funext i
                      unfold put
                      by_cases e : i = m
                      · subst e; simp
                      · rw [if_neg e]
                        show _ = if i < m then cp (Z k i) else 0
                        by_cases h : i < m
                        · rw [if_pos h, if_pos (by omega)]
                        · rw [if_neg h, if_neg (by omega)]
                  have HS := Go.Lib.hid step
                  have fz := fun i => hB.free i
                  have cz := hB.cell m (ints_at _ _ _ hmt)
                  clear step hT hB hzz hQ
                  rcases Int.lt_or_le (Z k m) 0 with hz0 | hz0
                  · have HV := Go.Lib.hid (show cp (Z k m) = 0 from cp_low _ hz0)
                    go_wp2
                    go_roundw
                    case rel => exact ⟨m + 1, by omega, by go_num, HS.out 0 HV.out⟩
                    case measure => simp [intOf]; omega
                  · rcases Int.lt_or_le 64 (Z k m) with hz1 | hz1
                    · have HV := Go.Lib.hid (show cp (Z k m) = 64 from cp_high _ hz1)
                      go_wp2
                      go_roundw
                      case rel => exact ⟨m + 1, by omega, by go_num, HS.out 64 HV.out⟩
                      case measure => simp [intOf]; omega
                    · have HV := Go.Lib.hid (show cp (Z k m) = (Z k m) from cp_mid _ hz0 hz1)
                      go_wp2
                      go_roundw
                      case rel => exact ⟨m + 1, by omega, by go_num, HS.out (Z k m) HV.out⟩
                      case measure => simp [intOf]; omega
                · obtain rfl : m = L k := by omega
                  clear hm hmt
                  obtain ⟨d, hI, hO, ok, e1, hQ'⟩ := hT
                  clear hQ'
                  have c1 : wr.cell? ⟨lb, lo + k, none⟩ = some (.slice a' (L k) cap') := hQ.cell H1.out (by simp)
                  have hBw : Below w.heap.size w wr := hQ.below (Nat.le_refl _) (by simp)
                  go_wp2_with fail
                  refine (next_any bd bg bl d a' (L k) cap' (Z k) w wr hI ok H3.out hBw HA.out.1.1 HA.out.1.2.1).mono ?_
                  rintro e wx hne
                  obtain ⟨x, d2, rfl, hI2, hO2, ok2, e2, hQ2, hA2, hx⟩ := twin_first hI hO ok hQ e1 HA.out hne
                  have B2 : Blk wx g (ints (L k) fun i => if i < L k then cp (Z k i) else 0) 3 := hA2.blk hB (by have := HO.out.1; unfold Off at this; omega)
                  have HX := Go.Lib.hid hx
                  have E2 := Go.Lib.hid e2
                  clear hI hO hQ c1 hBw hne hA2 hx e1 hB
                  go_wp2_with fail
                  refine (next_apart od og ol d (some ⟨g, 0, none⟩) (L k) (L k) (fun i => cp (Z k i)) wx hO2 ok (fun _ => ⟨g, 0, rfl, by have := HO.out.1; unfold Off at this; omega, by have := HO.out.1; unfold Off at this; omega, B2.lt, fun i hi => by
                    have := B2.cell i (ints_at _ _ _ hi)
                    simp only [hi, if_true] at this
                    rw [Nat.zero_add]; exact this⟩)).mono ?_
                  rintro e wy hne
                  obtain ⟨rfl, -, d3, hI3, hO3, ok3, e3, hQ3⟩ := twin_second hI2 hO2 ok hQ2 HA.out HX.out E2.out ok2 hne
                  clear hne hI2 hO2 ok2 ok E2 HX B2 hQ2
                  have E3 := Go.Lib.hid e3
                  clear e3
                  go_wp2_with fail
                  refine (turn_walk bd bg bl d3 wy hI3).mono ?_
                  rintro e w5 ⟨rfl, q5⟩
                  go_wp2_with fail
                  refine (turn_walk od og ol d3 w5 (Quiet.drr q5 hO3)).mono ?_
                  rintro e w6 ⟨rfl, q6⟩
                  go_wp2_with fail
                  refine (left_walk bd bg bl d3 w6 (Quiet.drr q6 (Quiet.drr q5 hI3)) (by rw [E3.out]; exact n1) (by rw [E3.out]; exact n8)).mono ?_
                  rintro e w7 ⟨v, rfl, ⟨g1, c1, rfl, r1⟩, q7⟩
                  have HR1 := Go.Lib.hid r1
                  clear r1
                  go_wp2_with fail
                  refine (left_walk od og ol d3 w7 (Quiet.drr q7 (Quiet.drr q6 (Quiet.drr q5 hO3))) (by rw [E3.out]; exact n1) (by rw [E3.out]; exact n8)).mono ?_
                  rintro e w8 ⟨v, rfl, ⟨g2, c2, rfl, r2⟩, q8⟩
                  have HR2 := Go.Lib.hid r2
                  have Q8 := ((q5.trans q6).trans q7).trans q8
                  have HQ8 := Go.Lib.hid q8
                  have T8 : Twins w bd bg bl od og ol n w8 := ⟨d3, Quiet.drr Q8 hI3, Quiet.drr Q8 hO3, ok3, E3.out, hQ3.trans Q8⟩
                  rw [E3.out]
                  clear r2 q5 q6 q7 q8 Q8 hI3 hO3 hQ3
                  go_wp2
                  go_loopw [24] (fun m wr2 => ∃ m' nd : Nat, m' ≤ n ∧ m = .int .i64 m' ∧ wr2 = w8.drewN nd) (fun m _ => n - (intOf m).toNat)
                  case atStart => exact ⟨0, 0, Nat.zero_le _, rfl, rfl⟩
                  case round =>
                    obtain ⟨m, nd, hm, rfl, rfl⟩ := hrel
                    by_cases hmt : m < n
                    · have z1 : w8.cell? ⟨g1, m, none⟩ = some (.int .i64 (d3.f m)) := HQ8.out.cell (HR1.out m (by rw [E3.out]; exact hmt)) (by simp)
                      have z2 : w8.cell? ⟨g2, m, none⟩ = some (.int .i64 (d3.f m)) := HR2.out m (by rw [E3.out]; exact hmt)
                      go_wp2
                      go_quiet (fail)
                      go_wp2
                      go_roundw
                      case rel => exact ⟨m + 1, _, by omega, by go_num, rfl⟩
                      case measure => simp [intOf]; omega
                    · clear HR1 HR2
                      go_wp2
                      go_roundw
                      case rel => exact ⟨k + 1, by omega, by go_num, T8.quiet ((Alters.refl _).drewN _)⟩
                      case measure => simp [intOf]; omega
            · have hQ : Quiet w wr := by
                obtain ⟨_, _, _, _, _, hQ⟩ := hT
                exact hQ
              go_wp2
              go_ret
              exact ⟨rfl, hQ.below (Nat.le_refl _) (by simp)⟩

section
open Go.ChangeShapes Go.WideShapes Go.ChangeAt
theorem drrClamps_run {H : Type} {enc : TypeId × Value → H} (W : World) (v0 v1 v2 : Value) (d0 d1 d2 : DataW H) (p0 p1 p2 : List MemPlace)
    (k0 : Value.okWide Try.prog W .any 0 22 v0) (h0 : DataW.Trod enc Try.prog W 0 (fun _ => true) true 22 v0 d0 p0)
    (k1 : Value.okWide Try.prog W .any 0 3 v1) (h1 : DataW.Trod enc Try.prog W 0 (fun _ => true) true 3 v1 d1 p1)
    (k2 : Value.okWide Try.prog W .any 0 23 v2) (h2 : DataW.Trod enc Try.prog W 0 (fun _ => true) true 23 v2 d2 p2) :
    Calls Try.prog 7 #[v0, v1, v2] W fun e w' => e = .returned (.bool true) ∧ Below W.heap.size W w' := by
  obtain ⟨a, n, cap, wt, rfl, hn, _, hc⟩ := open_ints_at Try.underlying22 Try.underlying3 (by kernel_rfl) k0 h0
  obtain ⟨q, rfl, wq⟩ := open_i Try.underlying3 k1 h1
  obtain ⟨la, ln, lcap, L, Z, rfl, hln, hl⟩ := open_lists k2 h2
  exact clamps_walk a la n cap ln lcap q wt L Z W hn hln hc hl

theorem drrClamps_own : ownKnob Try.prog.godebug = none := by kernel_rfl
theorem drrClamps_laidOut : laidOutB Try.prog = true := by kernel_rfl

set_option maxRecDepth 100000 in
theorem drrClamps_lifted (os : Os) (started : os.Started) (H : Type) (enc : TypeId × Value → H) :
    ReturnsInHanded {} Try.checked os 7 .any (Rows.drrClampsSpec.pre6 enc Try.prog Try.f7 Rows.drrClampsRow.domain false) (Rows.drrClampsSpec.post enc Try.prog Try.f7 false true false false) := by
  refine returnsInHanded_of_change (C := Try.checked) drrClamps_own started (by kernel_rfl) Try.func7
    (ChangeSpec.witness6 (enc := enc) (C := Try.checked) false ⟨#[], #[.slice none 0 0, .int .i64 0, .slice none 0 0], []⟩ 8 (by kernel_rfl) (by kernel_rfl) (by kernel_rfl) (by kernel_rfl)) ?_
  intro W base args ds gs before hval0 hW hcnd _
  have hval : ∀ (j : Nat) t v, Try.f7.params[j]? = some t → args[j]? = some v → Value.okWide Try.prog W .any base t v := hval0
  have hW' := hW
  obtain ⟨p, q, hA0, hV, rfl, hfz, hnd⟩ := hW
  have hA : DataW.TrodAll enc Try.prog W 0 (fun _ => true) true Try.f7.params.toList args.toList ds p := hA0
  rw [Try.params7] at hA hval
  obtain ⟨v0, vs0, d0, ds0, p0, q0, hargs, rfl, rfl, h0, r0⟩ := trodAll_cons hA
  obtain ⟨v1, vs1, d1, ds1, p1, q1, rfl, rfl, rfl, h1, r1⟩ := trodAll_cons r0
  obtain ⟨v2, vs2, d2, ds2, p2, q2, rfl, rfl, rfl, h2, r2⟩ := trodAll_cons r1
  obtain ⟨rfl, rfl, rfl⟩ := trodAll_nil r2
  obtain rfl : args = #[v0, v1, v2] := by cases args; simp_all
  obtain ⟨rfl, rfl⟩ := trodVars_none hV
  have lt0 : ∀ x ∈ p0, x.block < W.heap.size := by obtain ⟨m, hm⟩ := h0; exact DataW.trod_lt m _ _ _ hm
  have lt1 : ∀ x ∈ p1, x.block < W.heap.size := by obtain ⟨m, hm⟩ := h1; exact DataW.trod_lt m _ _ _ hm
  have lt2 : ∀ x ∈ p2, x.block < W.heap.size := by obtain ⟨m, hm⟩ := h2; exact DataW.trod_lt m _ _ _ hm
  clear hA0
  refine (drrClamps_run W v0 v1 v2 d0 d1 d2 p0 p1 p2 (hval 0 22 v0 rfl rfl) h0 (hval 1 3 v1 rfl rfl) h1 (hval 2 23 v2 rfl rfl) h2).mono fun e W' ⟨he, bel⟩ => ?_
  subst he
  exact ⟨_, rfl, _, _, _, [], _, [], hW', trodAll_mk1 (shut_bool Try.underlying4 _), (trodAll_cons_mk (Below.trod drrClamps_laidOut (by kernel_rfl) (of_decide_eq_true (by kernel_rfl)) h0 bel lt0) (trodAll_cons_mk (Below.trod drrClamps_laidOut (by kernel_rfl) (of_decide_eq_true (by kernel_rfl)) h1 bel lt1) (trodAll_cons_mk (Below.trod drrClamps_laidOut (by kernel_rfl) (of_decide_eq_true (by kernel_rfl)) h2 bel lt2) trodAll_mk0))), rfl, bel.frame _, fun h => by cases h⟩

/-- The given statement. -/
theorem drrClamps_holds : Rows.DrrClampsSaid :=
  OpenClaim.holds_of_wide 7 Try.f7 rfl rfl rfl rfl rfl rfl rfl ⟨rfl, rfl, rfl, rfl, rfl⟩ rfl rfl rfl rfl rfl (by kernel_rfl) Try.func7 (by kernel_rfl)
    (of_decide_eq_true (by kernel_rfl)) (by unfold Func.isWrapper; first | (rw [if_pos (by decide +kernel)]; kernel_rfl) | (rw [if_neg (by decide +kernel)]; exact ⟨rfl, rfl⟩))
    (fun os started H enc _ => drrClamps_lifted os started H enc)
#print axioms drrClamps_holds

end
end Go.Proofs.Ytoebhifnfomkhaa
