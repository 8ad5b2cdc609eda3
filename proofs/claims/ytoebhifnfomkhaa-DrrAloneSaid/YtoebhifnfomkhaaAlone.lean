/- DrrAlone: for every input the law returns true and its arguments read as before. No condition. -/
import Derived.Test.YtoebhifnfomkhaaLists
namespace Go.Proofs.Ytoebhifnfomkhaa
open Go.RowKit Go.Lo

/-- Where something waits at one source alone it is served; the other ones' deficits stay 0. -/
theorem Runs.alone {c : Nat → Int} {a : Nat} (hc : ∀ i, i ≠ a → c i ≤ 0) {d d' : D} {k : Nat} (h : Runs c d d' k) : k = a ∧ ((∀ i, i ≠ a → d.f i = 0) → ∀ i, i ≠ a → d'.f i = 0) := by
  induction h with
  | skip d d' k _ _ ih =>
    refine ⟨ih.1, fun hf => ih.2 fun i hi => ?_⟩
    simp only [D.pass, D.zero, put]
    split
    · rfl
    · exact hf i hi
  | wait d d' k h0 h1 _ ih =>
    have hp : d.p = a := by
      rcases Nat.decEq d.p a with h | h
      · have := hc _ h
        unfold cl at h0
        split at h0 <;> omega
      · exact h
    refine ⟨ih.1, fun hf => ih.2 fun i hi => ?_⟩
    have : d.start.f i = d.f i := by unfold D.start; split <;> simp [put, hp, hi]
    simp only [D.pass, this]
    exact hf i hi
  | serve d h0 h1 =>
    have hp : d.p = a := by
      rcases Nat.decEq d.p a with h | h
      · have := hc _ h
        unfold cl at h0
        split at h0 <;> omega
      · exact h
    refine ⟨hp, fun hf i hi => ?_⟩
    have : d.start.f i = d.f i := by unfold D.start; split <;> simp [put, hp, hi]
    simp only [D.spend, D.start_p, put, hp, if_neg hi, this]
    exact hf i hi

/-- The law's loop: all but one have nothing. -/
def AloneRel (w0 : World) (bd bg bl n a : Nat) (w : World) : Prop :=
  ∃ d : D, IsDrr w bd bg bl d ∧ d.Ok ∧ d.n = n ∧ (∀ i, i ≠ a → d.f i = 0) ∧ Quiet w0 w

theorem alone_next (w0 w : World) (bd bg bl n a g cap : Nat) (v : Int) (hv : 0 < v) (ha : a < n) (h : AloneRel w0 bd bg bl n a w) (hg : g ≠ bd ∧ g ≠ bl) (B : Blk w g (ints n (put (fun _ => 0) a v)) 3) (hb : w0.heap.size ≤ bd ∧ w0.heap.size ≤ bl) :
    Calls Try.prog 11 #[.pointer (some ⟨bd, 0, none⟩), .slice (some ⟨g, 0, none⟩) n cap] w fun e w' => e = .returned (.int .i64 a) ∧
      ∃ d : D, IsDrr w' bd bg bl d ∧ d.Ok ∧ d.n = n ∧ (∀ i, i ≠ a → d.f i = 0) ∧ Quiet w0 w' ∧ d.p = a ∧ d.b = true := by
  obtain ⟨d, hI, ok, rfl, hf, hQ⟩ := h
  refine (next_walk bd bg bl g 0 cap a (put (fun _ => 0) a v) d w hI ok ha (by rw [put_same]; exact hv) (fun i hi => by rw [Nat.zero_add]; exact B.cell i (ints_at _ _ _ hi)) hg.1 hg.2 B.lt).mono ?_
  rintro e w' ⟨d', k, hr, rfl, hI', hA⟩
  obtain ⟨rfl, hf'⟩ := hr.alone (a := a) (fun i hi => by rw [put_other _ _ _ _ hi]; exact Int.le_refl _)
  obtain ⟨ok', -, -, e1, -, e2, e3⟩ := hr.ok ok
  exact ⟨rfl, d', hI', ok', e1, hf' hf, quiet_then hQ hA (fun i hi => by omega), e2, e3⟩

set_option maxRecDepth 100000 in
set_option maxHeartbeats 4000000 in
theorem alone_walk (wa la : Option Addr) (n cap ln lcap t : Nat) (q : Int) (wt z : Nat → Int) (w : World) (hn : n ≤ maxLen) (hln : ln ≤ maxLen) (ht : t ≤ 255) (hw : IntsIn w wa n wt) (hl : IntsIn w la ln z) :
    Calls Try.prog 6 #[.slice wa n cap, .int .i64 q, .int .u8 t, .slice la ln lcap] w fun e w' => e = .returned (.bool true) ∧ Below w.heap.size w w' := by
  have HW := Go.Lib.hid hw
  have HL := Go.Lib.hid hl
  have HN := Go.Lib.hid hn
  unfold maxLen at hn hln
  clear hw hl
  by_cases hbig : 20 < n ∨ 60 < ln
  · rcases Nat.lt_or_ge 20 n with h20 | h20
    · clear hbig
      go_enter Try.func6, Try.ntmps6
      go_wp2_with (go_at_call 8; refine (awake_any _).mono ?_; rintro e w1 ⟨rfl, hq1⟩)
      go_ret
      exact ⟨rfl, hq1.below (Nat.le_refl _) (by simp)⟩
    · have h60 : 60 < ln := by omega
      clear hbig
      go_enter Try.func6, Try.ntmps6
      go_wp2_with (go_at_call 8; refine (awake_any _).mono ?_; rintro e w1 ⟨rfl, hq1⟩)
      go_ret
      exact ⟨rfl, hq1.below (Nat.le_refl _) (by simp)⟩
  · have h20 : n ≤ 20 := by omega
    have h60 : ln ≤ 60 := by omega
    clear hbig
    go_enter Try.func6, Try.ntmps6
    go_wp2_with (go_at_call 8; refine (awake_any _).mono ?_; rintro e w1 ⟨rfl, hq1⟩)
    have b1 : Below w.heap.size w w1 := hq1.below (Nat.le_refl _) (by simp)
    refine (new_walk wa n cap q wt w1 HN.out (HW.out.below b1)).mono ?_
    rintro e w2 ⟨hq2, ⟨hne, rfl⟩ | ⟨he, bd, bg, bl, rfl, hbd, hbg, hbl, hI⟩⟩
    · have hc0 : (codeOf n q wt != 0) = true := by simpa using hne
      go_wp2
      go_ret
      exact ⟨rfl, b1.trans (hq2.below b1.size (by simp))⟩
    · obtain ⟨n1, n8, q1, q64, hwt⟩ := code_zero he
      have hA : t % n < n := Nat.mod_lt _ (by omega)
      have R0 : AloneRel w bd bg bl n (t % n) w2 := ⟨_, hI, New_ok n q wt n1 n8 q1 q64 hwt, rfl, fun _ _ => rfl, hq1.trans hq2⟩
      have hz := hq1.size
      have HD := Go.Lib.hid (show w.heap.size ≤ bd ∧ w.heap.size ≤ bl from by omega)
      clear hq2 he hbd hbg hbl hI hwt hq1 b1 hz HW
      have hmk := make_ints n (by omega)
      go_wp2_with fail
      rw [show ((t : Int) % n) = ((t % n : Nat) : Int) from by simp]
      generalize t % n = A at *
      go_loopw [13] (fun i wr => ∃ k : Nat, k ≤ ln ∧ i = .int .i64 k ∧ AloneRel w bd bg bl n A wr) (fun i _ => ln - (intOf i).toNat)
      case atStart => exact ⟨0, Nat.zero_le _, rfl, R0⟩
      case round =>
        clear R0
        obtain ⟨k, hk, rfl, hR⟩ := hrel
        have hsz : Below w.heap.size w wr := by
          obtain ⟨_, _, _, _, _, hQ⟩ := hR
          exact hQ.below (Nat.le_refl _) (by simp)
        by_cases hlt : k < ln
        · obtain ⟨lb, lo, rfl, hlb, hz⟩ := HL.out (by omega)
          have c1 : wr.cell? ⟨lb, lo + k, none⟩ = some (.int .i64 (z k)) := (hsz.cell (p := ⟨lb, lo + k, none⟩) hlb).trans (hz k hlt)
          have hlb2 : lb < wr.heap.size := Nat.lt_of_lt_of_le hlb hsz.size
          have step : ∀ v : Int, 0 < v → AloneRel w bd bg bl n A (wr.alloc (.cells ((ints n fun _ => 0).setIfInBounds A (.int .i64 v)) 3)) ∧
              (wr.heap.size ≠ bd ∧ wr.heap.size ≠ bl) ∧ Blk (wr.alloc (.cells ((ints n fun _ => 0).setIfInBounds A (.int .i64 v)) 3)) wr.heap.size (ints n (put (fun _ => 0) A v)) 3 := by
            intro v hv
            obtain ⟨d, hI, ok, e1, hf, hQ⟩ := hR
            have l1 := hI.own.lt
            have l2 := hI.left.lt
            have q' : Quiet wr (wr.alloc (.cells ((ints n fun _ => 0).setIfInBounds A (.int .i64 v)) 3)) := (Alters.refl _).alloc _
            refine ⟨⟨d, Quiet.drr q' hI, ok, e1, hf, hQ.trans q'⟩, ⟨by omega, by omega⟩, ?_⟩
            rw [ints_put]
            exact Blk.new wr _ 3
          have GO := Go.Lib.hid (fun (v : Int) (hv : 0 < v) => alone_next w _ bd bg bl n A wr.heap.size n v hv hA (step v hv).1 (step v hv).2.1 (step v hv).2.2 HD.out)
          have fz := fun i => (Blk.new wr (ints n fun _ => 0) 3).free i
          have cz := (Blk.new wr (ints n fun _ => 0) 3).cell A (ints_at _ _ _ hA)
          clear step hR hsz hz
          go_wp2_with fail
          all_goals
            refine (GO.out _ (by omega)).mono ?_
            rintro e wx ⟨rfl, d2, hI2, ok2, e1, hf, hQ, e2, e3⟩
            obtain ⟨dn, dg, df, dp, db⟩ := d2
            simp only at e1 e2 e3 hf
            subst e1 e2 e3
            clear GO fz cz c1
            go_wp2_with fail
            refine (turn_walk bd bg bl _ wx hI2).mono ?_
            rintro e wy ⟨rfl, hqy⟩
            have hI3 := Quiet.drr hqy hI2
            have hQ3 := hQ.trans hqy
            clear hqy hI2 hQ
            go_wp2_with fail
            refine (left_walk bd bg bl _ wy hI3 n1 n8).mono ?_
            rintro e w7 ⟨v, rfl, ⟨g, vcap, rfl, hrow⟩, hq7⟩
            have hI4 := Quiet.drr hq7 hI3
            have hQ4 := hQ3.trans hq7
            have HR := Go.Lib.hid hrow
            have HF := Go.Lib.hid hf
            clear hq7 hrow hI3 hQ3 hf
            go_wp2
            go_loop [19] (fun m => ∃ m' : Nat, m' ≤ dn ∧ m = .int .i64 m') (fun m => dn - (intOf m).toNat)
            case atStart => exact ⟨0, Nat.zero_le _, rfl⟩
            case round =>
              obtain ⟨m, hm, rfl⟩ := hrel
              by_cases hmt : m < dn
              · by_cases hma : m = dp
                · have b0 : ((m : Int) != (dp : Int)) = false := by simp; omega
                  clear hma
                  go_wp2
                  go_round
                  case rel => exact ⟨m + 1, by omega, by go_num⟩
                  case measure => simp [intOf]; omega
                · have z1 : w7.cell? ⟨g, m, none⟩ = some (.int .i64 0) := by
                    have := HR.out m hmt
                    simp only [HF.out m hma] at this
                    exact this
                  have b0 : ((m : Int) != (dp : Int)) = true := by simp; omega
                  clear hma
                  go_wp2
                  go_round
                  case rel => exact ⟨m + 1, by omega, by go_num⟩
                  case measure => simp [intOf]; omega
              · clear HR
                go_wp2
                go_roundw
                case rel => exact ⟨k + 1, by omega, by go_num, ⟨dn, dg, df, dp, true⟩, hI4, ok2, rfl, HF.out, hQ4⟩
                case measure => simp [intOf]; omega
        · obtain ⟨_, _, _, _, _, hQ⟩ := hR
          go_wp2
          go_ret
          exact ⟨rfl, hQ.below (Nat.le_refl _) (by simp)⟩

section
open Go.ChangeShapes Go.WideShapes Go.ChangeAt
theorem drrAlone_run {H : Type} {enc : TypeId × Value → H} (W : World) (v0 v1 v2 v3 : Value) (d0 d1 d2 d3 : DataW H) (p0 p1 p2 p3 : List MemPlace)
    (k0 : Value.okWide Try.prog W .any 0 22 v0) (h0 : DataW.Trod enc Try.prog W 0 (fun _ => true) true 22 v0 d0 p0)
    (k1 : Value.okWide Try.prog W .any 0 3 v1) (h1 : DataW.Trod enc Try.prog W 0 (fun _ => true) true 3 v1 d1 p1)
    (k2 : Value.okWide Try.prog W .any 0 5 v2) (h2 : DataW.Trod enc Try.prog W 0 (fun _ => true) true 5 v2 d2 p2)
    (k3 : Value.okWide Try.prog W .any 0 22 v3) (h3 : DataW.Trod enc Try.prog W 0 (fun _ => true) true 22 v3 d3 p3) :
    Calls Try.prog 6 #[v0, v1, v2, v3] W fun e w' => e = .returned (.bool true) ∧ Below W.heap.size W w' := by
  obtain ⟨a, n, cap, wt, rfl, hn, _, hc⟩ := open_ints_at Try.underlying22 Try.underlying3 (by kernel_rfl) k0 h0
  obtain ⟨q, rfl, wq⟩ := open_i Try.underlying3 k1 h1
  obtain ⟨t, rfl, wt'⟩ := open_i Try.underlying5 k2 h2
  have bt := bounds_u8 wt'
  obtain ⟨t, rfl⟩ := Int.eq_ofNat_of_zero_le bt.1
  obtain ⟨la, ln, lcap, z, rfl, hln, _, hl⟩ := open_ints_at Try.underlying22 Try.underlying3 (by kernel_rfl) k3 h3
  exact alone_walk a la n cap ln lcap t q wt z W hn hln (by omega) hc hl

theorem drrAlone_own : ownKnob Try.prog.godebug = none := by kernel_rfl
theorem drrAlone_laidOut : laidOutB Try.prog = true := by kernel_rfl

set_option maxRecDepth 100000 in
theorem drrAlone_lifted (os : Os) (started : os.Started) (H : Type) (enc : TypeId × Value → H) :
    ReturnsInHanded {} Try.checked os 6 .any (Rows.drrAloneSpec.pre6 enc Try.prog Try.f6 Rows.drrAloneRow.domain false) (Rows.drrAloneSpec.post enc Try.prog Try.f6 false true false false) := by
  refine returnsInHanded_of_change (C := Try.checked) drrAlone_own started (by kernel_rfl) Try.func6
    (ChangeSpec.witness6 (enc := enc) (C := Try.checked) false ⟨#[], #[.slice none 0 0, .int .i64 0, .int .u8 0, .slice none 0 0], []⟩ 8 (by kernel_rfl) (by kernel_rfl) (by kernel_rfl) (by kernel_rfl)) ?_
  intro W base args ds gs before hval0 hW hcnd _
  have hval : ∀ (j : Nat) t v, Try.f6.params[j]? = some t → args[j]? = some v → Value.okWide Try.prog W .any base t v := hval0
  have hW' := hW
  obtain ⟨p, q, hA0, hV, rfl, hfz, hnd⟩ := hW
  have hA : DataW.TrodAll enc Try.prog W 0 (fun _ => true) true Try.f6.params.toList args.toList ds p := hA0
  rw [Try.params6] at hA hval
  obtain ⟨v0, vs0, d0, ds0, p0, q0, hargs, rfl, rfl, h0, r0⟩ := trodAll_cons hA
  obtain ⟨v1, vs1, d1, ds1, p1, q1, rfl, rfl, rfl, h1, r1⟩ := trodAll_cons r0
  obtain ⟨v2, vs2, d2, ds2, p2, q2, rfl, rfl, rfl, h2, r2⟩ := trodAll_cons r1
  obtain ⟨v3, vs3, d3, ds3, p3, q3, rfl, rfl, rfl, h3, r3⟩ := trodAll_cons r2
  obtain ⟨rfl, rfl, rfl⟩ := trodAll_nil r3
  obtain rfl : args = #[v0, v1, v2, v3] := by cases args; simp_all
  obtain ⟨rfl, rfl⟩ := trodVars_none hV
  have lt0 : ∀ x ∈ p0, x.block < W.heap.size := by obtain ⟨m, hm⟩ := h0; exact DataW.trod_lt m _ _ _ hm
  have lt1 : ∀ x ∈ p1, x.block < W.heap.size := by obtain ⟨m, hm⟩ := h1; exact DataW.trod_lt m _ _ _ hm
  have lt2 : ∀ x ∈ p2, x.block < W.heap.size := by obtain ⟨m, hm⟩ := h2; exact DataW.trod_lt m _ _ _ hm
  have lt3 : ∀ x ∈ p3, x.block < W.heap.size := by obtain ⟨m, hm⟩ := h3; exact DataW.trod_lt m _ _ _ hm
  clear hA0
  refine (drrAlone_run W v0 v1 v2 v3 d0 d1 d2 d3 p0 p1 p2 p3 (hval 0 22 v0 rfl rfl) h0 (hval 1 3 v1 rfl rfl) h1 (hval 2 5 v2 rfl rfl) h2 (hval 3 22 v3 rfl rfl) h3).mono fun e W' ⟨he, bel⟩ => ?_
  subst he
  exact ⟨_, rfl, _, _, _, [], _, [], hW', trodAll_mk1 (shut_bool Try.underlying4 _), (trodAll_cons_mk (Below.trod drrAlone_laidOut (by kernel_rfl) (of_decide_eq_true (by kernel_rfl)) h0 bel lt0) (trodAll_cons_mk (Below.trod drrAlone_laidOut (by kernel_rfl) (of_decide_eq_true (by kernel_rfl)) h1 bel lt1) (trodAll_cons_mk (Below.trod drrAlone_laidOut (by kernel_rfl) (of_decide_eq_true (by kernel_rfl)) h2 bel lt2) (trodAll_cons_mk (Below.trod drrAlone_laidOut (by kernel_rfl) (of_decide_eq_true (by kernel_rfl)) h3 bel lt3) trodAll_mk0)))), rfl, bel.frame _, fun h => by cases h⟩

/-- The given statement. -/
theorem drrAlone_holds : Rows.DrrAloneSaid :=
  OpenClaim.holds_of_wide 6 Try.f6 rfl rfl rfl rfl rfl rfl rfl ⟨rfl, rfl, rfl, rfl, rfl⟩ rfl rfl rfl rfl rfl (by kernel_rfl) Try.func6 (by kernel_rfl)
    (of_decide_eq_true (by kernel_rfl)) (by unfold Func.isWrapper; first | (rw [if_pos (by decide +kernel)]; kernel_rfl) | (rw [if_neg (by decide +kernel)]; exact ⟨rfl, rfl⟩))
    (fun os started H enc _ => drrAlone_lifted os started H enc)
#print axioms drrAlone_holds

end
end Go.Proofs.Ytoebhifnfomkhaa
