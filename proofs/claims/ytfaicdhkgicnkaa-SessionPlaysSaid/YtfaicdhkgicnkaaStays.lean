/- SessionStays: for every input the law returns true and its argument reads as before. No condition. -/
import Derived.Test.YtfaicdhkgicnkaaNumbers
namespace Go.Proofs.Ytfaicdhkgicnkaa
open Go.RowKit Go.Lo

theorem Ses.play_no (s : Ses) (x : Act) (h : (s.play x).2.2 ≠ 0) : s.play x = (s, 0, (s.play x).2.2) ∧ (x.d = 0 → s.o = true) ∧ (x.d ≠ 0 → x.d ≠ 1 → s.o = false) := by
  have hb := play_bad s x h
  refine ⟨by rw [← hb.2]; exact Prod.ext hb.1 (Prod.ext rfl rfl), fun hd => ?_, fun h0 h1 => ?_⟩
  · rcases play_cases s x with ⟨_, ⟨ho, e⟩ | ⟨_, e⟩⟩ | ⟨hd', _⟩ | ⟨hd', _⟩ | ⟨hd', _⟩
    · exact ho
    · rw [e] at h; simp at h
    · omega
    · omega
    · omega
  · rcases play_cases s x with ⟨hd', _⟩ | ⟨hd', _⟩ | ⟨_, ⟨ho, e⟩ | ⟨_, e⟩⟩ | ⟨_, ⟨ho, e⟩ | ⟨_, e⟩⟩
    · omega
    · omega
    · exact ho
    · rw [e] at h; simp at h
    · exact ho
    · rw [e] at h; simp at h

theorem Run.drewN {w0 w : World} {b : Nat} {s : Ses} (h : Run w0 b s w) (n : Nat) : Run w0 b s (w.drewN n) :=
  ⟨Blk.drewN h.1 n, h.2.1, below_drewN h.2.2.1 n, h.2.2.2⟩

set_option maxRecDepth 100000 in
set_option maxHeartbeats 2000000 in
theorem stays_walk (a : Option Addr) (len cap : Nat) (X : Nat → Act) (w : World) (hX : ∀ i, i < len → (X i).Ok) (hc : ActsAt w a len X) :
    Calls Try.prog 7 #[.slice a len cap] w fun e w' => e = .returned (.bool true) ∧ Below w.heap.size w w' := by
  by_cases hl : 200 < len
  · go_enter Try.func7, Try.ntmps7
    go_wp2_with (go_at_call 8; refine (awake_any _).mono ?_; rintro e w' ⟨rfl, ht⟩)
    go_ret
    exact ⟨rfl, ht.below (Nat.le_refl _) (by simp)⟩
  · have HC := Go.Lib.hid hc
    have HX := Go.Lib.hid hX
    clear hc hX
    go_enter Try.func7, Try.ntmps7
    go_wp2_with (go_at_call 8; refine (awake_any _).mono ?_; rintro e w1 ⟨rfl, ht1⟩)
    refine (new_any _).mono ?_
    rintro e w2 ⟨rfl, rfl⟩
    have R0 : ∃ s, Run w w1.heap.size s _ := ⟨_, Run.start w w1 ht1⟩
    generalize w1.alloc _ = w2 at *
    generalize w1.heap.size = b at *
    clear ht1
    go_wp2_with fail
    go_loopw [5] (fun i wr => ∃ (k : Nat), k ≤ len ∧ i = .int .i64 k ∧ ∃ s, Run w b s wr) (fun i _ => len - (intOf i).toNat)
    case atStart => exact ⟨0, Nat.zero_le _, rfl, R0⟩
    case round =>
      clear R0
      obtain ⟨k, hk, rfl, s, R⟩ := hrel
      by_cases hlt : k < len
      · obtain ⟨bl, off, rfl, hbl, hz⟩ := HC.out (by omega)
        have HZ := Go.Lib.hid hz
        clear hz
        go_wp2_with fail
        refine (tell_any b _ _ _ _ _ R.1).mono ?_
        rintro e w0 ⟨rfl, rfl⟩
        have R0 : Run w b s ((wr.alloc (.cells #[.bool s.o, .bool s.sp, .int .u64 s.n, .int .i64 s.l] 31)).alloc (.cells #[.bool s.o, .bool s.sp, .int .u64 s.n, .int .i64 s.l] 31)) := (R.alloc _).alloc _
        have B0 : Blk ((wr.alloc (.cells #[.bool s.o, .bool s.sp, .int .u64 s.n, .int .i64 s.l] 31)).alloc (.cells #[.bool s.o, .bool s.sp, .int .u64 s.n, .int .i64 s.l] 31)) (wr.heap.size + 1) #[.bool s.o, .bool s.sp, .int .u64 s.n, .int .i64 s.l] 31 := by
          have := Blk.new (wr.alloc (.cells #[.bool s.o, .bool s.sp, .int .u64 s.n, .int .i64 s.l] 31)) #[.bool s.o, .bool s.sp, .int .u64 s.n, .int .i64 s.l] 31
          rw [show (wr.alloc (.cells #[.bool s.o, .bool s.sp, .int .u64 s.n, .int .i64 s.l] 31)).heap.size = wr.heap.size + 1 from by simp] at this
          exact this
        have hz := R.2.2.1.size
        have hbl1 : b < wr.heap.size := Blk.lt R.1
        obtain ⟨d0, d1, d2⟩ := R.cells hbl HZ hlt
        have hbw : bl < wr.heap.size := Nat.lt_of_lt_of_le hbl hz
        go_wp2_with fail
        clear d0 d1 d2
        have hm : b ≠ wr.heap.size + 1 := by omega
        generalize wr.heap.size + 1 = m at *
        generalize (wr.alloc _).alloc _ = W0 at *
        refine (play_any b s (X k) _ R0.1 R0.2.1 (HX.out k hlt)).mono ?_
        rintro e wa ⟨rfl, hs', ht⟩
        have R' : Run w b (s.play (X k)).1 wa := ⟨hs', Ses.play_ok s _ R0.2.1 (HX.out k hlt), R0.2.2.1.trans (ht.below R0.2.2.1.size (by intro j hj; have := R0.2.2.2; omega)), R0.2.2.2⟩
        have B1 := ht.blk B0 (by simpa using fun h => hm h.symm)
        obtain ⟨c0, c1, c2⟩ := R'.cells hbl HZ hlt
        have q0 := B1.cell 0 rfl
        have q1 := B1.cell 1 rfl
        have q2 := B1.cell 2 rfl
        have q3 := B1.cell 3 rfl
        have hm2 : m < wa.heap.size := B1.lt
        have hbw2 : bl < wa.heap.size := Nat.lt_of_lt_of_le hbl R'.2.2.1.size
        have xd := (HX.out k hlt).1.1
        have Hev := Go.Lib.hid (Ses.play_event s (X k))
        have Hhe := Go.Lib.hid (Ses.play_hello s (X k))
        have Hbe := Go.Lib.hid (Ses.play_beat s (X k))
        have Hby := Go.Lib.hid (Ses.play_bye s (X k))
        have Hno := Go.Lib.hid (Ses.play_no s (X k))
        have Hlo := Go.Lib.hid (Ses.play_low s (X k))
        clear HZ B1 ht hs' B0 R0 hm hbl1 hbw hz R
        generalize s.play (X k) = pr at *
        generalize X k = x at *
        obtain ⟨⟨o', sp', n', l'⟩, rn, c⟩ := pr
        obtain ⟨d, q, at'⟩ := x
        obtain ⟨o, sp, n, l⟩ := s
        simp only at c0 c1 c2 R' q0 q1 q2 q3 xd ⊢
        have HT := Go.Lib.hid R'
        clear R'
        have hlo : l ≤ l' := Hlo.out
        clear Hlo
        by_cases hc : c = 0
        · subst hc
          by_cases h0 : d = 0
          · subst h0
            obtain ⟨e1, e4⟩ := Hhe.out rfl rfl
            simp only [Prod.mk.injEq, and_true, Ses.mk.injEq] at e1 e4
            obtain ⟨⟨rfl, rfl, rfl, rfl⟩, rfl⟩ := e4
            subst e1
            clear Hev Hhe Hbe Hby Hno
            go_wp2_with (go_at_call 12; refine (tell_any b _ _ _ _ _ HT.out.1).mono ?_; rintro e w' ⟨rfl, rfl⟩)
            go_quiet (fail)
            go_wp2
            go_roundw
            case rel => exact ⟨k + 1, by omega, by go_num, _, ((HT.out.alloc _).alloc _).drewN _⟩
            case measure => simp [intOf]; omega
          · by_cases h1 : d = 1
            · subst h1
              obtain ⟨e1, -, -, e2, e3, e4, -, -⟩ := Hev.out rfl rfl
              simp only at e1 e2 e3 e4
              subst e1 e4
              clear e3 e2 h0
              clear Hev Hhe Hbe Hby Hno
              go_wp2_with (go_at_call 12; refine (tell_any b _ _ _ _ _ HT.out.1).mono ?_; rintro e w' ⟨rfl, rfl⟩)
              go_quiet (fail)
              go_wp2
              go_roundw
              case rel => exact ⟨k + 1, by omega, by go_num, _, ((HT.out.alloc _).alloc _).drewN _⟩
              case measure => simp [intOf]; omega
            · have b1 : (d == 0) = false := by simpa using h0
              by_cases h2 : d = 2
              · subst h2
                obtain ⟨e1, e4⟩ := Hbe.out rfl rfl
                simp only [Prod.mk.injEq, and_true, Ses.mk.injEq] at e1 e4
                obtain ⟨⟨rfl, -, -, -⟩, -⟩ := e4
                subst e1
                clear h0 h1
                clear Hev Hhe Hbe Hby Hno
                go_wp2_with (go_at_call 12; refine (tell_any b _ _ _ _ _ HT.out.1).mono ?_; rintro e w' ⟨rfl, rfl⟩)
                go_quiet (fail)
                go_wp2
                go_roundw
                case rel => exact ⟨k + 1, by omega, by go_num, _, ((HT.out.alloc _).alloc _).drewN _⟩
                case measure => simp [intOf]; omega
              · obtain ⟨e1, e4⟩ := Hby.out ⟨h0, h1, h2⟩ rfl
                simp only [Prod.mk.injEq, and_true, Ses.mk.injEq] at e1 e4
                obtain ⟨⟨rfl, -, -, -⟩, -⟩ := e4
                subst e1
                have b3 : ¬ d < 3 := by omega
                clear h0 h1 h2
                clear Hev Hhe Hbe Hby Hno
                go_wp2_with (go_at_call 12; refine (tell_any b _ _ _ _ _ HT.out.1).mono ?_; rintro e w' ⟨rfl, rfl⟩)
                go_quiet (fail)
                go_wp2
                go_roundw
                case rel => exact ⟨k + 1, by omega, by go_num, _, ((HT.out.alloc _).alloc _).drewN _⟩
                case measure => simp [intOf]; omega
        · have b1 : (c != 0) = true := by simpa using hc
          obtain ⟨e1, e2, e3⟩ := Hno.out hc
          simp only [Prod.mk.injEq, and_true, Ses.mk.injEq] at e1 e2 e3
          obtain ⟨⟨rfl, rfl, rfl, rfl⟩, -⟩ := e1
          by_cases h0 : d = 0
          · subst h0
            have := e2 rfl
            subst this
            clear e2 e3 hc
            clear Hev Hhe Hbe Hby Hno
            go_wp2_with (go_at_call 12; refine (tell_any b _ _ _ _ _ HT.out.1).mono ?_; rintro e w' ⟨rfl, rfl⟩)
            go_roundw
            case rel => exact ⟨k + 1, by omega, by go_num, _, (HT.out.alloc _).alloc _⟩
            case measure => simp [intOf]; omega
          · have b2 : (d == 0) = false := by simpa using h0
            by_cases h1 : d = 1
            · subst h1
              clear e2 e3 hc h0
              clear Hev Hhe Hbe Hby Hno
              go_wp2_with (go_at_call 12; refine (tell_any b _ _ _ _ _ HT.out.1).mono ?_; rintro e w' ⟨rfl, rfl⟩)
              go_roundw
              case rel => exact ⟨k + 1, by omega, by go_num, _, (HT.out.alloc _).alloc _⟩
              case measure => simp [intOf]; omega
            · have := e3 h0 h1
              subst this
              have b3 : 1 < d := by omega
              clear e2 e3 hc h0 h1
              clear Hev Hhe Hbe Hby Hno
              go_wp2_with (go_at_call 12; refine (tell_any b _ _ _ _ _ HT.out.1).mono ?_; rintro e w' ⟨rfl, rfl⟩)
              go_roundw
              case rel => exact ⟨k + 1, by omega, by go_num, _, (HT.out.alloc _).alloc _⟩
              case measure => simp [intOf]; omega
      · go_wp2
        go_ret
        exact ⟨rfl, R.2.2.1⟩

section
open Go.ChangeShapes Go.WideShapes Go.ChangeAt
theorem sessionStays_run {H : Type} {enc : TypeId × Value → H} (W : World) (v0 : Value) (d0 : DataW H) (p0 : List MemPlace)
    (k0 : Value.okWide Try.prog W .any 0 34 v0) (h0 : DataW.Trod enc Try.prog W 0 (fun _ => true) true 34 v0 d0 p0) :
    Calls Try.prog 7 #[v0] W fun e w' => e = .returned (.bool true) ∧ Below W.heap.size W w' := by
  obtain ⟨a, len, cap, X, rfl, _, hX, hc⟩ := open_acts k0 h0
  exact stays_walk a len cap X W hX hc

theorem sessionStays_own : ownKnob Try.prog.godebug = none := by kernel_rfl
theorem sessionStays_laidOut : laidOutB Try.prog = true := by kernel_rfl

set_option maxRecDepth 100000 in
theorem sessionStays_lifted (os : Os) (started : os.Started) (H : Type) (enc : TypeId × Value → H) :
    ReturnsInHanded {} Try.checked os 7 .any (Rows.sessionStaysSpec.pre6 enc Try.prog Try.f7 Rows.sessionStaysRow.domain false) (Rows.sessionStaysSpec.post enc Try.prog Try.f7 false true false false) := by
  refine returnsInHanded_of_change (C := Try.checked) sessionStays_own started (by kernel_rfl) Try.func7
    (ChangeSpec.witness6 (enc := enc) (C := Try.checked) false ⟨#[], #[.slice none 0 0], []⟩ 8 (by kernel_rfl) (by kernel_rfl) (by kernel_rfl) (by kernel_rfl)) ?_
  intro W base args ds gs before hval0 hW hcnd _
  have hval : ∀ (j : Nat) t v, Try.f7.params[j]? = some t → args[j]? = some v → Value.okWide Try.prog W .any base t v := hval0
  have hW' := hW
  obtain ⟨p, q, hA0, hV, rfl, hfz, hnd⟩ := hW
  have hA : DataW.TrodAll enc Try.prog W 0 (fun _ => true) true Try.f7.params.toList args.toList ds p := hA0
  rw [Try.params7] at hA hval
  obtain ⟨v0, vs0, d0, ds0, p0, q0, hargs, rfl, rfl, h0, r0⟩ := trodAll_cons hA
  obtain ⟨rfl, rfl, rfl⟩ := trodAll_nil r0
  obtain rfl : args = #[v0] := by cases args; simp_all
  obtain ⟨rfl, rfl⟩ := trodVars_none hV
  have lt0 : ∀ x ∈ p0, x.block < W.heap.size := by obtain ⟨m, hm⟩ := h0; exact DataW.trod_lt m _ _ _ hm
  clear hA0
  refine (sessionStays_run W v0 d0 p0 (hval 0 34 v0 rfl rfl) h0).mono fun e W' ⟨he, bel⟩ => ?_
  subst he
  exact ⟨_, rfl, _, _, _, [], _, [], hW', trodAll_mk1 (shut_bool Try.underlying4 _), (trodAll_cons_mk (Below.trod sessionStays_laidOut (by kernel_rfl) (of_decide_eq_true (by kernel_rfl)) h0 bel lt0) trodAll_mk0), rfl, bel.frame _, fun h => by cases h⟩

/-- The given statement. -/
theorem sessionStays_holds : Rows.SessionStaysSaid :=
  OpenClaim.holds_of_wide 7 Try.f7 rfl rfl rfl rfl rfl rfl rfl ⟨rfl, rfl, rfl, rfl, rfl⟩ rfl rfl rfl rfl rfl (by kernel_rfl) Try.func7 (by kernel_rfl)
    (of_decide_eq_true (by kernel_rfl)) (by unfold Func.isWrapper; first | (rw [if_pos (by decide +kernel)]; kernel_rfl) | (rw [if_neg (by decide +kernel)]; exact ⟨rfl, rfl⟩))
    (fun os started H enc _ => sessionStays_lifted os started H enc)
#print axioms sessionStays_holds

end
end Go.Proofs.Ytfaicdhkgicnkaa
