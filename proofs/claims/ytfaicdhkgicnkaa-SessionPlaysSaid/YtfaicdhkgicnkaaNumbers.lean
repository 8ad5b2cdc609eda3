/- SessionNumbers: for every input the law returns true and its argument reads as before. No condition. -/
import Derived.Test.YtfaicdhkgicnkaaTimes
namespace Go.Proofs.Ytfaicdhkgicnkaa
open Go.RowKit Go.Lo

def NumRel (w0 : World) (b : Nat) (next : Int) (spent : Bool) (w : World) : Prop := ∃ s : Ses, Run w0 b s w ∧ s.sp = spent ∧ (spent = false → s.n = next)

/-- What Tell tells in the loop. -/
theorem Run.tell {w0 w : World} {b : Nat} {s : Ses} (h : Run w0 b s w) :
    Calls Try.prog 12 #[.pointer (some ⟨b, 0, none⟩)] w fun e w' => e = .returned (.agg #[.bool s.o, .bool s.sp, .int .u64 s.n, .int .i64 s.l]) ∧ w' = w.alloc (.cells #[.bool s.o, .bool s.sp, .int .u64 s.n, .int .i64 s.l] 31) :=
  tell_any b s.o s.sp s.n s.l w h.1

theorem Run.alloc {w0 w : World} {b : Nat} {s : Ses} (h : Run w0 b s w) (o : Obj) : Run w0 b s (w.alloc o) :=
  ⟨Blk.alloc h.1 o, h.2.1, h.2.2.1.alloc h.2.2.1.size o, h.2.2.2⟩

set_option maxRecDepth 100000 in
set_option maxHeartbeats 1000000 in
theorem numbers_walk (a : Option Addr) (len cap : Nat) (X : Nat → Act) (w : World) (hX : ∀ i, i < len → (X i).Ok) (hc : ActsAt w a len X) :
    Calls Try.prog 6 #[.slice a len cap] w fun e w' => e = .returned (.bool true) ∧ Below w.heap.size w w' := by
  by_cases hl : 200 < len
  · go_enter Try.func6, Try.ntmps6
    go_wp2_with (go_at_call 8; refine (awake_any _).mono ?_; rintro e w' ⟨rfl, ht⟩)
    go_ret
    exact ⟨rfl, ht.below (Nat.le_refl _) (by simp)⟩
  · have HC := Go.Lib.hid hc
    have HX := Go.Lib.hid hX
    clear hc hX
    go_enter Try.func6, Try.ntmps6
    go_wp2_with (go_at_call 8; refine (awake_any _).mono ?_; rintro e w1 ⟨rfl, ht1⟩)
    refine (new_any _).mono ?_
    rintro e w2 ⟨rfl, rfl⟩
    have R0 : NumRel w w1.heap.size 0 false _ := ⟨_, Run.start w w1 ht1, rfl, fun _ => rfl⟩
    generalize w1.alloc _ = w2 at *
    generalize w1.heap.size = b at *
    clear ht1
    go_wp2_with fail
    go_loopw [5, 6, 7] (fun ne sp i wr => ∃ (k : Nat) (next : Int) (spent : Bool), k ≤ len ∧ i = .int .i64 k ∧ ne = .int .u64 next ∧ sp = .bool spent ∧ NumRel w b next spent wr) (fun _ _ i _ => len - (intOf i).toNat)
    case atStart => exact ⟨0, _, _, Nat.zero_le _, rfl, rfl, rfl, R0⟩
    case round =>
      clear R0
      obtain ⟨k, next, spent, hk, rfl, rfl, rfl, s, R, l1, l2⟩ := hrel
      by_cases hlt : k < len
      · obtain ⟨bl, off, rfl, hbl, hz⟩ := HC.out (by omega)
        have HZ := Go.Lib.hid hz
        clear hz
        obtain ⟨c0, c1, c2⟩ := R.cells hbl HZ hlt
        go_wp2_with fail
        refine (R.play (X k) (HX.out k hlt)).mono ?_
        rintro e wa ⟨rfl, R'⟩
        clear c0 c1 c2
        obtain ⟨c0, c1, c2⟩ := R'.cells hbl HZ hlt
        have HE := Go.Lib.hid (Ses.play_event s (X k))
        have HH := Go.Lib.hid (Ses.play_hello s (X k))
        have HB := Go.Lib.hid (Ses.play_beat s (X k))
        have HY := Go.Lib.hid (Ses.play_bye s (X k))
        have HN := Go.Lib.hid (Ses.play_bad s (X k))
        have xo := (HX.out k hlt).2.1
        have HL1 := Go.Lib.hid l1
        have HL2 := Go.Lib.hid l2
        have ho := R.2.1.1
        clear HZ R l1 l2
        have hbw : bl < wa.heap.size := Nat.lt_of_lt_of_le hbl R'.2.2.1.size
        generalize s.play (X k) = pr at *
        generalize X k = x at *
        obtain ⟨s', rn, c⟩ := pr
        obtain ⟨d, q, at'⟩ := x
        simp only at c0 c1 c2 R' xo ⊢
        obtain ⟨xq1, xq2⟩ := xo
        by_cases hc : c = 0
        · subst hc
          by_cases h0 : d = 0
          · subst h0
            obtain ⟨_, e4⟩ := HH.out rfl rfl
            simp only [Prod.mk.injEq, and_true] at e4
            obtain ⟨rfl, rfl⟩ := e4
            have R1 : ∀ o o', NumRel w b q false ((wa.alloc o).alloc o') := fun o o' => ⟨_, (R'.alloc o).alloc o', rfl, fun _ => rfl⟩
            have HR := Go.Lib.hid R1
            have HT := Go.Lib.hid R'
            clear R1 R'
            go_wp2_with (go_at_call 12; refine (tell_any b _ _ _ _ _ HT.out.1).mono ?_; rintro e w' ⟨rfl, rfl⟩)
            go_roundw
            case rel => exact ⟨k + 1, _, _, by omega, by go_num, rfl, rfl, HR.out _ _⟩
            case measure => simp [intOf]; omega
          · by_cases h1 : d = 1
            · subst h1
              obtain ⟨-, e2, e3, -, -, -, e7, e8⟩ := HE.out rfl rfl
              simp only at e3 e7 e8
              obtain rfl : s.sp = spent := HL1.out
              rw [e2] at HL2 ⊢
              have e6 := HL2.out rfl
              have g0 : 0 ≤ next := by omega
              have g1 : next ≤ q := by omega
              have g2 : rn = q - next := by rw [e7, e6]
              clear e7 e6 e3 HL1 HL2 e2 ho
              subst g2
              obtain ⟨o', sp', n', l'⟩ := s'
              simp only at e8
              by_cases hm : q = 18446744073709551615
              · have hsp : sp' = true := by
                  rcases e8 with h | h
                  · exact h.2
                  · exact absurd hm h.1
                subst hsp
                have R1 : ∀ o o', NumRel w b 0 true ((wa.alloc o).alloc o') := fun o o' => ⟨_, (R'.alloc o).alloc o', rfl, fun h => by simp at h⟩
                have hw : IntKind.u64.wrap (q + 1) = 0 := by rw [hm]; rfl
                have HW := Go.Lib.hid hm
                clear e8 hm
                have HR := Go.Lib.hid R1
                have HT := Go.Lib.hid R'
                clear R1 R'
                go_wp2_with (go_at_call 12; refine (tell_any b _ _ _ _ _ HT.out.1).mono ?_; rintro e w' ⟨rfl, rfl⟩)
                go_roundw
                case rel => exact ⟨k + 1, _, _, by omega, by go_num, rfl, rfl, HR.out _ _⟩
                case measure => simp [intOf]; omega
              · obtain ⟨-, rfl, rfl⟩ : q ≠ 18446744073709551615 ∧ sp' = false ∧ n' = q + 1 := by
                  rcases e8 with h | h
                  · exact absurd h.1 hm
                  · exact h
                have R1 : ∀ o o', NumRel w b (q + 1) false ((wa.alloc o).alloc o') := fun o o' => ⟨_, (R'.alloc o).alloc o', rfl, fun _ => rfl⟩
                have hq : q ≤ 18446744073709551614 := by omega
                have hz : (q + 1 == 0) = false := by simp; omega
                clear e8 hm
                have HR := Go.Lib.hid R1
                have HT := Go.Lib.hid R'
                clear R1 R'
                go_wp2_with (go_at_call 12; refine (tell_any b _ _ _ _ _ HT.out.1).mono ?_; rintro e w' ⟨rfl, rfl⟩)
                go_roundw
                case rel => exact ⟨k + 1, _, _, by omega, by go_num, rfl, rfl, HR.out _ _⟩
                case measure => simp [intOf]; omega
            · have b1 : (d == 0) = false := by simpa using h0
              have b2 : (d == 1) = false := by simpa using h1
              have e4 : s'.sp = s.sp ∧ s'.n = s.n := by
                by_cases h2 : d = 2
                · obtain ⟨_, e4⟩ := HB.out h2 rfl
                  simp only [Prod.mk.injEq] at e4
                  rw [e4.1]
                  exact ⟨rfl, rfl⟩
                · obtain ⟨_, e4⟩ := HY.out ⟨h0, h1, h2⟩ rfl
                  simp only [Prod.mk.injEq] at e4
                  rw [e4.1]
                  exact ⟨rfl, rfl⟩
              obtain ⟨o', sp', n', l'⟩ := s'
              simp only at e4
              have g1 : sp' = spent := e4.1.trans HL1.out
              have g2 : spent = false → n' = next := fun h => e4.2.trans (HL2.out h)
              clear e4 h0 h1 HL1 HL2 HB HY HE HH HN
              subst g1
              have R1 : ∀ o o', NumRel w b next sp' ((wa.alloc o).alloc o') := fun o o' => ⟨_, (R'.alloc o).alloc o', rfl, g2⟩
              have HR := Go.Lib.hid R1
              have HT := Go.Lib.hid R'
              clear R1 R'
              cases sp'
              · obtain rfl := g2 rfl
                go_wp2_with (go_at_call 12; refine (tell_any b _ _ _ _ _ HT.out.1).mono ?_; rintro e w' ⟨rfl, rfl⟩)
                go_roundw
                case rel => exact ⟨k + 1, _, _, by omega, by go_num, rfl, rfl, HR.out _ _⟩
                case measure => simp [intOf]; omega
              · clear g2
                go_wp2_with (go_at_call 12; refine (tell_any b _ _ _ _ _ HT.out.1).mono ?_; rintro e w' ⟨rfl, rfl⟩)
                go_roundw
                case rel => exact ⟨k + 1, _, _, by omega, by go_num, rfl, rfl, HR.out _ _⟩
                case measure => simp [intOf]; omega
        · have b1 : (c != 0) = true := by simpa using hc
          obtain ⟨rfl, rfl⟩ := HN.out hc
          have R1 : NumRel w b next spent wa := ⟨_, R', HL1.out, HL2.out⟩
          clear hc HL1 HL2 HE HH HB HY HN R'
          go_wp2
          go_roundw
          case rel => exact ⟨k + 1, _, _, by omega, by go_num, rfl, rfl, R1⟩
          case measure => simp [intOf]; omega
      · go_wp2
        go_ret
        exact ⟨rfl, R.2.2.1⟩

section
open Go.ChangeShapes Go.WideShapes Go.ChangeAt
theorem sessionNumbers_run {H : Type} {enc : TypeId × Value → H} (W : World) (v0 : Value) (d0 : DataW H) (p0 : List MemPlace)
    (k0 : Value.okWide Try.prog W .any 0 34 v0) (h0 : DataW.Trod enc Try.prog W 0 (fun _ => true) true 34 v0 d0 p0) :
    Calls Try.prog 6 #[v0] W fun e w' => e = .returned (.bool true) ∧ Below W.heap.size W w' := by
  obtain ⟨a, len, cap, X, rfl, _, hX, hc⟩ := open_acts k0 h0
  exact numbers_walk a len cap X W hX hc

theorem sessionNumbers_own : ownKnob Try.prog.godebug = none := by kernel_rfl
theorem sessionNumbers_laidOut : laidOutB Try.prog = true := by kernel_rfl

set_option maxRecDepth 100000 in
theorem sessionNumbers_lifted (os : Os) (started : os.Started) (H : Type) (enc : TypeId × Value → H) :
    ReturnsInHanded {} Try.checked os 6 .any (Rows.sessionNumbersSpec.pre6 enc Try.prog Try.f6 Rows.sessionNumbersRow.domain false) (Rows.sessionNumbersSpec.post enc Try.prog Try.f6 false true false false) := by
  refine returnsInHanded_of_change (C := Try.checked) sessionNumbers_own started (by kernel_rfl) Try.func6
    (ChangeSpec.witness6 (enc := enc) (C := Try.checked) false ⟨#[], #[.slice none 0 0], []⟩ 8 (by kernel_rfl) (by kernel_rfl) (by kernel_rfl) (by kernel_rfl)) ?_
  intro W base args ds gs before hval0 hW hcnd _
  have hval : ∀ (j : Nat) t v, Try.f6.params[j]? = some t → args[j]? = some v → Value.okWide Try.prog W .any base t v := hval0
  have hW' := hW
  obtain ⟨p, q, hA0, hV, rfl, hfz, hnd⟩ := hW
  have hA : DataW.TrodAll enc Try.prog W 0 (fun _ => true) true Try.f6.params.toList args.toList ds p := hA0
  rw [Try.params6] at hA hval
  obtain ⟨v0, vs0, d0, ds0, p0, q0, hargs, rfl, rfl, h0, r0⟩ := trodAll_cons hA
  obtain ⟨rfl, rfl, rfl⟩ := trodAll_nil r0
  obtain rfl : args = #[v0] := by cases args; simp_all
  obtain ⟨rfl, rfl⟩ := trodVars_none hV
  have lt0 : ∀ x ∈ p0, x.block < W.heap.size := by obtain ⟨m, hm⟩ := h0; exact DataW.trod_lt m _ _ _ hm
  clear hA0
  refine (sessionNumbers_run W v0 d0 p0 (hval 0 34 v0 rfl rfl) h0).mono fun e W' ⟨he, bel⟩ => ?_
  subst he
  exact ⟨_, rfl, _, _, _, [], _, [], hW', trodAll_mk1 (shut_bool Try.underlying4 _), (trodAll_cons_mk (Below.trod sessionNumbers_laidOut (by kernel_rfl) (of_decide_eq_true (by kernel_rfl)) h0 bel lt0) trodAll_mk0), rfl, bel.frame _, fun h => by cases h⟩

/-- The given statement. -/
theorem sessionNumbers_holds : Rows.SessionNumbersSaid :=
  OpenClaim.holds_of_wide 6 Try.f6 rfl rfl rfl rfl rfl rfl rfl ⟨rfl, rfl, rfl, rfl, rfl⟩ rfl rfl rfl rfl rfl (by kernel_rfl) Try.func6 (by kernel_rfl)
    (of_decide_eq_true (by kernel_rfl)) (by unfold Func.isWrapper; first | (rw [if_pos (by decide +kernel)]; kernel_rfl) | (rw [if_neg (by decide +kernel)]; exact ⟨rfl, rfl⟩))
    (fun os started H enc _ => sessionNumbers_lifted os started H enc)
#print axioms sessionNumbers_holds

end
end Go.Proofs.Ytfaicdhkgicnkaa
