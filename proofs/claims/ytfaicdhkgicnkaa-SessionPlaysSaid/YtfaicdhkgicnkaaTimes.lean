/- SessionTimes: for every input the law returns true and its argument reads as before. No condition. -/
import Derived.Test.YtfaicdhkgicnkaaActs
namespace Go.Proofs.Ytfaicdhkgicnkaa
open Go.RowKit Go.Lo

/-- What is known of a loop over acts: the session stands somehow, and what lay there lies there. -/
def Run (w0 : World) (b : Nat) (s : Ses) (w : World) : Prop := IsSes w b s ∧ s.Ok ∧ Below w0.heap.size w0 w ∧ w0.heap.size ≤ b

theorem Run.cells {w0 w : World} {b : Nat} {s : Ses} (h : Run w0 b s w) {bl off k len : Nat} {X : Nat → Act} (hb : bl < w0.heap.size)
    (hX : Go.RowKit.Hid (∀ i, i < len →
    w0.cell? ⟨bl, off + i * 3, none⟩ = some (.int .u8 (X i).d) ∧ w0.cell? ⟨bl, off + i * 3 + 1, none⟩ = some (.int .u64 (X i).q) ∧ w0.cell? ⟨bl, off + i * 3 + 2, none⟩ = some (.int .i64 (X i).a))) (hk : k < len) :
    w.cell? ⟨bl, off + k * 3, none⟩ = some (.int .u8 (X k).d) ∧ w.cell? ⟨bl, off + k * 3 + 1, none⟩ = some (.int .u64 (X k).q) ∧ w.cell? ⟨bl, off + k * 3 + 2, none⟩ = some (.int .i64 (X k).a) := by
  obtain ⟨h0, h1, h2⟩ := hX.out k hk
  have hB := h.2.2.1
  exact ⟨(hB.cell (p := ⟨bl, off + k * 3, none⟩) hb).trans h0, (hB.cell (p := ⟨bl, off + k * 3 + 1, none⟩) hb).trans h1, (hB.cell (p := ⟨bl, off + k * 3 + 2, none⟩) hb).trans h2⟩

theorem Run.play {w0 w : World} {b : Nat} {s : Ses} (h : Run w0 b s w) (x : Act) (hx : x.Ok) :
    Calls Try.prog 14 #[.pointer (some ⟨b, 0, none⟩), .agg #[.int .u8 x.d, .int .u64 x.q, .int .i64 x.a]] w fun e w' => e = .returned (.tuple #[.int .u64 (s.play x).2.1, .int .i64 (s.play x).2.2]) ∧ Run w0 b (s.play x).1 w' := by
  obtain ⟨hs, ok, hB, hb⟩ := h
  refine (play_any b s x w hs ok hx).mono ?_
  rintro e w' ⟨rfl, hs', ht⟩
  exact ⟨rfl, hs', Ses.play_ok s x ok hx, hB.trans (ht.below hB.size (by intro k hk; omega)), hb⟩

theorem Run.start (w w1 : World) (h : Quiet w w1) : Run w w1.heap.size Ses.fresh (w1.alloc (.cells #[.bool false, .bool false, .int .u64 0, .int .i64 (-1)] 50)) := by
  refine ⟨Blk.new _ _ _, ok_of _ _ _ _ (by omega), ?_, h.size⟩
  exact ((h.alloc _).below (Nat.le_refl _) (by simp))

def TimesRel (w0 : World) (b : Nat) (last promise : Int) (w : World) : Prop := ∃ s : Ses, Run w0 b s w ∧ -1 ≤ s.l ∧ promise ≤ s.l ∧ last ≤ s.l + 1

set_option maxHeartbeats 1000000 in
theorem times_walk (a : Option Addr) (len cap : Nat) (X : Nat → Act) (w : World) (hX : ∀ i, i < len → (X i).Ok) (hc : ActsAt w a len X) :
    Calls Try.prog 5 #[.slice a len cap] w fun e w' => e = .returned (.bool true) ∧ Below w.heap.size w w' := by
  by_cases hl : 200 < len
  · go_enter Try.func5, Try.ntmps5
    go_wp2_with (go_at_call 8; refine (awake_any _).mono ?_; rintro e w' ⟨rfl, ht⟩)
    go_ret
    exact ⟨rfl, ht.below (Nat.le_refl _) (by simp)⟩
  · have HC := Go.Lib.hid hc
    have HX := Go.Lib.hid hX
    clear hc hX
    go_enter Try.func5, Try.ntmps5
    go_wp2_with (go_at_call 8; refine (awake_any _).mono ?_; rintro e w1 ⟨rfl, ht1⟩)
    refine (new_any _).mono ?_
    rintro e w2 ⟨rfl, rfl⟩
    have R0 : TimesRel w w1.heap.size (-1) (-1) _ := ⟨_, Run.start w w1 ht1, by simp [Ses.fresh], by simp [Ses.fresh], by simp [Ses.fresh]⟩
    generalize w1.alloc _ = w2 at *
    generalize w1.heap.size = b at *
    clear ht1
    go_wp2_with fail
    go_loopw [5, 6, 7] (fun la pr i wr => ∃ (k : Nat) (last promise : Int), k ≤ len ∧ i = .int .i64 k ∧ la = .int .i64 last ∧ pr = .int .i64 promise ∧ TimesRel w b last promise wr) (fun _ _ i _ => len - (intOf i).toNat)
    case atStart => exact ⟨0, _, _, Nat.zero_le _, rfl, rfl, rfl, R0⟩
    case round =>
      clear R0
      obtain ⟨k, last, promise, hk, rfl, rfl, rfl, s, R, l1, l2, l3⟩ := hrel
      by_cases hlt : k < len
      · obtain ⟨bl, off, rfl, hbl, hz⟩ := HC.out (by omega)
        have HZ := Go.Lib.hid hz
        clear hz
        obtain ⟨c0, c1, c2⟩ := R.cells hbl HZ hlt
        go_wp2_with fail
        refine (R.play (X k) (HX.out k hlt)).mono ?_
        rintro e wa ⟨rfl, R'⟩
        clear c0 c1 c2
        obtain ⟨c0, c1, c2⟩ := R'.cells hbl HZ hlt
        have hlow := Ses.play_low s (X k)
        have HE := Go.Lib.hid (Ses.play_event s (X k))
        have HB := Go.Lib.hid (Ses.play_beat s (X k))
        clear HZ
        generalize s.play (X k) = pr at *
        generalize X k = x at *
        obtain ⟨s', rn, c⟩ := pr
        obtain ⟨d, q, at'⟩ := x
        simp only at c0 c1 c2 R' hlow ⊢
        by_cases hc : c = 0
        · subst hc
          by_cases h1 : d = 1
          · subst h1
            obtain ⟨_, _, _, e4, e5, _⟩ := HE.out rfl rfl
            simp only at e4 e5
            have R1 : TimesRel w b at' promise wa := ⟨s', R', by omega, by omega, by omega⟩
            have b1 : ¬ at' < last := by omega
            have b2 : ¬ at' ≤ promise := by omega
            have b3 : ¬ at' < 0 := by omega
            clear e5 e4 hlow R' R l1 l2 l3
            go_wp2
            go_roundw
            case rel => exact ⟨k + 1, _, _, by omega, by go_num, rfl, rfl, R1⟩
            case measure => simp [intOf]; omega
          · by_cases h2 : d = 2
            · subst h2
              obtain ⟨_, e4⟩ := HB.out rfl rfl
              simp only [Prod.mk.injEq, and_true] at e4
              have e5 : s'.l = if s.l < at' then at' else s.l := by rw [e4.1]
              have hb1 : at' ≤ s'.l := by rw [e5]; split <;> omega
              have R1 : ∀ x, x = promise ∨ x = at' → TimesRel w b last x wa := fun x hx => ⟨s', R', by omega, by rcases hx with rfl | rfl <;> omega, by omega⟩
              have HR := Go.Lib.hid R1
              clear e5 e4 hlow R' R l1 l2 l3 R1 hb1
              by_cases hu : promise < at'
              · go_wp2
                go_roundw
                case rel => exact ⟨k + 1, _, _, by omega, by go_num, rfl, rfl, HR.out _ (.inr rfl)⟩
                case measure => simp [intOf]; omega
              · go_wp2
                go_roundw
                case rel => exact ⟨k + 1, _, _, by omega, by go_num, rfl, rfl, HR.out _ (.inl rfl)⟩
                case measure => simp [intOf]; omega
            · have b1 : (d == 1) = false := by simpa using h1
              have b2 : (d == 2) = false := by simpa using h2
              have R1 : TimesRel w b last promise wa := ⟨s', R', by omega, by omega, by omega⟩
              clear hlow R' R l1 l2 l3 h1 h2
              go_wp2
              go_roundw
              case rel => exact ⟨k + 1, _, _, by omega, by go_num, rfl, rfl, R1⟩
              case measure => simp [intOf]; omega
        · have b1 : (c != 0) = true := by simpa using hc
          have R1 : TimesRel w b last promise wa := ⟨s', R', by omega, by omega, by omega⟩
          clear hlow R' R l1 l2 l3 hc
          go_wp2
          go_roundw
          case rel => exact ⟨k + 1, _, _, by omega, by go_num, rfl, rfl, R1⟩
          case measure => simp [intOf]; omega
      · go_wp2
        go_ret
        exact ⟨rfl, R.2.2.1⟩

section
open Go.ChangeShapes Go.WideShapes Go.ChangeAt
theorem sessionTimes_run {H : Type} {enc : TypeId × Value → H} (W : World) (v0 : Value) (d0 : DataW H) (p0 : List MemPlace)
    (k0 : Value.okWide Try.prog W .any 0 34 v0) (h0 : DataW.Trod enc Try.prog W 0 (fun _ => true) true 34 v0 d0 p0) :
    Calls Try.prog 5 #[v0] W fun e w' => e = .returned (.bool true) ∧ Below W.heap.size W w' := by
  obtain ⟨a, len, cap, X, rfl, _, hX, hc⟩ := open_acts k0 h0
  exact times_walk a len cap X W hX hc

theorem sessionTimes_own : ownKnob Try.prog.godebug = none := by kernel_rfl
theorem sessionTimes_laidOut : laidOutB Try.prog = true := by kernel_rfl

set_option maxRecDepth 100000 in
theorem sessionTimes_lifted (os : Os) (started : os.Started) (H : Type) (enc : TypeId × Value → H) :
    ReturnsInHanded {} Try.checked os 5 .any (Rows.sessionTimesSpec.pre6 enc Try.prog Try.f5 Rows.sessionTimesRow.domain false) (Rows.sessionTimesSpec.post enc Try.prog Try.f5 false true false false) := by
  refine returnsInHanded_of_change (C := Try.checked) sessionTimes_own started (by kernel_rfl) Try.func5
    (ChangeSpec.witness6 (enc := enc) (C := Try.checked) false ⟨#[], #[.slice none 0 0], []⟩ 8 (by kernel_rfl) (by kernel_rfl) (by kernel_rfl) (by kernel_rfl)) ?_
  intro W base args ds gs before hval0 hW hcnd _
  have hval : ∀ (j : Nat) t v, Try.f5.params[j]? = some t → args[j]? = some v → Value.okWide Try.prog W .any base t v := hval0
  have hW' := hW
  obtain ⟨p, q, hA0, hV, rfl, hfz, hnd⟩ := hW
  have hA : DataW.TrodAll enc Try.prog W 0 (fun _ => true) true Try.f5.params.toList args.toList ds p := hA0
  rw [Try.params5] at hA hval
  obtain ⟨v0, vs0, d0, ds0, p0, q0, hargs, rfl, rfl, h0, r0⟩ := trodAll_cons hA
  obtain ⟨rfl, rfl, rfl⟩ := trodAll_nil r0
  obtain rfl : args = #[v0] := by cases args; simp_all
  obtain ⟨rfl, rfl⟩ := trodVars_none hV
  have lt0 : ∀ x ∈ p0, x.block < W.heap.size := by obtain ⟨m, hm⟩ := h0; exact DataW.trod_lt m _ _ _ hm
  clear hA0
  refine (sessionTimes_run W v0 d0 p0 (hval 0 34 v0 rfl rfl) h0).mono fun e W' ⟨he, bel⟩ => ?_
  subst he
  exact ⟨_, rfl, _, _, _, [], _, [], hW', trodAll_mk1 (shut_bool Try.underlying4 _), (trodAll_cons_mk (Below.trod sessionTimes_laidOut (by kernel_rfl) (of_decide_eq_true (by kernel_rfl)) h0 bel lt0) trodAll_mk0), rfl, bel.frame _, fun h => by cases h⟩

/-- The given statement. -/
theorem sessionTimes_holds : Rows.SessionTimesSaid :=
  OpenClaim.holds_of_wide 5 Try.f5 rfl rfl rfl rfl rfl rfl rfl ⟨rfl, rfl, rfl, rfl, rfl⟩ rfl rfl rfl rfl rfl (by kernel_rfl) Try.func5 (by kernel_rfl)
    (of_decide_eq_true (by kernel_rfl)) (by unfold Func.isWrapper; first | (rw [if_pos (by decide +kernel)]; kernel_rfl) | (rw [if_neg (by decide +kernel)]; exact ⟨rfl, rfl⟩))
    (fun os started H enc _ => sessionTimes_lifted os started H enc)
#print axioms sessionTimes_holds

end
end Go.Proofs.Ytfaicdhkgicnkaa
