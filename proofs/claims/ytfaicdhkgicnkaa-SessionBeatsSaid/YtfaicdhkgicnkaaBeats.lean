/- SessionBeats: for every input the law returns true and its arguments read as before. No condition. -/
import Derived.Test.YtfaicdhkgicnkaaPlay
import Derived.Test.YtfaicdhkgicnkaaOpen
namespace Go.Proofs.Ytfaicdhkgicnkaa
open Go.RowKit Go.Lo

/-- The later of two. -/
def up (x y : Int) : Int := if x < y then y else x
/-- The greatest of -1 and the first n of f. -/
def gt (f : Nat → Int) : Nat → Int
  | 0 => -1
  | n + 1 => up (gt f n) (f n)
/-- .. and of f's first one, each time. -/
def gt0 (f : Nat → Int) (z : Int) : Nat → Int
  | 0 => -1
  | n + 1 => up (up (gt0 f z n) (f n)) z

theorem up_l (x y : Int) : x ≤ up x y := by unfold up; split <;> omega
theorem up_r (x y : Int) : y ≤ up x y := by unfold up; split <;> omega
theorem up_or (x y : Int) : up x y = x ∨ up x y = y := by unfold up; split <;> simp

theorem gt_low (f : Nat → Int) (n : Nat) : -1 ≤ gt f n := by
  induction n with
  | zero => simp [gt]
  | succ n ih => have := up_l (gt f n) (f n); simp only [gt]; omega
theorem gt0_low (f : Nat → Int) (z : Int) (n : Nat) : -1 ≤ gt0 f z n := by
  induction n with
  | zero => simp [gt0]
  | succ n ih => have := up_l (gt0 f z n) (f n); have := up_l (up (gt0 f z n) (f n)) z; simp only [gt0]; omega
theorem gt_ge (f : Nat → Int) (n k : Nat) (h : k < n) : f k ≤ gt f n := by
  induction n with
  | zero => omega
  | succ n ih =>
    have a := up_l (gt f n) (f n); have b := up_r (gt f n) (f n)
    simp only [gt]
    by_cases hk : k = n
    · subst hk; exact b
    · have := ih (by omega); omega
theorem gt0_ge (f : Nat → Int) (z : Int) (n k : Nat) (h : k < n) : f k ≤ gt0 f z n := by
  induction n with
  | zero => omega
  | succ n ih =>
    have a := up_l (gt0 f z n) (f n); have b := up_r (gt0 f z n) (f n); have c := up_l (up (gt0 f z n) (f n)) z
    simp only [gt0]
    by_cases hk : k = n
    · subst hk; omega
    · have := ih (by omega); omega
theorem gt_is (f : Nat → Int) (n : Nat) : gt f n = -1 ∨ ∃ k, k < n ∧ gt f n = f k := by
  induction n with
  | zero => simp [gt]
  | succ n ih =>
    simp only [gt]
    rcases up_or (gt f n) (f n) with h | h
    · rw [h]
      rcases ih with h' | ⟨k, hk, h'⟩
      · exact .inl h'
      · exact .inr ⟨k, by omega, h'⟩
    · rw [h]; exact .inr ⟨n, by omega, rfl⟩
theorem gt0_is (f : Nat → Int) (z : Int) (n : Nat) : gt0 f z n = -1 ∨ (gt0 f z n = z ∧ 0 < n) ∨ ∃ k, k < n ∧ gt0 f z n = f k := by
  induction n with
  | zero => simp [gt0]
  | succ n ih =>
    simp only [gt0]
    rcases up_or (up (gt0 f z n) (f n)) z with h | h
    · rw [h]
      rcases up_or (gt0 f z n) (f n) with h | h
      · rw [h]
        rcases ih with h' | ⟨h', _⟩ | ⟨k, hk, h'⟩
        · exact .inl h'
        · exact .inr (.inl ⟨h', by omega⟩)
        · exact .inr (.inr ⟨k, by omega, h'⟩)
      · rw [h]; exact .inr (.inr ⟨n, by omega, rfl⟩)
    · rw [h]; exact .inr (.inl ⟨rfl, by omega⟩)

/-- In whatever order, the greatest is the same. -/
theorem gt_turn (f : Nat → Int) (n t : Nat) : gt f n = gt0 (fun k => f ((k + t) % n)) (f 0) n := by
  refine Int.le_antisymm ?_ ?_
  · rcases gt_is f n with h | ⟨k, hk, h⟩
    · rw [h]; exact gt0_low _ _ _
    · rw [h]
      have hm : ((k + (n - t % n)) % n + t) % n = k := by
        have ht : t % n < n := Nat.mod_lt _ (by omega)
        rw [Nat.mod_add_mod]
        have e : k + (n - t % n) + t = k + n * (t / n + 1) := by
          have := Nat.mod_add_div t n
          rw [Nat.mul_add, Nat.mul_one]
          omega
        rw [e, Nat.add_mul_mod_self_left, Nat.mod_eq_of_lt hk]
      have := gt0_ge (fun k => f ((k + t) % n)) (f 0) n ((k + (n - t % n)) % n) (Nat.mod_lt _ (by omega))
      simp only [hm] at this
      exact this
  · rcases gt0_is (fun k => f ((k + t) % n)) (f 0) n with h | ⟨h, hn⟩ | ⟨k, hk, h⟩
    · rw [h]; exact gt_low _ _
    · rw [h]; exact gt_ge f n 0 hn
    · rw [h]; exact gt_ge f n _ (Nat.mod_lt _ (by omega))

/-- How the loop of SessionBeats stands behind k rounds. -/
def BeatsRel (w0 : World) (b : Nat) (q : Int) (z : Nat → Int) (len t : Nat) (k : Nat) (w : World) : Prop :=
  IsSes w b ⟨true, false, q, gt z k⟩ ∧ IsSes w (b + 1) ⟨true, false, q, gt0 (fun i => z ((i + t) % len)) (z 0) k⟩ ∧ Below w0.heap.size w0 w ∧ w0.heap.size ≤ b

theorem beat_open (b : Nat) (y : Bool) (n l a : Int) (w : World) (hs : IsSes w b ⟨true, y, n, l⟩) :
    Calls Try.prog 11 #[.pointer (some ⟨b, 0, none⟩), .int .i64 a] w (Ends w b ⟨true, y, n, up l a⟩ (.int .i64 0)) := beat_to b _ _ a 0 w hs rfl

theorem field_low (x y : Bool) (n l : Int) (w : World) : Sem.run Try.prog (Instr.field 31 (.agg #[.bool x, .bool y, .int .u64 n, .int .i64 l]) 3) w = .ok (.int .i64 l) w := by kernel_rfl
theorem field_next (x y : Bool) (n l : Int) (w : World) : Sem.run Try.prog (Instr.field 31 (.agg #[.bool x, .bool y, .int .u64 n, .int .i64 l]) 2) w = .ok (.int .u64 n) w := by kernel_rfl

set_option maxHeartbeats 1000000 in
theorem beats_walk (q : Int) (a : Option Addr) (len cap t : Nat) (z : Nat → Int) (ht : t ≤ 255) (w : World)
    (hc : 0 < len → ∃ b off, a = some ⟨b, off, none⟩ ∧ b < w.heap.size ∧ ∀ i, i < len → w.cell? ⟨b, off + i, none⟩ = some (.int .i64 (z i))) :
    Calls Try.prog 3 #[.int .u64 q, .slice a len cap, .int .u8 t] w fun e w' => e = .returned (.bool true) ∧ Below w.heap.size w w' := by
  by_cases hl : 100 < len
  · go_enter Try.func3, Try.ntmps3
    go_wp2_with (go_at_call 8; refine (awake_any _).mono ?_; rintro e w' ⟨rfl, ht⟩)
    go_ret
    exact ⟨rfl, ht.below (Nat.le_refl _) (by simp)⟩
  · have HC := Go.Lib.hid hc
    clear hc
    go_enter Try.func3, Try.ntmps3
    go_wp2_with (go_at_call 8; refine (awake_any _).mono ?_; rintro e w1 ⟨rfl, ht1⟩)
    refine (new_any _).mono ?_
    rintro e w2 ⟨rfl, rfl⟩
    go_wp2_with fail
    refine (new_any _).mono ?_
    rintro e w2 ⟨rfl, rfl⟩
    have n1 : IsSes ((w1.alloc (.cells #[.bool false, .bool false, .int .u64 0, .int .i64 (-1)] 50)).alloc (.cells #[.bool false, .bool false, .int .u64 0, .int .i64 (-1)] 50)) w1.heap.size Ses.fresh := (Blk.new _ _ _).alloc _
    have n2 : IsSes ((w1.alloc (.cells #[.bool false, .bool false, .int .u64 0, .int .i64 (-1)] 50)).alloc (.cells #[.bool false, .bool false, .int .u64 0, .int .i64 (-1)] 50)) (w1.heap.size + 1) Ses.fresh := by
      have := Blk.new (w1.alloc (.cells #[.bool false, .bool false, .int .u64 0, .int .i64 (-1)] 50)) #[.bool false, .bool false, .int .u64 0, .int .i64 (-1)] 50
      rw [show (w1.alloc (.cells #[.bool false, .bool false, .int .u64 0, .int .i64 (-1)] 50)).heap.size = w1.heap.size + 1 from by simp] at this
      exact this
    go_wp2_with fail
    refine (hello_to _ Ses.fresh ⟨true, false, q, -1⟩ q 0 _ n1 rfl).mono ?_
    rintro e w2 ⟨rfl, s1, t1⟩
    have n2' := t1.blk n2 (by simp)
    go_wp2_with fail
    refine (hello_to _ Ses.fresh ⟨true, false, q, -1⟩ q 0 _ n2' rfl).mono ?_
    rintro e w3 ⟨rfl, s2, t2⟩
    have s1' := t2.blk s1 (by simp)
    have hB : Below w.heap.size w w3 := by
      have h1 : Below w.heap.size w w1 := ht1.below (Nat.le_refl _) (by simp)
      have hs := ht1.size
      have h2 := (h1.alloc hs (.cells #[.bool false, .bool false, .int .u64 0, .int .i64 (-1)] 50)).alloc (by simp; omega) (.cells #[.bool false, .bool false, .int .u64 0, .int .i64 (-1)] 50)
      have h3 := t1.below (B := w.heap.size) (by simp; omega) (by intro k hk; omega)
      have h4 := t2.below (B := w.heap.size) (by have := t1.size; simp at this; omega) (by intro k hk; omega)
      exact (h2.trans h3).trans h4
    obtain ⟨b, hb⟩ : ∃ b, b = w1.heap.size := ⟨_, rfl⟩
    rw [← hb]
    have R0 : BeatsRel w b q z len t 0 w3 := by
      subst hb
      exact ⟨s1', s2, hB, ht1.size⟩
    clear hB s1' s2 t2 n2' s1 t1 n1 n2 hb ht1
    go_wp2_with fail
    go_loopw [12, 13] (fun m i wr => ∃ k : Nat, k ≤ len ∧ i = .int .i64 k ∧ m = .int .i64 (gt z k) ∧ BeatsRel w b q z len t k wr) (fun _ i _ => len - (intOf i).toNat)
    case atStart => exact ⟨0, Nat.zero_le _, rfl, rfl, R0⟩
    case round =>
      clear R0
      obtain ⟨k, hk, rfl, rfl, s1, s2, hB, hb⟩ := hrel
      by_cases hlt : k < len
      · obtain ⟨bl, off, rfl, hbl, hz⟩ := HC.out (by omega)
        have HZ := Go.Lib.hid hz
        clear hz
        have z1 : wr.cell? ⟨bl, off + k, none⟩ = some (.int .i64 (z k)) := by rw [hB.cell hbl]; exact HZ.out k hlt
        go_wp2_with fail
        refine (beat_open b _ _ _ _ _ s1).mono ?_
        rintro e wa ⟨rfl, s1a, ta⟩
        clear z1
        have hBa : Below w.heap.size w wa := hB.trans (ta.below hB.size (by intro k hk; omega))
        have s2a := ta.blk s2 (by omega)
        have z2 : wa.cell? ⟨bl, off + (k + t) % len, none⟩ = some (.int .i64 (z ((k + t) % len))) := by rw [hBa.cell hbl]; exact HZ.out _ (Nat.mod_lt _ (by omega))
        have m1 : ((k : Int) + t) % len < len := Int.emod_lt_of_pos _ (by omega)
        have m0 : 0 ≤ ((k : Int) + t) % len := Int.emod_nonneg _ (by omega)
        go_wp2_with fail
        refine (beat_open (b + 1) _ _ _ _ _ s2a).mono ?_
        rintro e wb ⟨rfl, s2b, tb⟩
        clear z2 m0 m1
        have hBb : Below w.heap.size w wb := hBa.trans (tb.below hBa.size (by intro k hk; omega))
        have s1b := tb.blk s1a (by omega)
        have z3 : wb.cell? ⟨bl, off, none⟩ = some (.int .i64 (z 0)) := by rw [hBb.cell hbl]; exact HZ.out 0 (by omega)
        go_wp2_with fail
        refine (beat_open (b + 1) _ _ _ _ _ s2b).mono ?_
        rintro e wc ⟨rfl, s2c, tc⟩
        clear z3
        have hBc : Below w.heap.size w wc := hBb.trans (tc.below hBb.size (by intro k hk; omega))
        have s1c := tc.blk s1b (by omega)
        have z1 : wc.cell? ⟨bl, off + k, none⟩ = some (.int .i64 (z k)) := by rw [hBc.cell hbl]; exact HZ.out k hlt
        have R : BeatsRel w b q z len t (k + 1) wc := ⟨s1c, s2c, hBc, hb⟩
        clear s1c s2c s1b hBb s2b s2a hBa s1a ta tb tc
        by_cases hu : gt z k < z k
        · have HU := Go.Lib.hid (show gt z (k + 1) = z k by simp [gt, up, hu])
          go_wp2
          go_roundw
          case rel => exact ⟨k + 1, by omega, by go_num, by rw [HU.out], R⟩
          case measure => simp [intOf]; omega
        · have HU := Go.Lib.hid (show gt z (k + 1) = gt z k by simp [gt, up, hu])
          go_wp2
          go_roundw
          case rel => exact ⟨k + 1, by omega, by go_num, by rw [HU.out], R⟩
          case measure => simp [intOf]; omega
      · obtain rfl : k = len := by omega
        rw [← gt_turn z k t] at s2
        generalize gt z k = g at *
        have HB := Go.Lib.hid hB
        clear hB HC hlt hk
        have f3 := field_low true false q g
        have f2 := field_next true false q g
        go_wp2_with fail
        refine (tell_any b _ _ _ _ _ s1).mono ?_
        rintro e w4 ⟨rfl, rfl⟩
        go_wp2_with fail
        refine (tell_any (b + 1) _ _ _ _ _ (Blk.alloc s2 _)).mono ?_
        rintro e w4 ⟨rfl, rfl⟩
        go_wp2_with fail
        refine (tell_any b _ _ _ _ _ (Blk.alloc (Blk.alloc s1 _) _)).mono ?_
        rintro e w4 ⟨rfl, rfl⟩
        go_wp2_with fail
        refine (tell_any b _ _ _ _ _ (Blk.alloc (Blk.alloc (Blk.alloc s1 _) _) _)).mono ?_
        rintro e w4 ⟨rfl, rfl⟩
        go_wp2
        go_ret
        have hB := HB.out
        have hz := hB.size
        exact ⟨rfl, (((hB.alloc hz _).alloc (by simp; omega) _).alloc (by simp; omega) _).alloc (by simp; omega) _⟩

section
open Go.ChangeShapes Go.WideShapes Go.ChangeAt
theorem sessionBeats_run {H : Type} {enc : TypeId × Value → H} (W : World) (v0 v1 v2 : Value) (d0 d1 d2 : DataW H) (p0 p1 p2 : List MemPlace)
    (k0 : Value.okWide Try.prog W .any 0 22 v0) (h0 : DataW.Trod enc Try.prog W 0 (fun _ => true) true 22 v0 d0 p0)
    (k1 : Value.okWide Try.prog W .any 0 23 v1) (h1 : DataW.Trod enc Try.prog W 0 (fun _ => true) true 23 v1 d1 p1)
    (k2 : Value.okWide Try.prog W .any 0 5 v2) (h2 : DataW.Trod enc Try.prog W 0 (fun _ => true) true 5 v2 d2 p2) :
    Calls Try.prog 3 #[v0, v1, v2] W fun e w' => e = .returned (.bool true) ∧ Below W.heap.size W w' := by
  obtain ⟨q, rfl, wq⟩ := open_i Try.underlying22 k0 h0
  obtain ⟨a, len, cap, z, rfl, _, _, hc⟩ := open_ints_at Try.underlying23 Try.underlying2 (by kernel_rfl) k1 h1
  obtain ⟨t, rfl, wt⟩ := open_i Try.underlying5 k2 h2
  have bt := bounds_u8 wt
  obtain ⟨t, rfl⟩ := Int.eq_ofNat_of_zero_le bt.1
  exact beats_walk q a len cap t z (by omega) W hc
end
open Go.ChangeShapes Go.WideShapes Go.ChangeAt

theorem sessionBeats_own : ownKnob Try.prog.godebug = none := by kernel_rfl
theorem sessionBeats_laidOut : laidOutB Try.prog = true := by kernel_rfl

set_option maxRecDepth 100000 in
theorem sessionBeats_lifted (os : Os) (started : os.Started) (H : Type) (enc : TypeId × Value → H) :
    ReturnsInHanded {} Try.checked os 3 .any (Rows.sessionBeatsSpec.pre6 enc Try.prog Try.f3 Rows.sessionBeatsRow.domain false) (Rows.sessionBeatsSpec.post enc Try.prog Try.f3 false true false false) := by
  refine returnsInHanded_of_change (C := Try.checked) sessionBeats_own started (by kernel_rfl) Try.func3
    (ChangeSpec.witness6 (enc := enc) (C := Try.checked) false ⟨#[], #[.int .u64 0, .slice none 0 0, .int .u8 0], []⟩ 8 (by kernel_rfl) (by kernel_rfl) (by kernel_rfl) (by kernel_rfl)) ?_
  intro W base args ds gs before hval0 hW hcnd _
  have hval : ∀ (j : Nat) t v, Try.f3.params[j]? = some t → args[j]? = some v → Value.okWide Try.prog W .any base t v := hval0
  have hW' := hW
  obtain ⟨p, q, hA0, hV, rfl, hfz, hnd⟩ := hW
  have hA : DataW.TrodAll enc Try.prog W 0 (fun _ => true) true Try.f3.params.toList args.toList ds p := hA0
  rw [Try.params3] at hA hval
  obtain ⟨v0, vs0, d0, ds0, p0, q0, hargs, rfl, rfl, h0, r0⟩ := trodAll_cons hA
  obtain ⟨v1, vs1, d1, ds1, p1, q1, rfl, rfl, rfl, h1, r1⟩ := trodAll_cons r0
  obtain ⟨v2, vs2, d2, ds2, p2, q2, rfl, rfl, rfl, h2, r2⟩ := trodAll_cons r1
  obtain ⟨rfl, rfl, rfl⟩ := trodAll_nil r2
  obtain rfl : args = #[v0, v1, v2] := by cases args; simp_all
  obtain ⟨rfl, rfl⟩ := trodVars_none hV
  have lt0 : ∀ x ∈ p0, x.block < W.heap.size := by obtain ⟨m, hm⟩ := h0; exact DataW.trod_lt m _ _ _ hm
  have lt1 : ∀ x ∈ p1, x.block < W.heap.size := by obtain ⟨m, hm⟩ := h1; exact DataW.trod_lt m _ _ _ hm
  have lt2 : ∀ x ∈ p2, x.block < W.heap.size := by obtain ⟨m, hm⟩ := h2; exact DataW.trod_lt m _ _ _ hm
  clear hA0
  refine (sessionBeats_run W v0 v1 v2 d0 d1 d2 p0 p1 p2 (hval 0 22 v0 rfl rfl) h0 (hval 1 23 v1 rfl rfl) h1 (hval 2 5 v2 rfl rfl) h2).mono fun e W' ⟨he, bel⟩ => ?_
  subst he
  exact ⟨_, rfl, _, _, _, [], _, [], hW', trodAll_mk1 (shut_bool Try.underlying4 _), (trodAll_cons_mk (Below.trod sessionBeats_laidOut (by kernel_rfl) (of_decide_eq_true (by kernel_rfl)) h0 bel lt0) (trodAll_cons_mk (Below.trod sessionBeats_laidOut (by kernel_rfl) (of_decide_eq_true (by kernel_rfl)) h1 bel lt1) (trodAll_cons_mk (Below.trod sessionBeats_laidOut (by kernel_rfl) (of_decide_eq_true (by kernel_rfl)) h2 bel lt2) trodAll_mk0))), rfl, bel.frame _, fun h => by cases h⟩

/-- The given statement. -/
theorem sessionBeats_holds : Rows.SessionBeatsSaid :=
  OpenClaim.holds_of_wide 3 Try.f3 rfl rfl rfl rfl rfl rfl rfl ⟨rfl, rfl, rfl, rfl, rfl⟩ rfl rfl rfl rfl rfl (by kernel_rfl) Try.func3 (by kernel_rfl)
    (of_decide_eq_true (by kernel_rfl)) (by unfold Func.isWrapper; first | (rw [if_pos (by decide +kernel)]; kernel_rfl) | (rw [if_neg (by decide +kernel)]; exact ⟨rfl, rfl⟩))
    (fun os started H enc _ => sessionBeats_lifted os started H enc)
#print axioms sessionBeats_holds

end Go.Proofs.Ytfaicdhkgicnkaa
