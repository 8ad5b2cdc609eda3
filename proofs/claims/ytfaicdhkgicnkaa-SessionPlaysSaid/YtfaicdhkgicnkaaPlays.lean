/- SessionPlays: for every input the law returns true and its argument reads as before. No condition. -/
import Derived.Test.YtfaicdhkgicnkaaStays
import Derived.Test.YtfaicdhkgicnkaaRef
import Derived.Deep.RegionWith
namespace Go.Proofs.Ytfaicdhkgicnkaa
open Go.RowKit Go.Lo

/-- The law's loop: the session, and the document's one in its box. -/
def PlaysRel (w0 : World) (b m : Nat) (s : Ses) (w : World) : Prop := Run w0 b s w ∧ Blk w m #[.bool s.o, .bool s.sp, .int .u64 s.n, .int .i64 s.l] 35 ∧ w0.heap.size ≤ m ∧ b ≠ m

theorem quiet_run {w0 w w' : World} {b : Nat} {s : Ses} (h : Quiet w w') (R : Run w0 b s w) : Run w0 b s w' :=
  ⟨h.blk R.1 (by simp), R.2.1, R.2.2.1.trans (h.below R.2.2.1.size (by simp)), R.2.2.2⟩

theorem Run.drew {w0 w : World} {b : Nat} {s : Ses} (h : Run w0 b s w) : Run w0 b s w.drew := ⟨Blk.drew h.1, h.2.1, h.2.2.1.drew, h.2.2.2⟩

theorem rel_store {w0 w w' : World} {b m : Nat} {s : Ses} {xs : List Value} (R : Run w0 b s w) (hq : Quiet w w') (B : Blk w m xs.toArray 35) (hx : xs.length = 4) (hm : w0.heap.size ≤ m) (hbm : b ≠ m) :
    PlaysRel w0 b m s ((((w'.setCell ⟨m, 0, none⟩ (.bool s.o)).setCell ⟨m, 1, none⟩ (.bool s.sp)).setCell ⟨m, 2, none⟩ (.int .u64 s.n)).setCell ⟨m, 3, none⟩ (.int .i64 s.l)) := by
  have R' := quiet_run hq R
  have B' := hq.blk B (by simp)
  obtain ⟨x0, x1, x2, x3, rfl⟩ : ∃ x0 x1 x2 x3, xs = [x0, x1, x2, x3] := by
    match xs, hx with
    | [x0, x1, x2, x3], _ => exact ⟨x0, x1, x2, x3, rfl⟩
  refine ⟨⟨?_, R'.2.1, (((R'.2.2.1.setCell hm _).setCell hm _).setCell hm _).setCell hm _, R'.2.2.2⟩, (((B'.set 0 _).set 1 _).set 2 _).set 3 _, hm, hbm⟩
  exact (((Blk.set_other R'.1 (a := ⟨m, 0, none⟩) hbm _).set_other (a := ⟨m, 1, none⟩) hbm _).set_other (a := ⟨m, 2, none⟩) hbm _).set_other (a := ⟨m, 3, none⟩) hbm _

/-- The rest of a round: told, held against the document's, and asked of no session. -/
theorem rel_end {w0 w w' : World} {b m : Nat} {s : Ses} (R : PlaysRel w0 b m s w) (hq : Quiet w w') : PlaysRel w0 b m s w' :=
  ⟨quiet_run hq R.1, hq.blk R.2.1 (by simp), R.2.2⟩

theorem rel_tell {w0 w : World} {b m : Nat} {x y : Bool} {n l : Int} (R : PlaysRel w0 b m ⟨x, y, n, l⟩ w) :
    Calls Try.prog 12 #[.pointer (some ⟨b, 0, none⟩)] w fun e w' => e = .returned (.agg #[.bool x, .bool y, .int .u64 n, .int .i64 l]) ∧ PlaysRel w0 b m ⟨x, y, n, l⟩ w' := by
  refine (tell_any b x y n l w R.1.1).mono ?_
  rintro e w' ⟨rfl, rfl⟩
  exact ⟨rfl, rel_end R ((Alters.refl _).alloc _)⟩

theorem refhello_to (s : Ses) (x y : Bool) (n l q c : Int) (w : World) (h : s.hello q = (⟨x, y, n, l⟩, c)) :
    Calls Try.prog 15 #[.agg #[.bool s.o, .bool s.sp, .int .u64 s.n, .int .i64 s.l], .int .u64 q] w fun e w' => e = .returned (.tuple #[.agg #[.bool x, .bool y, .int .u64 n, .int .i64 l], .int .i64 c]) ∧ Quiet w w' := by
  have := refhello_any s.o s.sp s.n s.l q w
  rw [show (⟨s.o, s.sp, s.n, s.l⟩ : Ses) = s from rfl, h] at this
  exact this
theorem refbeat_to (s : Ses) (x y : Bool) (n l q c : Int) (w : World) (h : s.beat q = (⟨x, y, n, l⟩, c)) :
    Calls Try.prog 17 #[.agg #[.bool s.o, .bool s.sp, .int .u64 s.n, .int .i64 s.l], .int .i64 q] w fun e w' => e = .returned (.tuple #[.agg #[.bool x, .bool y, .int .u64 n, .int .i64 l], .int .i64 c]) ∧ Quiet w w' := by
  have := refbeat_any s.o s.sp s.n s.l q w
  rw [show (⟨s.o, s.sp, s.n, s.l⟩ : Ses) = s from rfl, h] at this
  exact this
theorem refbye_to (s : Ses) (x y : Bool) (n l c : Int) (w : World) (h : s.bye = (⟨x, y, n, l⟩, c)) :
    Calls Try.prog 18 #[.agg #[.bool s.o, .bool s.sp, .int .u64 s.n, .int .i64 s.l]] w fun e w' => e = .returned (.tuple #[.agg #[.bool x, .bool y, .int .u64 n, .int .i64 l], .int .i64 c]) ∧ Quiet w w' := by
  have := refbye_any s.o s.sp s.n s.l w
  rw [show (⟨s.o, s.sp, s.n, s.l⟩ : Ses) = s from rfl, h] at this
  exact this
theorem refevent_to (s : Ses) (x y : Bool) (n l q a r c : Int) (w : World) (ok : s.Ok) (hq : 0 ≤ q ∧ q ≤ 18446744073709551615) (ha : -9223372036854775808 ≤ a ∧ a ≤ 9223372036854775807) (h : s.event q a = (⟨x, y, n, l⟩, r, c)) :
    Calls Try.prog 16 #[.agg #[.bool s.o, .bool s.sp, .int .u64 s.n, .int .i64 s.l], .int .u64 q, .int .i64 a] w fun e w' => e = .returned (.tuple #[.agg #[.bool x, .bool y, .int .u64 n, .int .i64 l], .int .u64 r, .int .i64 c]) ∧ Quiet w w' := by
  have := refevent_any s q a w ok hq ha
  rw [h] at this
  exact this

set_option maxRecDepth 100000 in
set_option maxHeartbeats 4000000 in
theorem plays_walk (a : Option Addr) (len cap : Nat) (X : Nat → Act) (w : World) (hX : ∀ i, i < len → (X i).Ok) (hc : ActsAt w a len X) :
    Calls Try.prog 4 #[.slice a len cap] w fun e w' => e = .returned (.bool true) ∧ Below w.heap.size w w' := by
  by_cases hl : 200 < len
  · go_enter Try.func4, Try.ntmps4
    go_wp2_with (go_at_call 8; refine (awake_any _).mono ?_; rintro e w' ⟨rfl, ht⟩)
    go_ret
    exact ⟨rfl, ht.below (Nat.le_refl _) (by simp)⟩
  · have HC := Go.Lib.hid hc
    have HX := Go.Lib.hid hX
    clear hc hX
    go_enter Try.func4, Try.ntmps4
    go_wp2_with (go_at_call 8; refine (awake_any _).mono ?_; rintro e w1 ⟨rfl, ht1⟩)
    refine (new_any _).mono ?_
    rintro e w2 ⟨rfl, rfl⟩
    have R0 : Run w w1.heap.size Ses.fresh _ := Run.start w w1 ht1
    generalize w1.alloc _ = w2 at *
    generalize w1.heap.size = b at *
    clear ht1
    go_wp2_with fail
    refine (refnew_any _).mono ?_
    rintro e w3 ⟨rfl, ht3⟩
    have R1 : PlaysRel w b w3.heap.size Ses.fresh (w3.alloc (.cells #[.bool false, .bool false, .int .u64 0, .int .i64 (-1)] 35)) := by
      have R := quiet_run ht3 R0
      refine ⟨R.alloc _, Blk.new _ _ _, R.2.2.1.size, ?_⟩
      have := Blk.lt R.1
      omega
    clear R0 ht3
    go_wp2_with fail
    generalize w3.heap.size = m at *
    generalize w3.alloc _ = w4 at *
    go_loopw [7] (fun i wr => ∃ (k : Nat) (s : Ses), k ≤ len ∧ i = .int .i64 k ∧ PlaysRel w b m s wr) (fun i _ => len - (intOf i).toNat)
    case atStart => exact ⟨0, _, Nat.zero_le _, rfl, R1⟩
    case round =>
      clear R1
      obtain ⟨k, s, hk, rfl, R, B, hm, hbm⟩ := hrel
      by_cases hlt : k < len
      · obtain ⟨bl, off, rfl, hbl, hz⟩ := HC.out (by omega)
        have HZ := Go.Lib.hid hz
        clear hz
        obtain ⟨d0, d1, d2⟩ := R.cells hbl HZ hlt
        go_wp2_with fail
        clear d0 d1 d2
        refine (play_any b s (X k) _ R.1 R.2.1 (HX.out k hlt)).mono ?_
        rintro e wa ⟨rfl, hs', ht⟩
        have R' : Run w b (s.play (X k)).1 wa := ⟨hs', Ses.play_ok s _ R.2.1 (HX.out k hlt), R.2.2.1.trans (ht.below R.2.2.1.size (by intro j hj; have := R.2.2.2; omega)), R.2.2.2⟩
        have B1 := ht.blk B (fun h => hbm h.symm)
        obtain ⟨c0, c1, c2⟩ := R'.cells hbl HZ hlt
        have q0 := B1.cell 0 rfl
        have q1 := B1.cell 1 rfl
        have q2 := B1.cell 2 rfl
        have q3 := B1.cell 3 rfl
        have qf := fun i => B1.free i
        have xk := HX.out k hlt
        have ok := Go.Lib.hid R.2.1
        clear ht hs' B R
        generalize hpr : s.play (X k) = pr at *
        have Hp := Go.Lib.hid hpr
        clear hpr
        generalize X k = x at *
        obtain ⟨⟨o', sp', n', l'⟩, rn, c⟩ := pr
        obtain ⟨d, q, at'⟩ := x
        obtain ⟨o, sp, n, l⟩ := s
        simp only at c0 c1 c2 R' q0 q1 q2 q3 ⊢
        have HT := Go.Lib.hid R'
        have HB := Go.Lib.hid B1
        clear R' B1
        by_cases h0 : d = 0
        · subst h0
          obtain ⟨e1, rfl⟩ : Ses.hello ⟨o, sp, n, l⟩ q = (⟨o', sp', n', l'⟩, c) ∧ rn = 0 := by
            have := Hp.out
            simp only [Ses.play, if_true, Prod.mk.injEq] at this
            exact ⟨Prod.ext this.1 this.2.2, this.2.1.symm⟩
          have HE := Go.Lib.hid e1
          clear e1
          go_wp2
          go_region_with (go_at_call 15; refine (refhello_to ⟨o, sp, n, l⟩ _ _ _ _ _ _ _ HE.out).mono ?_; rintro e w' ⟨rfl, hq⟩; have B2 := hq.blk (show Blk _ m _ 35 from HB.out) (by simp); have p0 := B2.cell 0 rfl; have p1 := B2.cell 1 rfl; have p2 := B2.cell 2 rfl; have p3 := B2.cell 3 rfl; have pf := fun i => B2.free i; have RQ := rel_store (s := ⟨o', sp', n', l'⟩) (xs := [_, _, _, _]) (by first | exact HT.out | exact HT.out.drew) hq (show Blk _ m _ 35 from HB.out) rfl hm hbm; clear hq B2 q0 q1 q2 q3 qf)
          all_goals
            go_wp2_with fail
            refine (rel_tell RQ).mono ?_
            rintro e w5 ⟨rfl, R5⟩
            clear RQ p0 p1 p2 p3 pf HT HB c0 c1 c2
            have z0 := R5.2.1.cell 0 rfl
            have z1 := R5.2.1.cell 1 rfl
            have z2 := R5.2.1.cell 2 rfl
            have z3 := R5.2.1.cell 3 rfl
            have mm := R5.2.1.lt
            obtain ⟨c0, c1, c2⟩ := R5.1.cells hbl HZ hlt
            have bb := Nat.lt_of_lt_of_le hbl R5.1.2.2.1.size
            go_wp2_with fail
            refine (play_none (X k) _).mono ?_
            rintro e w6 ⟨rfl, hq6⟩
            have R6 := rel_end R5 (((Alters.refl _).alloc _).trans hq6)
            clear c0 c1 c2 z0 z1 z2 z3 mm bb R5 hq6
            go_wp2
            go_roundw
            case rel => exact ⟨k + 1, _, by omega, by go_num, R6⟩
            case measure => simp [intOf]; omega
        · by_cases h1 : d = 1
          · subst h1
            have e1 : Ses.event ⟨o, sp, n, l⟩ q at' = (⟨o', sp', n', l'⟩, rn, c) := by
              have := Hp.out
              simpa only [Ses.play, if_true, if_false, Int.one_ne_zero] using this
            have HE := Go.Lib.hid e1
            clear e1
            have xq := Go.Lib.hid xk.2
            clear h0 xk
            go_wp2
            go_region_with (go_at_call 16; refine (refevent_to ⟨o, sp, n, l⟩ _ _ _ _ _ _ _ _ _ ok.out xq.out.1 xq.out.2 HE.out).mono ?_; rintro e w' ⟨rfl, hq⟩; have B2 := hq.blk (show Blk _ m _ 35 from HB.out) (by simp); have p0 := B2.cell 0 rfl; have p1 := B2.cell 1 rfl; have p2 := B2.cell 2 rfl; have p3 := B2.cell 3 rfl; have pf := fun i => B2.free i; have RQ := rel_store (s := ⟨o', sp', n', l'⟩) (xs := [_, _, _, _]) (by first | exact HT.out | exact HT.out.drew) hq (show Blk _ m _ 35 from HB.out) rfl hm hbm; clear hq B2 q0 q1 q2 q3 qf)
            all_goals
              go_wp2_with fail
              refine (rel_tell RQ).mono ?_
              rintro e w5 ⟨rfl, R5⟩
              clear RQ p0 p1 p2 p3 pf HT HB c0 c1 c2
              have z0 := R5.2.1.cell 0 rfl
              have z1 := R5.2.1.cell 1 rfl
              have z2 := R5.2.1.cell 2 rfl
              have z3 := R5.2.1.cell 3 rfl
              have mm := R5.2.1.lt
              obtain ⟨c0, c1, c2⟩ := R5.1.cells hbl HZ hlt
              have bb := Nat.lt_of_lt_of_le hbl R5.1.2.2.1.size
              go_wp2_with fail
              refine (play_none (X k) _).mono ?_
              rintro e w6 ⟨rfl, hq6⟩
              have R6 := rel_end R5 (((Alters.refl _).alloc _).trans hq6)
              clear c0 c1 c2 z0 z1 z2 z3 mm bb R5 hq6
              go_wp2
              go_roundw
              case rel => exact ⟨k + 1, _, by omega, by go_num, R6⟩
              case measure => simp [intOf]; omega
          · by_cases h2 : d = 2
            · subst h2
              obtain ⟨e1, rfl⟩ : Ses.beat ⟨o, sp, n, l⟩ at' = (⟨o', sp', n', l'⟩, c) ∧ rn = 0 := by
                have := Hp.out
                simp only [Ses.play, if_true, if_neg h0, if_neg h1, Prod.mk.injEq] at this
                exact ⟨Prod.ext this.1 this.2.2, this.2.1.symm⟩
              have HE := Go.Lib.hid e1
              clear e1 h0 h1
              go_wp2
              go_region_with (go_at_call 17; refine (refbeat_to ⟨o, sp, n, l⟩ _ _ _ _ _ _ _ HE.out).mono ?_; rintro e w' ⟨rfl, hq⟩; have B2 := hq.blk (show Blk _ m _ 35 from HB.out) (by simp); have p0 := B2.cell 0 rfl; have p1 := B2.cell 1 rfl; have p2 := B2.cell 2 rfl; have p3 := B2.cell 3 rfl; have pf := fun i => B2.free i; have RQ := rel_store (s := ⟨o', sp', n', l'⟩) (xs := [_, _, _, _]) (by first | exact HT.out | exact HT.out.drew) hq (show Blk _ m _ 35 from HB.out) rfl hm hbm; clear hq B2 q0 q1 q2 q3 qf)
              all_goals
                go_wp2_with fail
                refine (rel_tell RQ).mono ?_
                rintro e w5 ⟨rfl, R5⟩
                clear RQ p0 p1 p2 p3 pf HT HB c0 c1 c2
                have z0 := R5.2.1.cell 0 rfl
                have z1 := R5.2.1.cell 1 rfl
                have z2 := R5.2.1.cell 2 rfl
                have z3 := R5.2.1.cell 3 rfl
                have mm := R5.2.1.lt
                obtain ⟨c0, c1, c2⟩ := R5.1.cells hbl HZ hlt
                have bb := Nat.lt_of_lt_of_le hbl R5.1.2.2.1.size
                go_wp2_with fail
                refine (play_none (X k) _).mono ?_
                rintro e w6 ⟨rfl, hq6⟩
                have R6 := rel_end R5 (((Alters.refl _).alloc _).trans hq6)
                clear c0 c1 c2 z0 z1 z2 z3 mm bb R5 hq6
                go_wp2
                go_roundw
                case rel => exact ⟨k + 1, _, by omega, by go_num, R6⟩
                case measure => simp [intOf]; omega
            · obtain ⟨e1, rfl⟩ : Ses.bye ⟨o, sp, n, l⟩ = (⟨o', sp', n', l'⟩, c) ∧ rn = 0 := by
                have := Hp.out
                simp only [Ses.play, if_neg h0, if_neg h1, if_neg h2, Prod.mk.injEq] at this
                exact ⟨Prod.ext this.1 this.2.2, this.2.1.symm⟩
              have HE := Go.Lib.hid e1
              have b0 : (d == 0) = false := by simpa using h0
              have b1 : (d == 1) = false := by simpa using h1
              have b2 : (d == 2) = false := by simpa using h2
              clear e1 h0 h1 h2
              go_wp2_with fail
              go_wp2_with (go_at_call 18; refine (refbye_to ⟨o, sp, n, l⟩ _ _ _ _ _ _ HE.out).mono ?_; rintro e w' ⟨rfl, hq⟩; have B2 := hq.blk (show Blk _ m _ 35 from HB.out) (by simp); have p0 := B2.cell 0 rfl; have p1 := B2.cell 1 rfl; have p2 := B2.cell 2 rfl; have p3 := B2.cell 3 rfl; have pf := fun i => B2.free i; have RQ := rel_store (s := ⟨o', sp', n', l'⟩) (xs := [_, _, _, _]) (by first | exact HT.out | exact HT.out.drew) hq (show Blk _ m _ 35 from HB.out) rfl hm hbm; clear hq B2 q0 q1 q2 q3 qf)
              all_goals
                go_wp2_with fail
                refine (rel_tell RQ).mono ?_
                rintro e w5 ⟨rfl, R5⟩
                clear RQ p0 p1 p2 p3 pf HT HB c0 c1 c2
                have z0 := R5.2.1.cell 0 rfl
                have z1 := R5.2.1.cell 1 rfl
                have z2 := R5.2.1.cell 2 rfl
                have z3 := R5.2.1.cell 3 rfl
                have mm := R5.2.1.lt
                obtain ⟨c0, c1, c2⟩ := R5.1.cells hbl HZ hlt
                have bb := Nat.lt_of_lt_of_le hbl R5.1.2.2.1.size
                go_wp2_with fail
                refine (play_none (X k) _).mono ?_
                rintro e w6 ⟨rfl, hq6⟩
                have R6 := rel_end R5 (((Alters.refl _).alloc _).trans hq6)
                clear c0 c1 c2 z0 z1 z2 z3 mm bb R5 hq6
                go_wp2
                go_roundw
                case rel => exact ⟨k + 1, _, by omega, by go_num, R6⟩
                case measure => simp [intOf]; omega
      · go_wp2_with fail
        refine (tell_none _).mono ?_
        rintro e w5 ⟨rfl, rfl⟩
        go_wp2
        go_ret
        exact ⟨rfl, R.2.2.1.alloc R.2.2.1.size _⟩

section
open Go.ChangeShapes Go.WideShapes Go.ChangeAt
theorem sessionPlays_run {H : Type} {enc : TypeId × Value → H} (W : World) (v0 : Value) (d0 : DataW H) (p0 : List MemPlace)
    (k0 : Value.okWide Try.prog W .any 0 34 v0) (h0 : DataW.Trod enc Try.prog W 0 (fun _ => true) true 34 v0 d0 p0) :
    Calls Try.prog 4 #[v0] W fun e w' => e = .returned (.bool true) ∧ Below W.heap.size W w' := by
  obtain ⟨a, len, cap, X, rfl, _, hX, hc⟩ := open_acts k0 h0
  exact plays_walk a len cap X W hX hc

theorem sessionPlays_own : ownKnob Try.prog.godebug = none := by kernel_rfl
theorem sessionPlays_laidOut : laidOutB Try.prog = true := by kernel_rfl

set_option maxRecDepth 100000 in
theorem sessionPlays_lifted (os : Os) (started : os.Started) (H : Type) (enc : TypeId × Value → H) :
    ReturnsInHanded {} Try.checked os 4 .any (Rows.sessionPlaysSpec.pre6 enc Try.prog Try.f4 Rows.sessionPlaysRow.domain false) (Rows.sessionPlaysSpec.post enc Try.prog Try.f4 false true false false) := by
  refine returnsInHanded_of_change (C := Try.checked) sessionPlays_own started (by kernel_rfl) Try.func4
    (ChangeSpec.witness6 (enc := enc) (C := Try.checked) false ⟨#[], #[.slice none 0 0], []⟩ 8 (by kernel_rfl) (by kernel_rfl) (by kernel_rfl) (by kernel_rfl)) ?_
  intro W base args ds gs before hval0 hW hcnd _
  have hval : ∀ (j : Nat) t v, Try.f4.params[j]? = some t → args[j]? = some v → Value.okWide Try.prog W .any base t v := hval0
  have hW' := hW
  obtain ⟨p, q, hA0, hV, rfl, hfz, hnd⟩ := hW
  have hA : DataW.TrodAll enc Try.prog W 0 (fun _ => true) true Try.f4.params.toList args.toList ds p := hA0
  rw [Try.params4] at hA hval
  obtain ⟨v0, vs0, d0, ds0, p0, q0, hargs, rfl, rfl, h0, r0⟩ := trodAll_cons hA
  obtain ⟨rfl, rfl, rfl⟩ := trodAll_nil r0
  obtain rfl : args = #[v0] := by cases args; simp_all
  obtain ⟨rfl, rfl⟩ := trodVars_none hV
  have lt0 : ∀ x ∈ p0, x.block < W.heap.size := by obtain ⟨m, hm⟩ := h0; exact DataW.trod_lt m _ _ _ hm
  clear hA0
  refine (sessionPlays_run W v0 d0 p0 (hval 0 34 v0 rfl rfl) h0).mono fun e W' ⟨he, bel⟩ => ?_
  subst he
  exact ⟨_, rfl, _, _, _, [], _, [], hW', trodAll_mk1 (shut_bool Try.underlying4 _), (trodAll_cons_mk (Below.trod sessionPlays_laidOut (by kernel_rfl) (of_decide_eq_true (by kernel_rfl)) h0 bel lt0) trodAll_mk0), rfl, bel.frame _, fun h => by cases h⟩

/-- The given statement. -/
theorem sessionPlays_holds : Rows.SessionPlaysSaid :=
  OpenClaim.holds_of_wide 4 Try.f4 rfl rfl rfl rfl rfl rfl rfl ⟨rfl, rfl, rfl, rfl, rfl⟩ rfl rfl rfl rfl rfl (by kernel_rfl) Try.func4 (by kernel_rfl)
    (of_decide_eq_true (by kernel_rfl)) (by unfold Func.isWrapper; first | (rw [if_pos (by decide +kernel)]; kernel_rfl) | (rw [if_neg (by decide +kernel)]; exact ⟨rfl, rfl⟩))
    (fun os started H enc _ => sessionPlays_lifted os started H enc)
#print axioms sessionPlays_holds

end
end Go.Proofs.Ytfaicdhkgicnkaa
