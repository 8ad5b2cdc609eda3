/- RingPlays: for every input the law returns true and its arguments read as before. No condition. -/
import Derived.Test.YthlekeaebefhfaaAwake
import Derived.Test.YthlekeaebefhfaaOpen
import Derived.Deep.LoopGhost
import Derived.Deep.DeepCutAuto
import Derived.Deep.RegionWith
namespace Go.Proofs.Ythlekeaebefhfaa
open Go.RowKit Go.Lo Go.WideShapes

/-- n things to do, one behind the other. -/
def ActsIn (w : World) (a : Option Addr) (n : Nat) (P : Nat → Bool) (X : Nat → Int) : Prop :=
  0 < n → ∃ b off, a = some ⟨b, off, none⟩ ∧ b < w.heap.size ∧ ∀ i, i < n → w.cell? ⟨b, off + i * 2, none⟩ = some (.bool (P i)) ∧ w.cell? ⟨b, off + i * 2 + 1, none⟩ = some (.int .i64 (X i))

theorem Ints.alters {w w' : World} {p : Nat → Prop} {v : Value} {xs : List Int} (h : Ints w v xs) (hA : Alters p w w') (hv : ∀ k, v.ownBlock = some k → ¬ p k) : Ints w' v xs := by
  obtain ⟨A, c, rfl, hl, hr, hs⟩ := h
  exact ⟨A, c, rfl, hl, hr.keep hA (fun ad e _ => hv ad.block (by rw [e]; rfl)), hs⟩

theorem Ints.form {w : World} {v : Value} {xs : List Int} (h : Ints w v xs) : ∃ A c, v = .slice A xs.length c := by
  obtain ⟨A, c, rfl, _⟩ := h
  exact ⟨A, c, rfl⟩

/-- The law's loop: the ring and the reference's, side by side. -/
structure SidesAt (w0 : World) (b c room : Nat) (old : Bool) (w : World) (D : Nat → Prop) (v : Value) (xs : List Int) : Prop where
  ring : RingIn w b D room old xs
  blk : Blk w c #[.int .i64 room, .bool old, v] 30
  ints : Ints w v xs
  off : ¬ D c
  own : ∀ k, v.ownBlock = some k → ¬ D k ∧ k < w.heap.size ∧ k ≠ c
  low : ∀ k, D k → w0.heap.size ≤ k ∧ k < w.heap.size
  lowc : w0.heap.size ≤ c
  quiet : Quiet w0 w

def Sides (w0 : World) (b c room : Nat) (old : Bool) (w : World) : Prop := ∃ D v xs, SidesAt w0 b c room old w D v xs

theorem SidesAt.on {w0 w w' : World} {b c room : Nat} {old : Bool} {D : Nat → Prop} {v : Value} {xs : List Int} (h : SidesAt w0 b c room old w D v xs) (hq : Quiet w w') : SidesAt w0 b c room old w' D v xs :=
  ⟨h.ring.quiet hq, hq.blk h.blk (by simp), h.ints.quiet hq, h.off, fun k e => ⟨(h.own k e).1, Nat.lt_of_lt_of_le (h.own k e).2.1 hq.size, (h.own k e).2.2⟩, fun k e => ⟨(h.low k e).1, Nat.lt_of_lt_of_le (h.low k e).2 hq.size⟩, h.lowc, h.quiet.trans hq⟩

/-- The ring has made a step. -/
structure Half (w0 : World) (b c room : Nat) (old : Bool) (w : World) (D : Nat → Prop) (v : Value) (xs ys : List Int) : Prop where
  ring : RingIn w b D room old ys
  blk : Blk w c #[.int .i64 room, .bool old, v] 30
  ints : Ints w v xs
  off : ¬ D c
  own : ∀ k, v.ownBlock = some k → ¬ D k ∧ k < w.heap.size ∧ k ≠ c
  low : ∀ k, D k → w0.heap.size ≤ k ∧ k < w.heap.size
  lowc : w0.heap.size ≤ c
  quiet : Quiet w0 w

theorem SidesAt.half {w0 w w' : World} {b c room : Nat} {old : Bool} {D : Nat → Prop} {v : Value} {xs ys : List Int} (h : SidesAt w0 b c room old w D v xs) (hs : StepIn w w' b D room old ys) : ∃ D', Half w0 b c room old w' D' v xs ys := by
  obtain ⟨D', r, g, a⟩ := hs
  have hz := a.size
  have hq := h.quiet.size
  have hc := h.blk.lt
  refine ⟨D', r, a.blk h.blk h.off, h.ints.alters a (fun k e => (h.own k e).1), fun hd => ?_, fun k e => ?_, fun k hd => ?_, h.lowc, h.quiet.then a (fun i hi hd => by have := (h.low i hd).1; omega)⟩
  · rcases g c hd with h1 | h1
    · exact h.off h1
    · omega
  · have := h.own k e
    refine ⟨fun hd => ?_, by omega, this.2.2⟩
    rcases g k hd with h1 | h1
    · exact this.1 h1
    · omega
  · rcases g k hd with h1 | h1
    · have := h.low k h1; omega
    · omega

theorem Half.on {w0 w w' : World} {b c room : Nat} {old : Bool} {D : Nat → Prop} {v : Value} {xs ys : List Int} (h : Half w0 b c room old w D v xs ys) (hq : Quiet w w') : Half w0 b c room old w' D v xs ys :=
  ⟨h.ring.quiet hq, hq.blk h.blk (by simp), h.ints.quiet hq, h.off, fun k e => ⟨(h.own k e).1, Nat.lt_of_lt_of_le (h.own k e).2.1 hq.size, (h.own k e).2.2⟩, fun k e => ⟨(h.low k e).1, Nat.lt_of_lt_of_le (h.low k e).2 hq.size⟩, h.lowc, h.quiet.trans hq⟩

/-- The reference has made the same. -/
theorem Half.whole {w0 w w' : World} {b c room : Nat} {old : Bool} {D : Nat → Prop} {v v' : Value} {xs ys : List Int} (h : Half w0 b c room old w D v xs ys) (hn : Next w w' v v' ys) :
    Blk w' c #[.int .i64 room, .bool old, v] 30 ∧ SidesAt w0 b c room old (((w'.setCell ⟨c, 0, none⟩ (.int .i64 room)).setCell ⟨c, 1, none⟩ (.bool old)).setCell ⟨c, 2, none⟩ v') D v' ys := by
  obtain ⟨hi, ho, hq⟩ := hn
  have hz := hq.size
  have hb := hq.blk h.blk (by simp)
  have hcl := h.blk.lt
  have hA := Go.Proofs.Ythlekeaebefhfaa.set3 w' c (.int .i64 room) (.bool old) v'
  have hv : ∀ k, v'.ownBlock = some k → (¬ D k ∧ k < w'.heap.size ∧ k ≠ c) := fun k e => by
    rcases ho k e with h1 | h1
    · have := h.own k h1
      exact ⟨this.1, by omega, this.2.2⟩
    · exact ⟨fun hd => by have := (h.low k hd).2; omega, h1.2, by omega⟩
  refine ⟨hb, (h.ring.quiet hq).keep hA (fun k hd e => h.off (e ▸ hd)), ((hb.set 0 _).set 1 _).set 2 _, hi.alters hA (fun k e e2 => (hv k e).2.2 e2), h.off, fun k e => by simpa using hv k e, fun k hd => by have := h.low k hd; simp; omega, h.lowc, (h.quiet.trans hq).then hA (fun i hi e => by have := h.lowc; omega)⟩

set_option maxRecDepth 100000 in
set_option maxHeartbeats 4000000 in
theorem plays_walk (room : Int) (old : Bool) (a : Option Addr) (n cap : Nat) (P : Nat → Bool) (X : Nat → Int) (w : World) (hn : n ≤ maxLen) (hl : ActsIn w a n P X) :
    Calls Try.prog 3 #[.int .i64 room, .bool old, .slice a n cap] w fun e w' => e = .returned (.bool true) ∧ Below w.heap.size w w' := by
  have HL := Go.Lib.hid hl
  unfold maxLen at hn
  clear hl
  go_enter Try.func3, Try.ntmps3
  go_wp2_with fail
  refine (awake_walk w).mono ?_
  rintro e w1 ⟨rfl, q1⟩
  by_cases hn200 : 200 < n
  · go_wp2
    go_ret
    exact ⟨rfl, q1.below (Nat.le_refl _) (by simp)⟩
  · by_cases hr : room < 1 ∨ 64 < room
    · go_wp2_with fail
      refine (new_bad room old w1 hr).mono ?_
      rintro e w2 ⟨rfl, rfl⟩
      rcases hr with hr | hr
      · go_wp2
        go_ret
        exact ⟨rfl, q1.below (Nat.le_refl _) (by simp)⟩
      · have h1 : 1 ≤ room := by omega
        go_wp2
        go_ret
        exact ⟨rfl, q1.below (Nat.le_refl _) (by simp)⟩
    · have h1 : 1 ≤ room := by omega
      have h64 : room ≤ 64 := by omega
      clear hr
      obtain ⟨R, rfl⟩ := Int.eq_ofNat_of_zero_le (show 0 ≤ room by omega)
      go_wp2_with fail
      refine (new_in R old w1 h1 h64).mono ?_
      rintro e w2 ⟨rfl, hR, q2⟩
      rw [Int.toNat_natCast] at hR
      have hS : Sides w w1.heap.size w2.heap.size R old (w2.alloc (.cells #[.int .i64 R, .bool old, .slice none 0 0] 30)) := by
        have l1 : w1.heap.size < w2.heap.size := by obtain ⟨v, h, _⟩ := hR; exact h.own.lt
        have hz := q1.size
        exact ⟨_, .slice none 0 0, [], ⟨hR.quiet ((Alters.refl _).alloc _), Blk.new _ _ _, ⟨none, 0, rfl, by simp, Reads.nil, by simp⟩, by omega, by simp [Value.ownBlock], fun k e => by simp; omega, by omega, (q1.trans q2).alloc _⟩⟩
      have HQ1 := Go.Lib.hid q1
      clear hR q2 q1
      go_wp2
      generalize w2.alloc _ = w3 at *
      generalize w1.heap.size = b at *
      generalize w2.heap.size = c at *
      go_loopg [11] n (fun j i wr => ∃ k : Nat, k ≤ n ∧ j = n - k ∧ i = .int .i64 k ∧ Sides w b c R old wr)
      case atStart => exact ⟨0, Nat.zero_le _, rfl, rfl, hS⟩
      case round =>
        clear hS
        obtain ⟨k, hk, hgk, rfl, hS⟩ := hrel
        have HGK := Go.Lib.hid hgk
        clear hgk
        by_cases hlt : k < n
        · obtain ⟨lb, lo, rfl, hlb, hz⟩ := HL.out (by omega)
          obtain ⟨z1, z2⟩ := hz k hlt
          clear hz
          obtain ⟨D, v, xs, hS⟩ := hS
          have c1 := hS.quiet.cell z1 (by simp)
          have c2 := hS.quiet.cell z2 (by simp)
          have hlw := hS.quiet.size
          have lens := hS.ring.lens
          have HS := Go.Lib.hid hS
          have HZ := Go.Lib.hid z2
          clear z1 z2 hS
          go_upto_if 58 with (fail)
          go_cut [12, 13, 14, 15] (fun x y p q wx => ∃ (t : Int) (o : Bool), x = .int .i64 t ∧ y = .int .i64 t ∧ p = .bool o ∧ q = .bool o ∧ Sides w b c R old wx)
          case first =>
            cases hP : P k
            · rw [hP] at c1
              have hp := pop_in b D R old xs wr HS.out.ring
              have hp2 := fun v w h => refpop_in R old v xs w h (by omega)
              generalize xs.headD 0 = t at hp hp2
              generalize (!xs.isEmpty) = o at hp hp2
              generalize xs.tail = ys at hp hp2
              have HP := Go.Lib.hid hp
              have HP2 := Go.Lib.hid hp2
              clear hp hp2
              go_wp2_with fail
              refine HP.out.mono ?_
              rintro e w4 ⟨rfl, hst⟩
              obtain ⟨D2, hH⟩ := HS.out.half hst
              obtain ⟨A, ca, rfl⟩ := hH.ints.form
              have b0 := hH.blk.cell 0 rfl
              have b1 := hH.blk.cell 1 rfl
              have b2 := hH.blk.cell 2 rfl
              have HH := Go.Lib.hid hH
              clear hst HS hH c1 c2 hlw
              go_wp2_with fail
              refine (HP2.out _ w4 HH.out.ints).mono ?_
              rintro e w5 ⟨v', rfl, hN⟩
              obtain ⟨hb5, hS6⟩ := HH.out.whole hN
              obtain ⟨A2, ca2, rfl⟩ := hN.1.form
              have b0 := hb5.cell 0 rfl
              have b1 := hb5.cell 1 rfl
              have b2 := hb5.cell 2 rfl
              have ff := fun i => hb5.free i
              have HS := Go.Lib.hid hS6
              clear hN HH hS6 hb5
              go_wp2_with fail
              go_meet
              exact ⟨t, o, rfl, rfl, rfl, rfl, _, _, _, HS.out⟩
            · rw [hP] at c1
              have hp := push_in b D R old (X k) xs wr HS.out.ring
              have hp2 := fun v w h => refpush_in R old v (X k) xs w h (by omega) (by omega) (by omega)
              generalize told R old xs (X k) = t at hp hp2
              generalize isShed R xs = o at hp hp2
              generalize hys : pushed R old xs (X k) = ys at hp hp2
              clear hys
              have HP := Go.Lib.hid hp
              have HP2 := Go.Lib.hid hp2
              clear hp hp2
              go_wp2_with fail
              refine HP.out.mono ?_
              rintro e w4 ⟨rfl, hst⟩
              obtain ⟨D2, hH⟩ := HS.out.half hst
              obtain ⟨A, ca, rfl⟩ := hH.ints.form
              have b0 := hH.blk.cell 0 rfl
              have b1 := hH.blk.cell 1 rfl
              have b2 := hH.blk.cell 2 rfl
              have c3 := hH.quiet.cell HZ.out (by simp)
              have HH := Go.Lib.hid hH
              clear hst HS hH c1 c2 hlw
              go_wp2_with fail
              go_region_with (go_at_call 11; refine (HP2.out _ _ (HH.out.on ((Alters.refl _).drewN _)).ints).mono ?_; rintro e w5 ⟨v', rfl, hN⟩; obtain ⟨hb5, hS6⟩ := (HH.out.on ((Alters.refl _).drewN _)).whole hN; obtain ⟨A2, ca2, rfl⟩ := hN.1.form; have b0 := hb5.cell 0 rfl; have b1 := hb5.cell 1 rfl; have b2 := hb5.cell 2 rfl; have ff := fun i => hb5.free i; have HS := Go.Lib.hid hS6; clear hN HH hS6 hb5)
              all_goals go_wp2_with fail
              all_goals go_meet
              all_goals exact ⟨t, o, rfl, rfl, rfl, rfl, _, _, _, HS.out⟩
          case rest =>
            obtain ⟨t, o, rfl, rfl, rfl, rfl, D, v, xs, hS⟩ := hcut
            clear HS c1 c2 hlw lens HZ
            have lens := hS.ring.lens
            have hh := head_in b D R old xs wc hS.ring
            have hp2 := fun v w h => refpop_in R old v xs w h (by omega)
            generalize xs.headD 0 = t2 at hh hp2
            generalize (!xs.isEmpty) = o2 at hh hp2
            generalize xs.tail = ys at hp2
            have HH := Go.Lib.hid hh
            have HP2 := Go.Lib.hid hp2
            obtain ⟨A, ca, rfl⟩ := hS.ints.form
            have b0 := hS.blk.cell 0 rfl
            have b1 := hS.blk.cell 1 rfl
            have b2 := hS.blk.cell 2 rfl
            have HS := Go.Lib.hid hS
            clear hh hp2 hS
            go_wp2_with fail
            refine HH.out.mono ?_
            rintro e w4 ⟨rfl, rfl⟩
            go_wp2_with fail
            refine (HP2.out _ _ HS.out.ints).mono ?_
            rintro e w5 ⟨v', rfl, hN⟩
            have hS5 := (HS.out.on hN.2.2).on ((Alters.refl _).alloc (.cells #[.int .i64 R, .bool old, v'] 30))
            obtain ⟨A2, ca2, rfl⟩ := hN.1.form
            have b0 := hS5.blk.cell 0 rfl
            have b1 := hS5.blk.cell 1 rfl
            have b2 := hS5.blk.cell 2 rfl
            have HS5 := Go.Lib.hid hS5
            clear hN HS hS5 HH HP2
            go_wp2_with fail
            go_quiet ((go_at_call 15; refine Calls.quiet_of_same ((len_in b D R old xs _ ?_).mono (fun e w' h => ⟨h.1, h.2.symm⟩)); exact (HS5.out.on ((Alters.refl _).drewN _)).ring))
            go_wp2
            go_roundg (n - (k + 1))
            case measure => have := HGK.out; omega
            case rel => exact ⟨k + 1, by omega, rfl, by go_num, D, _, xs, HS5.out.on ((Alters.refl _).drewN _)⟩
        · obtain rfl : k = n := by omega
          obtain ⟨D, v, xs, hS⟩ := hS
          have lens := hS.ring.lens
          obtain ⟨A, ca, rfl⟩ := hS.ints.form
          have b0 := hS.blk.cell 0 rfl
          have b1 := hS.blk.cell 1 rfl
          have b2 := hS.blk.cell 2 rfl
          have HS := Go.Lib.hid hS
          clear hS
          go_wp2
          go_region_with (first
            | (go_at_call 17; refine (items_in b D R old xs 100 _ (HS.out.on ((Alters.refl _).drewN _)).ring (by omega) (by omega)).mono ?_; rintro e w4 ⟨v', rfl, hi, hfr, hq⟩; rw [List.take_of_length_le (by omega)] at hi; have hS4 := HS.out.on (((Alters.refl _).drewN _).trans hq); have b0 := hS4.blk.cell 0 rfl; have b1 := hS4.blk.cell 1 rfl; have b2 := hS4.blk.cell 2 rfl; have HI := Go.Lib.hid hi; have HS4 := Go.Lib.hid hS4; clear hi hfr hq hS4)
            | (go_at_call 16; refine (same_walk _ _ xs _ HI.out HS4.out.ints).mono ?_; rintro e w5 ⟨rfl, nd, rfl⟩))
          all_goals go_wp2
          all_goals go_ret
          all_goals exact ⟨rfl, (HS4.out.quiet.trans ((Alters.refl _).drewN _)).below (Nat.le_refl _) (by simp)⟩

section
open Go.ChangeShapes Go.WideShapes Go.ChangeAt Go.Deep

theorem open_acts {H : Type} {enc : TypeId × Value → H} {w : World} {spare : Nat → Bool} {held : Bool} {v : Value} {d : DataW H} {ps : List MemPlace} (hv : Value.okWide Try.prog w .any 0 22 v)
    (h : DataW.Trod enc Try.prog w 0 spare held 22 v d ps) : ∃ (a : Option Addr) (len cap : Nat) (P : Nat → Bool) (X : Nat → Int), v = .slice a len cap ∧ len ≤ maxLen ∧ ActsIn w a len P X := by
  have c32 : Try.prog.cellsOf 32 = 2 := by kernel_rfl
  have c4 : Try.prog.cellsOf 4 = 1 := by kernel_rfl
  have c3 : Try.prog.cellsOf 3 = 1 := by kernel_rfl
  obtain ⟨a, len, cap, rfl, hl, hx⟩ := open_elems Try.underlying22 hv (by rw [c32]; omega) h
  by_cases h0 : 0 < len
  · obtain ⟨b, off, rfl, hb, hx⟩ := hx h0
    obtain ⟨X, hX⟩ := choose_lt (α := Bool × Int) (p := fun i x => w.cell? ⟨b, off + i * 2, none⟩ = some (.bool x.1) ∧ w.cell? ⟨b, off + i * 2 + 1, none⟩ = some (.int .i64 x.2)) (fun i hi => by
      obtain ⟨cs, n, y, hlen, hcell, hd⟩ := hx i hi
      obtain ⟨y0, y1, m, _, _, h1, h2⟩ := trod_struct2 Try.underlying32 hd
      obtain ⟨q, e1, _⟩ := DataW.trod_bool Try.underlying4 h1
      obtain ⟨z, e2, _, _⟩ := DataW.trod_int Try.underlying3 h2
      rw [c32] at hlen hcell
      match cs, hlen with
      | [u0, u1], _ =>
        simp only [c4, c3] at e1 e2
        simp at e1 e2
        have g0 := hcell 0 (by omega)
        have g1 := hcell 1 (by omega)
        simp [e1] at g0
        simp [e2] at g1
        exact ⟨(q, z), g0, g1⟩)
    exact ⟨_, len, cap, fun i => (X i).1, fun i => (X i).2, rfl, hl, fun _ => ⟨b, off, rfl, hb, hX⟩⟩
  · exact ⟨a, len, cap, fun _ => false, fun _ => 0, rfl, hl, fun h => absurd h h0⟩

theorem ringPlays_run {H : Type} {enc : TypeId × Value → H} (W : World) (v0 v1 v2 : Value) (d0 d1 d2 : DataW H) (p0 p1 p2 : List MemPlace)
    (k0 : Value.okWide Try.prog W .any 0 3 v0) (h0 : DataW.Trod enc Try.prog W 0 (fun _ => true) true 3 v0 d0 p0)
    (k1 : Value.okWide Try.prog W .any 0 4 v1) (h1 : DataW.Trod enc Try.prog W 0 (fun _ => true) true 4 v1 d1 p1)
    (k2 : Value.okWide Try.prog W .any 0 22 v2) (h2 : DataW.Trod enc Try.prog W 0 (fun _ => true) true 22 v2 d2 p2) :
    Calls Try.prog 3 #[v0, v1, v2] W fun e w' => e = .returned (.bool true) ∧ Below W.heap.size W w' := by
  obtain ⟨r, rfl, _⟩ := open_i Try.underlying3 k0 h0
  obtain ⟨o, rfl⟩ := open_b Try.underlying4 k1 h1
  obtain ⟨a, n, cap, P, X, rfl, hn, hl⟩ := open_acts k2 h2
  exact plays_walk r o a n cap P X W hn hl

theorem ringPlays_own : ownKnob Try.prog.godebug = none := by kernel_rfl
theorem ringPlays_laidOut : laidOutB Try.prog = true := by kernel_rfl

set_option maxRecDepth 100000 in
theorem ringPlays_lifted (os : Os) (started : os.Started) (H : Type) (enc : TypeId × Value → H) :
    ReturnsInHanded {} Try.checked os 3 .any (Rows.ringPlaysSpec.pre6 enc Try.prog Try.f3 Rows.ringPlaysRow.domain false) (Rows.ringPlaysSpec.post enc Try.prog Try.f3 false true false false) := by
  refine returnsInHanded_of_change (C := Try.checked) ringPlays_own started (by kernel_rfl) Try.func3
    (ChangeSpec.witness6 (enc := enc) (C := Try.checked) false ⟨#[], #[.int .i64 0, .bool false, .slice none 0 0], []⟩ 8 (by kernel_rfl) (by kernel_rfl) (by kernel_rfl) (by kernel_rfl)) ?_
  intro W base args ds gs before hval0 hW hcnd _
  have hval : ∀ (j : Nat) t v, Try.f3.params[j]? = some t → args[j]? = some v → Value.okWide Try.prog W .any base t v := hval0
  have hW' := hW
  obtain ⟨p, q, hA0, hV, rfl, hfz, hnd⟩ := hW
  have hA : DataW.TrodAll enc Try.prog W 0 (fun _ => true) true Try.f3.params.toList args.toList ds p := hA0
  rw [Try.params3] at hA hval
  obtain ⟨v0, vs0, d0, ds0, p0, q0, hargs, rfl, rfl, h0, r0⟩ := trodAll_cons hA
  obtain ⟨v1, vs1, d1, ds1, p1, q1, rfl, rfl, rfl, h1, r1⟩ := trodAll_cons r0
  obtain ⟨v2, vs2, d2, ds2, p2, q2, rfl, rfl, rfl, h2, r2⟩ := trodAll_cons r1
  obtain ⟨rfl, rfl, rfl⟩ := trodAll_nil r2
  obtain rfl : args = #[v0, v1, v2] := by cases args; simp_all
  obtain ⟨rfl, rfl⟩ := trodVars_none hV
  have lt0 : ∀ x ∈ p0, x.block < W.heap.size := by obtain ⟨m, hm⟩ := h0; exact DataW.trod_lt m _ _ _ hm
  have lt1 : ∀ x ∈ p1, x.block < W.heap.size := by obtain ⟨m, hm⟩ := h1; exact DataW.trod_lt m _ _ _ hm
  have lt2 : ∀ x ∈ p2, x.block < W.heap.size := by obtain ⟨m, hm⟩ := h2; exact DataW.trod_lt m _ _ _ hm
  clear hA0
  refine (ringPlays_run W v0 v1 v2 d0 d1 d2 p0 p1 p2 (hval 0 3 v0 rfl rfl) h0 (hval 1 4 v1 rfl rfl) h1 (hval 2 22 v2 rfl rfl) h2).mono fun e W' ⟨he, bel⟩ => ?_
  subst he
  exact ⟨_, rfl, _, _, _, [], _, [], hW', trodAll_mk1 (shut_bool Try.underlying4 _), (trodAll_cons_mk (Below.trod ringPlays_laidOut (by kernel_rfl) (of_decide_eq_true (by kernel_rfl)) h0 bel lt0) (trodAll_cons_mk (Below.trod ringPlays_laidOut (by kernel_rfl) (of_decide_eq_true (by kernel_rfl)) h1 bel lt1) (trodAll_cons_mk (Below.trod ringPlays_laidOut (by kernel_rfl) (of_decide_eq_true (by kernel_rfl)) h2 bel lt2) trodAll_mk0))), rfl, bel.frame _, fun h => by cases h⟩

/-- The given statement. -/
theorem ringPlays_holds : Rows.RingPlaysSaid :=
  OpenClaim.holds_of_wide 3 Try.f3 rfl rfl rfl rfl rfl rfl rfl ⟨rfl, rfl, rfl, rfl, rfl⟩ rfl rfl rfl rfl rfl (by kernel_rfl) Try.func3 (by kernel_rfl)
    (of_decide_eq_true (by kernel_rfl)) (by unfold Func.isWrapper; first | (rw [if_pos (by decide +kernel)]; kernel_rfl) | (rw [if_neg (by decide +kernel)]; exact ⟨rfl, rfl⟩))
    (fun os started H enc _ => ringPlays_lifted os started H enc)
#print axioms ringPlays_holds

end
end Go.Proofs.Ythlekeaebefhfaa
