/- The walks of what the session's laws call: an act, the document's functions, the example. No condition. -/
import Derived.Test.YtfaicdhkgicnkaaSes
namespace Go.Proofs.Ytfaicdhkgicnkaa
open Go.RowKit Go.Lo

/-- How a call on no session ends. -/
theorem hello_none (q : Int) (w : World) : Calls Try.prog 10 #[.pointer none, .int .u64 q] w fun e w' => e = .returned (.int .i64 40) ∧ w = w' := by
  go_enter Try.func10, Try.ntmps10
  go_wp2
  go_ret
  exact ⟨rfl, rfl⟩
theorem beat_none (a : Int) (w : World) : Calls Try.prog 11 #[.pointer none, .int .i64 a] w fun e w' => e = .returned (.int .i64 40) ∧ w = w' := by
  go_enter Try.func11, Try.ntmps11
  go_wp2
  go_ret
  exact ⟨rfl, rfl⟩
theorem bye_none (w : World) : Calls Try.prog 20 #[.pointer none] w fun e w' => e = .returned (.int .i64 40) ∧ w = w' := by
  go_enter Try.func20, Try.ntmps20
  go_wp2
  go_ret
  exact ⟨rfl, rfl⟩
theorem event_none (q a : Int) (w : World) : Calls Try.prog 19 #[.pointer none, .int .u64 q, .int .i64 a] w fun e w' => e = .returned (.tuple #[.int .u64 0, .int .i64 40]) ∧ w = w' := by
  go_enter Try.func19, Try.ntmps19
  go_wp2
  go_ret2
  exact ⟨rfl, rfl⟩

/-- An act of a source. -/
structure Act where
  d : Int
  q : Int
  a : Int
def Act.Ok (x : Act) : Prop := (0 ≤ x.d ∧ x.d ≤ 255) ∧ (0 ≤ x.q ∧ x.q ≤ 18446744073709551615) ∧ (-9223372036854775808 ≤ x.a ∧ x.a ≤ 9223372036854775807)

/-- What an act does. -/
def Ses.play (s : Ses) (x : Act) : Ses × Int × Int :=
  if x.d = 0 then ((s.hello x.q).1, 0, (s.hello x.q).2) else if x.d = 1 then s.event x.q x.a else if x.d = 2 then ((s.beat x.a).1, 0, (s.beat x.a).2) else (s.bye.1, 0, s.bye.2)

set_option maxHeartbeats 1000000 in
theorem play_any (b : Nat) (s : Ses) (x : Act) (w : World) (hs : IsSes w b s) (ok : s.Ok) (hx : x.Ok) :
    Calls Try.prog 14 #[.pointer (some ⟨b, 0, none⟩), .agg #[.int .u8 x.d, .int .u64 x.q, .int .i64 x.a]] w (Ends w b (s.play x).1 (.tuple #[.int .u64 (s.play x).2.1, .int .i64 (s.play x).2.2])) := by
  obtain ⟨d, q, a⟩ := x
  obtain ⟨hd, hq, ha⟩ := hx
  simp only at hd hq ha
  have hs' : ∀ o, IsSes (w.alloc o) b s := fun o => Blk.alloc hs o
  have ht : ∀ o w', Alters (fun k => k = b) (w.alloc o) w' → Alters (fun k => k = b) w w' := fun o w' h => ((Alters.refl _).alloc o).trans h
  have HF := Go.Lib.hid (And.intro hs' ht)
  clear hs' ht hs
  by_cases h0 : d = 0
  · subst h0
    have e : s.play ⟨0, q, a⟩ = ((s.hello q).1, 0, (s.hello q).2) := by simp [Ses.play]
    rw [e]
    clear e
    go_enter Try.func14, Try.ntmps14
    go_wp2_with (go_at_call 10; refine (hello_any b s q _ (HF.out.1 _)).mono ?_; rintro e w' ⟨rfl, hs2, ht2⟩)
    go_ret2
    exact ⟨rfl, hs2, HF.out.2 _ _ ht2⟩
  · by_cases h1 : d = 1
    · subst h1
      have e : s.play ⟨1, q, a⟩ = s.event q a := by simp [Ses.play]
      rw [e]
      clear e
      generalize hev : s.event q a = ev
      obtain ⟨s', r, c⟩ := ev
      have HE := Go.Lib.hid hev
      clear hev
      go_enter Try.func14, Try.ntmps14
      go_wp2_with (go_at_call 19; refine (event_any b s q a _ (HF.out.1 _) ok hq ha).mono ?_; rw [HE.out]; rintro e w' ⟨rfl, hs2, ht2⟩)
      go_ret2
      exact ⟨rfl, hs2, HF.out.2 _ _ ht2⟩
    · by_cases h2 : d = 2
      · subst h2
        have e : s.play ⟨2, q, a⟩ = ((s.beat a).1, 0, (s.beat a).2) := by simp [Ses.play]
        rw [e]
        clear e
        go_enter Try.func14, Try.ntmps14
        go_wp2_with (go_at_call 11; refine (beat_any b s a _ (HF.out.1 _)).mono ?_; rintro e w' ⟨rfl, hs2, ht2⟩)
        go_ret2
        exact ⟨rfl, hs2, HF.out.2 _ _ ht2⟩
      · have e : s.play ⟨d, q, a⟩ = (s.bye.1, 0, s.bye.2) := by simp [Ses.play, h0, h1, h2]
        rw [e]
        clear e
        go_enter Try.func14, Try.ntmps14
        go_wp2_with (go_at_call 20; refine (bye_any b s _ (HF.out.1 _)).mono ?_; rintro e w' ⟨rfl, hs2, ht2⟩)
        go_ret2
        exact ⟨rfl, hs2, HF.out.2 _ _ ht2⟩

set_option maxHeartbeats 1000000 in
theorem play_none (x : Act) (w : World) :
    Calls Try.prog 14 #[.pointer none, .agg #[.int .u8 x.d, .int .u64 x.q, .int .i64 x.a]] w fun e w' => e = .returned (.tuple #[.int .u64 0, .int .i64 40]) ∧ Quiet w w' := by
  obtain ⟨d, q, a⟩ := x
  have HF := Go.Lib.hid (fun o => (Alters.refl (p := fun _ => False) w).alloc o)
  by_cases h0 : d = 0
  · subst h0
    go_enter Try.func14, Try.ntmps14
    go_wp2_with (go_at_call 10; refine (hello_none q _).mono ?_; rintro e w' ⟨rfl, rfl⟩)
    go_ret2
    exact ⟨rfl, HF.out _⟩
  · by_cases h1 : d = 1
    · subst h1
      go_enter Try.func14, Try.ntmps14
      go_wp2_with (go_at_call 19; refine (event_none q a _).mono ?_; rintro e w' ⟨rfl, rfl⟩)
      go_ret2
      exact ⟨rfl, HF.out _⟩
    · by_cases h2 : d = 2
      · subst h2
        go_enter Try.func14, Try.ntmps14
        go_wp2_with (go_at_call 11; refine (beat_none a _).mono ?_; rintro e w' ⟨rfl, rfl⟩)
        go_ret2
        exact ⟨rfl, HF.out _⟩
      · go_enter Try.func14, Try.ntmps14
        go_wp2_with (go_at_call 20; refine (bye_none _).mono ?_; rintro e w' ⟨rfl, rfl⟩)
        go_ret2
        exact ⟨rfl, HF.out _⟩

theorem ok_of (x y : Bool) (n l : Int) (h : 0 ≤ n ∧ n ≤ 100 ∧ -5 ≤ l ∧ l ≤ 100) : Ses.Ok ⟨x, y, n, l⟩ := by
  unfold Ses.Ok; simp only; omega

set_option maxHeartbeats 1000000 in
theorem awake_any (w : World) : Calls Try.prog 8 #[] w fun e w' => e = .returned (.bool true) ∧ Quiet w w' := by
  have H0 : IsSes (w.alloc (.cells #[.bool false, .bool false, .int .u64 0, .int .i64 (-1)] 50)) w.heap.size Ses.fresh := Blk.new _ _ _
  have T0 := (Alters.refl (p := fun k => k = w.heap.size) w).alloc (.cells #[.bool false, .bool false, .int .u64 0, .int .i64 (-1)] 50)
  have fin : ∀ w' o o', Alters (fun k => k = w.heap.size) w w' → Quiet w ((w'.alloc o).alloc o') := fun w' o o' h => ((h.alloc o).alloc o').mono (by intros; omega)
  have HF := Go.Lib.hid fin
  clear fin
  go_enter Try.func8, Try.ntmps8
  go_wp2_with (go_at_call 9; refine (new_any _).mono ?_; rintro e w' ⟨rfl, rfl⟩)
  refine (hello_to _ Ses.fresh ⟨true, false, 5, -1⟩ 5 0 _ H0 rfl).mono ?_
  rintro e w1 ⟨rfl, s1, t1⟩
  go_wp2_with fail
  refine (event_to _ _ ⟨true, false, 6, 9⟩ 5 10 0 0 _ s1 (ok_of _ _ _ _ (by omega)) (by omega) (by omega) rfl).mono ?_
  rintro e w2 ⟨rfl, s2, t2⟩
  go_wp2_with fail
  refine (event_to _ _ ⟨true, false, 9, 9⟩ 8 10 2 0 _ s2 (ok_of _ _ _ _ (by omega)) (by omega) (by omega) rfl).mono ?_
  rintro e w3 ⟨rfl, s3, t3⟩
  go_wp2_with fail
  refine (event_to _ _ ⟨true, false, 9, 9⟩ 8 11 0 42 _ s3 (ok_of _ _ _ _ (by omega)) (by omega) (by omega) rfl).mono ?_
  rintro e w4 ⟨rfl, s4, t4⟩
  go_wp2_with fail
  refine (beat_to _ _ ⟨true, false, 9, 20⟩ 20 0 _ s4 rfl).mono ?_
  rintro e w5 ⟨rfl, s5, t5⟩
  go_wp2_with fail
  refine (event_to _ _ ⟨true, false, 9, 20⟩ 9 20 0 43 _ s5 (ok_of _ _ _ _ (by omega)) (by omega) (by omega) rfl).mono ?_
  rintro e w6 ⟨rfl, s6, t6⟩
  go_wp2_with fail
  refine (event_to _ _ ⟨true, false, 10, 20⟩ 9 21 0 0 _ s6 (ok_of _ _ _ _ (by omega)) (by omega) (by omega) rfl).mono ?_
  rintro e w7 ⟨rfl, s7, t7⟩
  go_wp2_with fail
  refine (tell_any _ _ _ _ _ _ s7).mono ?_
  rintro e w8 ⟨rfl, rfl⟩
  go_wp2
  go_ret
  exact ⟨rfl, HF.out _ _ _ (((((((T0.trans t1).trans t2).trans t3).trans t4).trans t5).trans t6).trans t7)⟩

end Go.Proofs.Ytfaicdhkgicnkaa
