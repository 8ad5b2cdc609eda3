/- The walks of the reference's functions, and of the law's own comparison. No condition. -/
import Derived.Test.YthlekeaebefhfaaItems
namespace Go.Proofs.Ythlekeaebefhfaa
open Go.RowKit Go.Lo Go.WideShapes

/-- A value is a slice that reads as these numbers. -/
def Ints (w : World) (v : Value) (xs : List Int) : Prop := ∃ A c, v = .slice A xs.length c ∧ (xs.length ≤ c ∧ c ≤ maxLen) ∧ Reads w A 1 xs.length (xs.map (Value.int .i64)) ∧ ∀ ad, A = some ad → 0 < xs.length → ∃ b off, ad = ⟨b, off, none⟩

theorem Ints.cell {w : World} {A : Option Addr} {n c k : Nat} {xs : List Int} (h : Ints w (.slice A n c) xs) (hk : k < xs.length) : ∃ b off, A = some ⟨b, off, none⟩ ∧ w.cell? ⟨b, off + k, none⟩ = some (.int .i64 (xs.getD k 0)) := by
  obtain ⟨A', c', e, _, hr, hs⟩ := h
  obtain ⟨rfl, _⟩ : A = A' ∧ _ := by simpa using e
  obtain ⟨ad, rfl, hc⟩ := hr.at (k := k) (u := .int .i64 (xs.getD k 0)) (by simp [hk])
  obtain ⟨b, off, rfl⟩ := hs ad rfl (by omega)
  rw [add_plain] at hc
  exact ⟨b, off, rfl, hc⟩

theorem Ints.quiet {w w' : World} {v : Value} {xs : List Int} (h : Ints w v xs) (hA : Quiet w w') : Ints w' v xs := by
  obtain ⟨A, c, rfl, hl, hr, hs⟩ := h
  exact ⟨A, c, rfl, hl, hr.quiet hA, hs⟩

theorem Ints.of_row {w : World} {base : Nat} {v : Value} {xs : List Int} (h : w.ownsRow base 3 1 v xs.length (xs.map (Value.int .i64))) : Ints w v xs := by
  rcases h.2 with ⟨rfl, h0⟩ | ⟨g, cap, cur, rfl, _, _, h1, h2, _⟩
  · obtain rfl := List.eq_nil_of_length_eq_zero h0
    exact ⟨none, 0, rfl, by simp, Reads.nil, by simp⟩
  · exact ⟨_, _, rfl, ⟨h1, h2⟩, Reads.of_row h, fun ad e _ => ⟨g, 0, by simpa using e.symm⟩⟩

set_option maxHeartbeats 1000000 in
theorem same_walk (a b : Value) (xs : List Int) (w : World) (ha : Ints w a xs) (hb : Ints w b xs) :
    Calls Try.prog 16 #[a, b] w fun e w' => e = .returned (.bool true) ∧ ∃ n, w' = w.drewN n := by
  have HA := Go.Lib.hid ha
  have HB := Go.Lib.hid hb
  obtain ⟨A, c, rfl, ⟨hl1, hl⟩, _, _⟩ := ha
  obtain ⟨B, d, rfl, _, _, _⟩ := hb
  unfold maxLen at hl
  go_enter Try.func16, Try.ntmps16
  go_wp2
  go_loopw [5] (fun i wr => ∃ k n : Nat, k ≤ xs.length ∧ i = .int .i64 k ∧ wr = w.drewN n) (fun i _ => xs.length - (intOf i).toNat)
  case atStart => exact ⟨0, 0, Nat.zero_le _, rfl, rfl⟩
  case round =>
    obtain ⟨k, n, hk, rfl, rfl⟩ := hrel
    by_cases hlt : k < xs.length
    · obtain ⟨b1, o1, rfl, h1⟩ := HA.out.cell hlt
      obtain ⟨b2, o2, rfl, h2⟩ := HB.out.cell hlt
      go_wp2
      go_quiet (fail)
      go_wp2
      go_roundw
      case rel => exact ⟨k + 1, _, by omega, by go_num, rfl⟩
      case measure => simp [intOf]; omega
    · obtain rfl : k = xs.length := by omega
      go_wp2
      go_ret
      exact ⟨rfl, _, rfl⟩

/-- The numbers behind the first k. -/
theorem Ints.cut {w : World} {A : Option Addr} {n c k : Nat} {xs : List Int} (h : Ints w (.slice A n c) xs) (hk : k ≤ xs.length) : Reads w (if c = k then A else A.map (·.add k)) 1 (xs.length - k) ((xs.drop k).map (Value.int .i64)) := by
  obtain ⟨A', c', e, hl, hr, hs⟩ := h
  obtain ⟨rfl, _, rfl⟩ : A = A' ∧ _ ∧ c = c' := by simpa using e
  refine ⟨by simp, fun hn => ?_⟩
  obtain ⟨ad, rfl, hc⟩ := hr.2 (by omega)
  obtain ⟨b, off, rfl⟩ := hs ad rfl (by omega)
  rw [if_neg (by omega)]
  refine ⟨_, rfl, fun j u hu => ?_⟩
  have := hc (k + j) u (by rw [← hu]; simp)
  rw [add_plain] at this
  show w.cell? (((⟨b, off, none⟩ : Addr).add k).add j) = some u
  rw [add_plain, add_plain, Nat.add_assoc]
  exact this

theorem set3 (w : World) (b : Nat) (x y z : Value) : Alters (fun k => k = b) w (((w.setCell ⟨b, 0, none⟩ x).setCell ⟨b, 1, none⟩ y).setCell ⟨b, 2, none⟩ z) :=
  (((Alters.refl (p := fun k => k = b) w).set (q := ⟨b, 0, none⟩) (fun _ => rfl) x).set (q := ⟨b, 1, none⟩) (fun _ => rfl) y).set (q := ⟨b, 2, none⟩) (fun _ => rfl) z

theorem Ints.off3 {w : World} {v : Value} {xs : List Int} (h : Ints w v xs) {b : Nat} (hv : ∀ k, v.ownBlock = some k → k ≠ b) (x y z : Value) : Ints (((w.setCell ⟨b, 0, none⟩ x).setCell ⟨b, 1, none⟩ y).setCell ⟨b, 2, none⟩ z) v xs := by
  obtain ⟨A, c, rfl, hl, hr, hs⟩ := h
  exact ⟨A, c, rfl, hl, hr.keep (set3 w b x y z) (fun ad e _ => hv ad.block (by rw [e]; rfl)), hs⟩

theorem Reads.one (w : World) (x : Int) : Reads (w.alloc (.cells #[.int .i64 x] 3)) (some ⟨w.heap.size, 0, none⟩) 1 1 [.int .i64 x] :=
  ⟨rfl, fun _ => ⟨_, rfl, fun j u hu => by
    cases j with
    | zero => simp at hu; subst hu; exact (Blk.new w #[.int .i64 x] 3).cell 0 rfl
    | succ j => simp at hu⟩⟩

theorem Reads.one_at (w : World) (n : Nat) (x : Int) (h : n = w.heap.size) : Reads (w.alloc (.cells #[.int .i64 x] 3)) (some ⟨n, 0, none⟩) 1 1 [.int .i64 x] := by
  subst h; exact Reads.one w x

theorem row_slice {w : World} {base e size n : Nat} {v : Value} {xs : List Value} (h : w.ownsRow base e size v n xs) : ∃ A c, v = .slice A n c := by
  rcases h.2 with ⟨rfl, rfl⟩ | ⟨g, cap, cur, rfl, _⟩
  · exact ⟨_, _, rfl⟩
  · exact ⟨_, _, rfl⟩

/-- A slice that lies in memory made between the two worlds. -/
def Fresh (w w' : World) (v : Value) : Prop := ∀ k, v.ownBlock = some k → w.heap.size ≤ k ∧ k < w'.heap.size

theorem Fresh.set3 {w w' : World} {v : Value} (h : Fresh w w' v) (b : Nat) (x y z : Value) : Fresh w (((w'.setCell ⟨b, 0, none⟩ x).setCell ⟨b, 1, none⟩ y).setCell ⟨b, 2, none⟩ z) v := fun k e => by
  have := h k e
  simpa using this

theorem fresh_row {w w' : World} {base e size n : Nat} {v : Value} {xs : List Value} (h : w'.ownsRow base e size v n xs) (hb : w.heap.size ≤ base) : Fresh w w' v := fun k e => by
  have := h.lt k e
  omega

theorem refpop_nil (room : Nat) (old : Bool) (v : Value) (w : World) (h : Ints w v []) :
    Calls Try.prog 13 #[.agg #[.int .i64 room, .bool old, v]] w fun e w' => e = .returned (.tuple #[.agg #[.int .i64 room, .bool old, v], .int .i64 0, .bool false]) ∧ Quiet w w' := by
  obtain ⟨A, c, rfl, _, _, _⟩ := h
  go_enter Try.func13, Try.ntmps13
  go_wp2
  exact bodyPost_ret (v := .tuple #[.agg #[.int .i64 room, .bool old, .slice A 0 c], .int .i64 0, .bool false]) (by simp [results, Try.results13, go_sem]) rfl ⟨rfl, ((Alters.refl _).alloc _).alloc _⟩

theorem refpush_full (room : Nat) (v : Value) (x : Int) (xs : List Int) (w : World) (h : Ints w v xs) (hl : xs.length = room) :
    Calls Try.prog 11 #[.agg #[.int .i64 room, .bool false, v], .int .i64 x] w fun e w' => e = .returned (.tuple #[.agg #[.int .i64 room, .bool false, v], .int .i64 x, .bool true]) ∧ Quiet w w' := by
  obtain ⟨A, c, rfl, _, _, _⟩ := h
  have hle : ¬ xs.length < room := by omega
  clear hl
  go_enter Try.func11, Try.ntmps11
  go_wp2
  exact bodyPost_ret (v := .tuple #[.agg #[.int .i64 room, .bool false, .slice A xs.length c], .int .i64 x, .bool true]) (by simp [results, Try.results11, go_sem]) rfl ⟨rfl, ((Alters.refl _).alloc _).alloc _⟩

set_option maxHeartbeats 1000000 in
theorem refpop_cons (room : Nat) (old : Bool) (v : Value) (y : Int) (xs : List Int) (w : World) (h : Ints w v (y :: xs)) (h64 : xs.length ≤ 64) :
    Calls Try.prog 13 #[.agg #[.int .i64 room, .bool old, v]] w fun e w' => ∃ v', e = .returned (.tuple #[.agg #[.int .i64 room, .bool old, v'], .int .i64 y, .bool true]) ∧ Ints w' v' xs ∧ Fresh w w' v' ∧ Quiet w w' := by
  have HI := Go.Lib.hid h
  obtain ⟨A, c, rfl, ⟨hl1, hl2⟩, _, _⟩ := h
  obtain ⟨b, off, rfl, h0⟩ := HI.out.cell (k := 0) (by simp)
  simp at h0
  obtain ⟨i0, hi, hz0, hz1, hz2⟩ := info_parts info3
  unfold maxLen at hl2
  simp only [List.length_cons] at hl1 ⊢
  have bl := block_lt_of_cell h0
  have hb : b < w.heap.size := bl
  by_cases hc1 : c = 1
  · subst hc1
    obtain rfl : xs = [] := List.eq_nil_of_length_eq_zero (by omega)
    clear hi hz0 hz1 hz2 bl
    go_enter Try.func13, Try.ntmps13
    go_wp2
    go_region
    go_wp2
    refine bodyPost_ret (v := .tuple #[.agg #[.int .i64 room, .bool old, .slice none 0 0], .int .i64 y, .bool true]) (by simp [results, Try.results13, go_sem]) rfl ⟨_, rfl, Ints.of_row (World.ownsRow_nil _ 0 _ _), fun k e => by simp [Value.ownBlock] at e, ?_⟩
    exact (((Alters.refl _).alloc _).alloc _).drew
  · have hrd := HI.out.cut (k := 1) (by simp)
    rw [if_neg hc1] at hrd
    simp only [Option.map_some, add_plain, List.length_cons, Nat.add_sub_cancel, List.drop_one, List.tail_cons] at hrd
    have hq : Quiet w ((w.alloc (.cells #[.int .i64 room, .bool old, .slice (some ⟨b, off, none⟩) (xs.length + 1) c] 30)).alloc (.cells #[.int .i64 0, .bool false, .slice none 0 0] 30)) := ((Alters.refl _).alloc _).alloc _
    have hr2 := hrd.quiet hq
    have hb1 := (Blk.new w #[.int .i64 room, .bool old, .slice (some ⟨b, off, none⟩) (xs.length + 1) c] 30).alloc (.cells #[.int .i64 0, .bool false, .slice none 0 0] 30)
    have hb2 := Blk.new (w.alloc (.cells #[.int .i64 room, .bool old, .slice (some ⟨b, off, none⟩) (xs.length + 1) c] 30)) #[.int .i64 0, .bool false, .slice none 0 0] 30
    go_enter Try.func13, Try.ntmps13
    go_wp2_with (at_builtin; refine wpList_append_reads _ rfl (.tmp 11) (.tmp 14) 28 rfl (w.heap.size + 2) 3 i0 (.int .i64 0) 1 8 Try.underlying28 hi hz0 hz1 hz2 rfl (by decide) _ 0 [] rfl (World.ownsRow_nil _ _ _ _) _ xs.length (c - 1) _ rfl hr2 ?c1 ?c2 ?c3 ?c4 ?c5)
    case c1 => intro u _; rfl
    case c2 => unfold maxLen; omega
    case c3 => omega
    case c5 =>
      intro v' w1 hown hgrow _
      have hA : Quiet _ w1 := (Alters.refl _).grown hgrow (fun k e => by cases e)
      have b1 := hA.blk hb1 (by simp)
      have b2 := hA.blk hb2 (by simp)
      simp only [World.size_alloc] at b2
      have e0 := b1.cell 0 rfl
      have e1 := b1.cell 1 rfl
      have e2 := b1.cell 2 rfl
      have f0 := b2.cell 0 rfl
      have f1 := b2.cell 1 rfl
      have f2 := b2.cell 2 rfl
      have ff := fun i => b2.free i
      have h1 := (hq.trans hA).cell h0 (by simp)
      obtain ⟨A2, c2, rfl⟩ := row_slice hown
      have HO := Go.Lib.hid hown
      have HQ := Go.Lib.hid (hq.trans hA)
      clear hown hgrow hA b1 b2 hr2 hq hrd hb1 hb2 hi hz0 hz1 hz2 h0
      go_wp2
      go_region
      go_wp2
      refine bodyPost_ret (v := .tuple #[.agg #[.int .i64 room, .bool old, .slice A2 xs.length c2], .int .i64 y, .bool true]) (by simp [results, Try.results13, go_sem, f0, f1, f2]) rfl ⟨_, rfl, ?_, (fresh_row HO.out (by omega)).set3 _ _ _ _, ?_⟩
      · exact ((Ints.of_row HO.out).off3 (fun k e => by have := (HO.out.lt k e).1; omega) _ _ _).quiet (Alters.refl _).drew
      · exact (HQ.out.then (set3 _ _ _ _ _) (fun i hi e => by omega)).drew

set_option maxHeartbeats 1000000 in
theorem refpush_room (room : Nat) (old : Bool) (v : Value) (x : Int) (xs : List Int) (w : World) (h : Ints w v xs) (hl : xs.length < room) (h64 : room ≤ 64) :
    Calls Try.prog 11 #[.agg #[.int .i64 room, .bool old, v], .int .i64 x] w fun e w' => ∃ v', e = .returned (.tuple #[.agg #[.int .i64 room, .bool old, v'], .int .i64 0, .bool false]) ∧ Ints w' v' (xs ++ [x]) ∧ Fresh w w' v' ∧ Quiet w w' := by
  have HI := Go.Lib.hid h
  obtain ⟨A, c, rfl, ⟨hl1, hl2⟩, hrd, _⟩ := h
  obtain ⟨i0, hi, hz0, hz1, hz2⟩ := info_parts info3
  unfold maxLen at hl2
  have hq : Quiet w ((w.alloc (.cells #[.int .i64 room, .bool old, .slice A xs.length c] 30)).alloc (.cells #[.int .i64 0, .bool false, .slice none 0 0] 30)) := ((Alters.refl _).alloc _).alloc _
  have hr2 := hrd.quiet hq
  have hb1 := (Blk.new w #[.int .i64 room, .bool old, .slice A xs.length c] 30).alloc (.cells #[.int .i64 0, .bool false, .slice none 0 0] 30)
  have hb2 := Blk.new (w.alloc (.cells #[.int .i64 room, .bool old, .slice A xs.length c] 30)) #[.int .i64 0, .bool false, .slice none 0 0] 30
  go_enter Try.func11, Try.ntmps11
  go_wp2_with (at_builtin; refine wpList_append_reads _ rfl (.tmp 15) (.tmp 17) 28 rfl (w.heap.size + 2) 3 i0 (.int .i64 0) 1 8 Try.underlying28 hi hz0 hz1 hz2 rfl (by decide) _ 0 [] rfl (World.ownsRow_nil _ _ _ _) _ xs.length c _ rfl hr2 ?c1 ?c2 ?c3 ?c4 ?c5)
  case c1 => intro u hu; obtain ⟨z, _, rfl⟩ := List.mem_map.1 hu; rfl
  case c2 => unfold maxLen; omega
  case c3 => omega
  case c4 => simp
  case c5 =>
    intro v1 w1 hown hgrow hat
    have hA : Quiet _ w1 := (Alters.refl _).grown hgrow (fun k e => by cases e)
    have b1 := hA.blk hb1 (by simp)
    have b2 := hA.blk hb2 (by simp)
    have hs1 := hA.size
    simp only [World.size_alloc] at b2 hs1
    have HB := Go.Lib.hid (And.intro b1 b2)
    have HO := Go.Lib.hid hown
    have HQ := Go.Lib.hid (hq.trans hA)
    clear hgrow hat hA b1 b2 hr2 hq hrd hb1 hb2
    go_wp2_with (at_builtin; refine wpList_append_reads _ rfl (.tmp 19) (.tmp 21) 28 rfl (w.heap.size + 2) 3 i0 (.int .i64 0) 1 8 Try.underlying28 hi hz0 hz1 hz2 rfl (by decide) _ xs.length _ rfl (HO.out.alloc _) (some ⟨w1.heap.size, 0, none⟩) 1 1 [.int .i64 x] rfl (Reads.one w1 x) ?d1 ?d2 ?d3 ?d4 ?d5)
    case d1 => intro u hu; simp at hu; subst hu; rfl
    case d2 => unfold maxLen; omega
    case d3 => omega
    case d4 => simp; omega
    case d5 =>
      intro v2 w2 hown2 hgrow2 hat2
      have hne : ∀ k, v1.ownBlock = some k → w.heap.size + 2 ≤ k := fun k e => (HO.out.lt k e).1
      have hA2 : Alters (fun k => v1.ownBlock = some k) w1 w2 := ((Alters.refl _).alloc _).grown hgrow2 (fun k e _ => e)
      have b1 := hA2.blk HB.out.1 (fun e => by have := hne _ e; omega)
      have b2 := hA2.blk HB.out.2 (fun e => by have := hne _ e; omega)
      have e0 := b1.cell 0 rfl
      have e1 := b1.cell 1 rfl
      have e2 := b1.cell 2 rfl
      have f0 := b2.cell 0 rfl
      have f1 := b2.cell 1 rfl
      have f2 := b2.cell 2 rfl
      have ff := fun i => b2.free i
      obtain ⟨A2, c2, rfl⟩ := row_slice hown2
      have HO2 := Go.Lib.hid hown2
      have HQ2 := Go.Lib.hid (HQ.out.then hA2 (fun i hi e => by have := hne _ e; omega))
      clear hown hown2 hgrow2 hat2 hne hA2 b1 b2 hi hz0 hz1 hz2 HQ HO HB
      go_wp2
      refine bodyPost_ret (v := .tuple #[.agg #[.int .i64 room, .bool old, .slice A2 (xs.length + 1) c2], .int .i64 0, .bool false]) (by simp [results, Try.results11, go_sem, f0, f1, f2]) rfl ⟨_, rfl, ?_, (fresh_row HO2.out (by omega)).set3 _ _ _ _, HQ2.out.then (set3 _ _ _ _ _) (fun i hi e => by omega)⟩
      have hi2 : Ints w2 (.slice A2 (xs.length + 1) c2) (xs ++ [x]) := Ints.of_row (base := w.heap.size + 2) (by simpa using HO2.out)
      exact hi2.off3 (fun k e => by have := (HO2.out.lt k e).1; omega) _ _ _

set_option maxHeartbeats 1000000 in
theorem refpush_old (room : Nat) (v : Value) (x y : Int) (xs : List Int) (w : World) (h : Ints w v (y :: xs)) (hl : xs.length + 1 = room) (h64 : room ≤ 64) :
    Calls Try.prog 11 #[.agg #[.int .i64 room, .bool true, v], .int .i64 x] w fun e w' => ∃ v', e = .returned (.tuple #[.agg #[.int .i64 room, .bool true, v'], .int .i64 y, .bool true]) ∧ Ints w' v' (xs ++ [x]) ∧ Fresh w w' v' ∧ Quiet w w' := by
  have HI := Go.Lib.hid h
  obtain ⟨A, c, rfl, ⟨hl1, hl2⟩, hrd, _⟩ := h
  obtain ⟨b, off, rfl, h0⟩ := HI.out.cell (k := 0) (by simp)
  simp at h0
  obtain ⟨i0, hi, hz0, hz1, hz2⟩ := info_parts info3
  unfold maxLen at hl2
  simp only [List.length_cons] at hl1 ⊢
  have bl := block_lt_of_cell h0
  have hb : b < w.heap.size := bl
  have hle : room ≤ xs.length + 1 := by omega
  have hx63 : xs.length ≤ 63 := by omega
  clear hl bl hrd
  by_cases hc1 : c = 1
  · subst hc1
    obtain rfl : xs = [] := List.eq_nil_of_length_eq_zero (by omega)
    have hb1 := (Blk.new w #[.int .i64 room, .bool true, .slice (some ⟨b, off, none⟩) 1 1] 30).alloc (.cells #[.int .i64 0, .bool false, .slice none 0 0] 30)
    have hb2 := Blk.new (w.alloc (.cells #[.int .i64 room, .bool true, .slice (some ⟨b, off, none⟩) 1 1] 30)) #[.int .i64 0, .bool false, .slice none 0 0] 30
    simp only [World.size_alloc] at hb2
    have hq : Quiet w ((w.alloc (.cells #[.int .i64 room, .bool true, .slice (some ⟨b, off, none⟩) 1 1] 30)).alloc (.cells #[.int .i64 0, .bool false, .slice none 0 0] 30)) := ((Alters.refl _).alloc _).alloc _
    have hs1 : w.heap.size + 2 ≤ ((w.alloc (.cells #[.int .i64 room, .bool true, .slice (some ⟨b, off, none⟩) 1 1] 30)).alloc (.cells #[.int .i64 0, .bool false, .slice none 0 0] 30)).heap.size := by simp
    have HB := Go.Lib.hid (And.intro hb1 hb2)
    have HQ := Go.Lib.hid hq
    have HO := Go.Lib.hid (World.ownsRow_nil ((w.alloc (.cells #[.int .i64 room, .bool true, .slice (some ⟨b, off, none⟩) 1 1] 30)).alloc (.cells #[.int .i64 0, .bool false, .slice none 0 0] 30)) (w.heap.size + 2) 3 1)
    clear hb1 hb2 hq
    go_enter Try.func11, Try.ntmps11
    go_wp2_with (at_builtin; refine wpList_append_reads _ rfl (.tmp 39) (.tmp 41) 28 rfl (w.heap.size + 2) 3 i0 (.int .i64 0) 1 8 Try.underlying28 hi hz0 hz1 hz2 rfl (by decide) _ 0 [] rfl (World.ownsRow_nil _ _ _ _) _ 1 1 [.int .i64 x] rfl (Reads.one_at _ _ x (by simp)) ?d1 ?d2 ?d3 ?d4 ?d5)
    case d1 => intro u hu; simp at hu; subst hu; rfl
    case d2 => unfold maxLen; simp
    case d3 => simp
    case d4 => simp
    case d5 =>
      intro v2 w2 hown2 hgrow2 hat2
      have hne : ∀ k, (Value.slice none 0 0).ownBlock = some k → w.heap.size + 2 ≤ k := fun k e => (HO.out.lt k e).1
      have hA2 : Alters (fun k => (Value.slice none 0 0).ownBlock = some k) _ w2 := ((Alters.refl _).alloc _).grown hgrow2 (fun k e _ => e)
      have b1 := hA2.blk HB.out.1 (fun e => by have := hne _ e; omega)
      have b2 := hA2.blk HB.out.2 (fun e => by have := hne _ e; omega)
      have e0 := b1.cell 0 rfl
      have e1 := b1.cell 1 rfl
      have e2 := b1.cell 2 rfl
      have f0 := b2.cell 0 rfl
      have f1 := b2.cell 1 rfl
      have f2 := b2.cell 2 rfl
      have ff := fun i => b2.free i
      obtain ⟨A2, c2, rfl⟩ := row_slice hown2
      have HO2 := Go.Lib.hid hown2
      have hq2 := HQ.out.then hA2 (fun i hi e => by have := hne _ e; omega)
      have h1 := hq2.cell h0 (by simp)
      have HQ2 := Go.Lib.hid hq2
      clear hown2 hgrow2 hat2 hne hA2 b1 b2 hi hz0 hz1 hz2 HQ HO HB hq2 h0
      go_wp2
      go_region
      go_wp2
      refine bodyPost_ret (v := .tuple #[.agg #[.int .i64 room, .bool true, .slice A2 1 c2], .int .i64 y, .bool true]) (by simp [results, Try.results11, go_sem, f0, f1, f2]) rfl ⟨_, rfl, ?_, (fresh_row HO2.out (by omega)).set3 _ _ _ _, (HQ2.out.then (set3 _ _ _ _ _) (fun i hi e => by omega)).drew⟩
      have hi2 : Ints w2 (.slice A2 1 c2) [x] := Ints.of_row (base := w.heap.size + 2) (by simpa using HO2.out)
      exact (hi2.off3 (fun k e => by have := (HO2.out.lt k e).1; omega) _ _ _).quiet (Alters.refl _).drew
  · have hrd := HI.out.cut (k := 1) (by simp)
    rw [if_neg hc1] at hrd
    simp only [Option.map_some, add_plain, List.length_cons, Nat.add_sub_cancel, List.drop_one, List.tail_cons] at hrd
    have hq : Quiet w ((w.alloc (.cells #[.int .i64 room, .bool true, .slice (some ⟨b, off, none⟩) (xs.length + 1) c] 30)).alloc (.cells #[.int .i64 0, .bool false, .slice none 0 0] 30)) := ((Alters.refl _).alloc _).alloc _
    have hr2 := hrd.quiet hq
    have hb1 := (Blk.new w #[.int .i64 room, .bool true, .slice (some ⟨b, off, none⟩) (xs.length + 1) c] 30).alloc (.cells #[.int .i64 0, .bool false, .slice none 0 0] 30)
    have hb2 := Blk.new (w.alloc (.cells #[.int .i64 room, .bool true, .slice (some ⟨b, off, none⟩) (xs.length + 1) c] 30)) #[.int .i64 0, .bool false, .slice none 0 0] 30
    go_enter Try.func11, Try.ntmps11
    go_wp2_with (at_builtin; refine wpList_append_reads _ rfl (.tmp 34) (.tmp 37) 28 rfl (w.heap.size + 2) 3 i0 (.int .i64 0) 1 8 Try.underlying28 hi hz0 hz1 hz2 rfl (by decide) _ 0 [] rfl (World.ownsRow_nil _ _ _ _) _ xs.length (c - 1) _ rfl hr2 ?c1 ?c2 ?c3 ?c4 ?c5)
    case c1 => intro u hu; obtain ⟨z, _, rfl⟩ := List.mem_map.1 hu; rfl
    case c2 => unfold maxLen; omega
    case c3 => omega
    case c4 => simp
    case c5 =>
      intro v1 w1 hown hgrow hat
      have hA : Quiet _ w1 := (Alters.refl _).grown hgrow (fun k e => by cases e)
      have b1 := hA.blk hb1 (by simp)
      have b2 := hA.blk hb2 (by simp)
      have hs1 := hA.size
      simp only [World.size_alloc] at b2 hs1
      have HB := Go.Lib.hid (And.intro b1 b2)
      have HO := Go.Lib.hid hown
      have HQ := Go.Lib.hid (hq.trans hA)
      clear hown hgrow hat hA b1 b2 hr2 hq hrd hb1 hb2
      go_wp2_with (at_builtin; refine wpList_append_reads _ rfl (.tmp 39) (.tmp 41) 28 rfl (w.heap.size + 2) 3 i0 (.int .i64 0) 1 8 Try.underlying28 hi hz0 hz1 hz2 rfl (by decide) _ xs.length _ rfl (HO.out.alloc _) (some ⟨w1.heap.size, 0, none⟩) 1 1 [.int .i64 x] rfl (Reads.one w1 x) ?d1 ?d2 ?d3 ?d4 ?d5)
      case d1 => intro u hu; simp at hu; subst hu; rfl
      case d2 => unfold maxLen; omega
      case d3 => omega
      case d4 => simp; omega
      case d5 =>
        intro v2 w2 hown2 hgrow2 hat2
        have hne : ∀ k, v1.ownBlock = some k → w.heap.size + 2 ≤ k := fun k e => (HO.out.lt k e).1
        have hA2 : Alters (fun k => v1.ownBlock = some k) w1 w2 := ((Alters.refl _).alloc _).grown hgrow2 (fun k e _ => e)
        have b1 := hA2.blk HB.out.1 (fun e => by have := hne _ e; omega)
        have b2 := hA2.blk HB.out.2 (fun e => by have := hne _ e; omega)
        have e0 := b1.cell 0 rfl
        have e1 := b1.cell 1 rfl
        have e2 := b1.cell 2 rfl
        have f0 := b2.cell 0 rfl
        have f1 := b2.cell 1 rfl
        have f2 := b2.cell 2 rfl
        have ff := fun i => b2.free i
        obtain ⟨A2, c2, rfl⟩ := row_slice hown2
        have HO2 := Go.Lib.hid hown2
        have hq2 := HQ.out.then hA2 (fun i hi e => by have := hne _ e; omega)
        have h1 := hq2.cell h0 (by simp)
        have HQ2 := Go.Lib.hid hq2
        clear hown2 hgrow2 hat2 hne hA2 b1 b2 hi hz0 hz1 hz2 HQ HO HB hq2 h0
        go_wp2
        go_region
        go_wp2
        refine bodyPost_ret (v := .tuple #[.agg #[.int .i64 room, .bool true, .slice A2 (xs.length + 1) c2], .int .i64 y, .bool true]) (by simp [results, Try.results11, go_sem, f0, f1, f2]) rfl ⟨_, rfl, ?_, (fresh_row HO2.out (by omega)).set3 _ _ _ _, (HQ2.out.then (set3 _ _ _ _ _) (fun i hi e => by omega)).drew⟩
        have hi2 : Ints w2 (.slice A2 (xs.length + 1) c2) (xs ++ [x]) := Ints.of_row (base := w.heap.size + 2) (by simpa using HO2.out)
        exact (hi2.off3 (fun k e => by have := (HO2.out.lt k e).1; omega) _ _ _).quiet (Alters.refl _).drew

/-- Behind a step of the reference: its list, in memory where it was, or new. -/
def Next (w w' : World) (v v' : Value) (xs : List Int) : Prop := Ints w' v' xs ∧ (∀ k, v'.ownBlock = some k → v.ownBlock = some k ∨ (w.heap.size ≤ k ∧ k < w'.heap.size)) ∧ Quiet w w'

theorem refpop_in (room : Nat) (old : Bool) (v : Value) (xs : List Int) (w : World) (h : Ints w v xs) (h64 : xs.length ≤ 64) :
    Calls Try.prog 13 #[.agg #[.int .i64 room, .bool old, v]] w fun e w' => ∃ v', e = .returned (.tuple #[.agg #[.int .i64 room, .bool old, v'], .int .i64 (xs.headD 0), .bool (!xs.isEmpty)]) ∧ Next w w' v v' xs.tail := by
  cases xs with
  | nil =>
    refine (refpop_nil room old v w h).mono ?_
    rintro e w' ⟨rfl, hq⟩
    exact ⟨v, rfl, h.quiet hq, fun k e => .inl e, hq⟩
  | cons y r =>
    refine (refpop_cons room old v y r w h (by simp at h64; omega)).mono ?_
    rintro e w' ⟨v', rfl, hi, hf, hq⟩
    exact ⟨v', rfl, hi, fun k e => .inr (hf k e), hq⟩

theorem refpush_in (room : Nat) (old : Bool) (v : Value) (x : Int) (xs : List Int) (w : World) (h : Ints w v xs) (hl : xs.length ≤ room) (h1 : 1 ≤ room) (h64 : room ≤ 64) :
    Calls Try.prog 11 #[.agg #[.int .i64 room, .bool old, v], .int .i64 x] w fun e w' => ∃ v', e = .returned (.tuple #[.agg #[.int .i64 room, .bool old, v'], .int .i64 (told room old xs x), .bool (isShed room xs)]) ∧ Next w w' v v' (pushed room old xs x) := by
  by_cases hlt : xs.length < room
  · have e1 : told room old xs x = 0 := by unfold told; rw [if_pos hlt]
    have e2 : pushed room old xs x = xs ++ [x] := by unfold pushed; rw [if_pos hlt]
    have e3 : isShed room xs = false := by simp [isShed]; omega
    rw [e1, e2, e3]
    refine (refpush_room room old v x xs w h hlt h64).mono ?_
    rintro e w' ⟨v', rfl, hi, hf, hq⟩
    exact ⟨v', rfl, hi, fun k e => .inr (hf k e), hq⟩
  · have e3 : isShed room xs = true := by simp [isShed]; omega
    rw [e3]
    cases old
    · have e1 : told room false xs x = x := by unfold told; rw [if_neg hlt]; rfl
      have e2 : pushed room false xs x = xs := by unfold pushed; rw [if_neg hlt]; rfl
      rw [e1, e2]
      refine (refpush_full room v x xs w h (by omega)).mono ?_
      rintro e w' ⟨rfl, hq⟩
      exact ⟨v, rfl, h.quiet hq, fun k e => .inl e, hq⟩
    · cases xs with
      | nil => simp at hlt; omega
      | cons y r =>
        have e1 : told room true (y :: r) x = y := by unfold told; rw [if_neg hlt]; rfl
        have e2 : pushed room true (y :: r) x = r ++ [x] := by unfold pushed; rw [if_neg hlt]; rfl
        rw [e1, e2]
        refine (refpush_old room v x y r w h (by simp at hlt hl; omega) h64).mono ?_
        rintro e w' ⟨v', rfl, hi, hf, hq⟩
        exact ⟨v', rfl, hi, fun k e => .inr (hf k e), hq⟩
end Go.Proofs.Ythlekeaebefhfaa
