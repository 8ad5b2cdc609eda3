/- The walk of the law's own example. No condition. -/
import Derived.Test.YthlekeaebefhfaaRefs
namespace Go.Proofs.Ythlekeaebefhfaa
open Go.RowKit Go.Lo Go.WideShapes

theorem items_in (b : Nat) (D : Nat → Prop) (room : Nat) (old : Bool) (xs : List Int) (m : Nat) (w : World) (h : RingIn w b D room old xs) (hm : 1 ≤ m) (hm2 : m ≤ 1000) :
    Calls Try.prog 17 #[.pointer (some ⟨b, 0, none⟩), .int .i64 m] w fun e w' => ∃ v', e = .returned v' ∧ Ints w' v' (xs.take m) ∧ (∀ k, v'.ownBlock = some k → w.heap.size ≤ k) ∧ Quiet w w' := by
  obtain ⟨v, hr, _, _⟩ := h
  refine (items_walk b v room old xs m w hr hm hm2).mono ?_
  rintro e w' ⟨v', rfl, ho, hq⟩
  exact ⟨v', rfl, Ints.of_row ho, fun k e => (ho.lt k e).1, hq⟩

theorem push_c (b : Nat) (D : Nat → Prop) (room : Nat) (old : Bool) (x y : Int) (q : Bool) (xs ys : List Int) (w : World) (h : RingIn w b D room old xs) (e1 : told room old xs x = y) (e2 : isShed room xs = q) (e3 : pushed room old xs x = ys) :
    Calls Try.prog 10 #[.pointer (some ⟨b, 0, none⟩), .int .i64 x] w fun e w' => e = .returned (.tuple #[.int .i64 y, .bool q]) ∧ StepIn w w' b D room old ys := by
  subst e1; subst e2; subst e3
  exact push_in b D room old x xs w h

/-- Two sets of blocks share none. -/
def Far (D E : Nat → Prop) : Prop := ∀ k, D k → ¬ E k

theorem Far.symm {D E : Nat → Prop} (h : Far D E) : Far E D := fun k h1 h2 => h k h2 h1

theorem Far.grew {D D' E : Nat → Prop} {w w' : World} (h : Far D E) (hg : Grew D D' w w') (hE : ∀ k, E k → k < w.heap.size) : Far D' E := fun k h1 h2 => by
  rcases hg k h1 with h3 | h3
  · exact h k h3 h2
  · have := hE k h2; omega

/-- Two rings beside each other, made since w0. -/
structure Pair (w0 w : World) (b1 : Nat) (D1 : Nat → Prop) (old1 : Bool) (xs1 : List Int) (b2 : Nat) (D2 : Nat → Prop) (old2 : Bool) (xs2 : List Int) : Prop where
  r1 : RingIn w b1 D1 2 old1 xs1
  r2 : RingIn w b2 D2 2 old2 xs2
  far : Far D1 D2
  low1 : ∀ k, D1 k → w0.heap.size ≤ k ∧ k < w.heap.size
  low2 : ∀ k, D2 k → w0.heap.size ≤ k ∧ k < w.heap.size
  quiet : Quiet w0 w

theorem Pair.step {w0 w w' : World} {b1 b2 : Nat} {D1 D2 : Nat → Prop} {old1 old2 : Bool} {xs1 xs2 ys : List Int} (h : Pair w0 w b1 D1 old1 xs1 b2 D2 old2 xs2) (hs : StepIn w w' b1 D1 2 old1 ys) : ∃ D', Pair w0 w' b1 D' old1 ys b2 D2 old2 xs2 := by
  obtain ⟨D', r, g, a⟩ := hs
  have hz := a.size
  have hq := h.quiet.size
  refine ⟨D', r, h.r2.keep a (fun k h2 h1 => h.far k h1 h2), h.far.grew g (fun k h2 => (h.low2 k h2).2), fun k hk => ?_, fun k hk => ?_, h.quiet.then a (fun i hi hd => by have := (h.low1 i hd).1; omega)⟩
  · rcases g k hk with h1 | h1
    · have := h.low1 k h1; omega
    · omega
  · have := h.low2 k hk; omega

theorem Pair.swap {w0 w : World} {b1 b2 : Nat} {D1 D2 : Nat → Prop} {old1 old2 : Bool} {xs1 xs2 : List Int} (h : Pair w0 w b1 D1 old1 xs1 b2 D2 old2 xs2) : Pair w0 w b2 D2 old2 xs2 b1 D1 old1 xs1 :=
  ⟨h.r2, h.r1, h.far.symm, h.low2, h.low1, h.quiet⟩

set_option maxHeartbeats 1000000 in
theorem awake_walk (w : World) : Calls Try.prog 8 #[] w fun e w' => e = .returned (.bool true) ∧ Quiet w w' := by
  go_enter Try.func8, Try.ntmps8
  go_wp2_with fail
  refine (new_in 2 false w (by omega) (by omega)).mono ?_
  rintro e w1 ⟨rfl, r1, q1⟩
  go_wp2_with fail
  refine (new_in 2 true w1 (by omega) (by omega)).mono ?_
  rintro e w2 ⟨rfl, r2, q2⟩
  have hz := q1.size
  have l1 : w.heap.size < w1.heap.size := by obtain ⟨v, h, _⟩ := r1; exact h.own.lt
  have l2 : w1.heap.size < w2.heap.size := by obtain ⟨v, h, _⟩ := r2; exact h.own.lt
  have P0 : Pair w w2 w.heap.size (fun k => k = w.heap.size) false [] w1.heap.size (fun k => k = w1.heap.size) true [] :=
    ⟨r1.quiet q2, r2, fun k h1 h2 => by omega, fun k h => by omega, fun k h => by omega, q1.trans q2⟩
  clear r1 q1 r2 q2 hz l1 l2
  generalize w.heap.size = b1 at *
  generalize w1.heap.size = b2 at *
  go_wp2_with fail
  refine (new_bad 65 true w2 (.inr (by omega))).mono ?_
  rintro e w3 ⟨rfl, rfl⟩
  go_wp2_with fail
  refine (push_c _ _ _ _ 1 0 false [] [1] _ P0.r1 rfl rfl rfl).mono ?_
  rintro e w4 ⟨rfl, hs⟩
  obtain ⟨D1, P1⟩ := P0.step hs
  clear hs P0
  go_wp2_with fail
  refine (push_c _ _ _ _ 2 0 false [1] [1, 2] _ P1.r1 rfl rfl rfl).mono ?_
  rintro e w5 ⟨rfl, hs⟩
  obtain ⟨D2, P2⟩ := P1.step hs
  clear hs P1
  go_wp2_with fail
  refine (push_c _ _ _ _ 1 0 false [] [1] _ P2.r2 rfl rfl rfl).mono ?_
  rintro e w6 ⟨rfl, hs⟩
  obtain ⟨D3, P3⟩ := P2.swap.step hs
  clear hs P2
  go_wp2_with fail
  refine (push_c _ _ _ _ 2 0 false [1] [1, 2] _ P3.r1 rfl rfl rfl).mono ?_
  rintro e w7 ⟨rfl, hs⟩
  obtain ⟨D4, P4⟩ := P3.step hs
  clear hs P3
  go_wp2_with fail
  refine (push_c _ _ _ _ 3 3 true [1, 2] [1, 2] _ P4.r2 rfl rfl rfl).mono ?_
  rintro e w8 ⟨rfl, hs⟩
  obtain ⟨D5, P5⟩ := P4.swap.step hs
  clear hs P4
  go_wp2_with fail
  refine (push_c _ _ _ _ 3 1 true [1, 2] [2, 3] _ P5.r2 rfl rfl rfl).mono ?_
  rintro e w9 ⟨rfl, hs⟩
  obtain ⟨D6, P6⟩ := P5.swap.step hs
  clear hs P5
  go_wp2_with fail
  refine (head_in _ _ _ _ _ _ P6.r1).mono ?_
  rintro e w10 ⟨rfl, rfl⟩
  go_wp2_with fail
  refine (len_in _ _ _ _ _ _ P6.r2).mono ?_
  rintro e w11 ⟨rfl, rfl⟩
  go_wp2_with fail
  refine (items_in _ _ _ _ _ 9 _ P6.r1 (by omega) (by omega)).mono ?_
  rintro e w12 ⟨v', rfl, hi, _, q12⟩
  have q := P6.quiet.trans q12
  clear P6
  go_wp2_with fail
  have hi2 : Ints (w12.alloc (.cells #[.int .i64 2, .int .i64 3] 3)) v' [2, 3] := Ints.quiet (by simpa using hi) ((Alters.refl _).alloc _)
  have hj : Ints (w12.alloc (.cells #[.int .i64 2, .int .i64 3] 3)) (.slice (some ⟨w12.heap.size, 0, none⟩) 2 2) [2, 3] :=
    Ints.of_row (base := 0) ⟨rfl, .inr ⟨_, 2, _, rfl, Nat.zero_le _, Blk.new w12 _ _, by simp, by simp [maxLen], rfl, rfl⟩⟩
  refine (same_walk _ _ _ _ hi2 hj).mono ?_
  rintro e w13 ⟨rfl, n, rfl⟩
  have q13 := (q.alloc (.cells #[.int .i64 2, .int .i64 3] 3)).drewN n
  clear q hi hi2 hj q12
  go_wp2
  go_ret
  exact ⟨rfl, q13⟩
end Go.Proofs.Ythlekeaebefhfaa
