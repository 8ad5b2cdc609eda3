/- The walks of the reference's functions. No condition. -/
import Derived.Test.YtoebhifnfomkhaaClamps
import Derived.Test.YtoebhifnfomkhaaOwn
namespace Go.Proofs.Ytoebhifnfomkhaa
open Go.RowKit Go.Lo Go.WideShapes

set_option maxHeartbeats 1000000 in
theorem with_walk (v : Value) (n k : Nat) (f : Nat → Int) (x : Int) (w : World) (h : RowAt w v n f) (hn : n ≤ 8) (hk : k < n) :
    Calls Try.prog 19 #[v, .int .i64 k, .int .i64 x] w fun e w' => ∃ g' c', e = .returned (.slice (some ⟨g', 0, none⟩) n c') ∧ w.heap.size ≤ g' ∧ (∀ i, i < n → w'.cell? ⟨g', i, none⟩ = some (.int .i64 (put f k x i))) ∧ Quiet w w' := by
  obtain ⟨g, cap, rfl, hc⟩ := h
  obtain ⟨i0, hi, hz0, hz1, hz2⟩ := info_parts info3
  have hr : Reads w (some ⟨g, 0, none⟩) 1 n ((List.range n).map fun i => .int .i64 (f i)) := ⟨by simp, fun _ => ⟨_, rfl, fun j u hu => by
    have hj : j < n := by
      rcases Nat.lt_or_ge j n with h | h
      · exact h
      · rw [List.getElem?_eq_none (by simpa using h)] at hu; cases hu
    simp [hj] at hu
    subst hu
    rw [add_plain, Nat.zero_add]
    exact hc j hj⟩⟩
  clear hc
  go_enter Try.func19, Try.ntmps19
  go_wp2_with (at_builtin; refine wpList_append_reads _ rfl (.tmp 8) (.tmp 9) 22 rfl w.heap.size 3 i0 (.int .i64 0) 1 8 Try.underlying22 hi hz0 hz1 hz2 rfl (by decide) _ 0 [] rfl (World.ownsRow_nil _ _ _ _) _ n cap _ rfl hr ?c1 ?c2 ?c3 ?c4 ?c5)
  case c1 => intro u hu; obtain ⟨z, _, rfl⟩ := List.mem_map.1 hu; rfl
  case c2 => unfold maxLen; omega
  case c3 => omega
  case c4 => exact Nat.le_refl _
  case c5 =>
    intro v1 w1 hown hgrow _
    have hA : Quiet w w1 := (Alters.refl _).grown hgrow (fun k e => by cases e)
    rcases hown.2 with ⟨_, h0⟩ | ⟨g1, c1, cur, rfl, hg0, hg, h1, _, hz, ht⟩
    · omega
    · have hB : Blk w1 g1 cur 3 := hg
      have hx : ∀ i, i < n → cur[i]? = some (.int .i64 (f i)) := fun i hi => by
        have e : cur[i]? = (cur.toList.take (n * 1))[i]? := by rw [List.getElem?_take_of_lt (by omega)]; simp
        rw [e, ht]; simp [hi]
      have ck := hB.cell k (hx k hk)
      have ff := hB.free k
      have HX := Go.Lib.hid hx
      have HB := Go.Lib.hid hB
      have HA := Go.Lib.hid hA
      have HG0 := Go.Lib.hid hg0
      clear hown hgrow hA hB hx hg ht hz hr hi hz0 hz1 hz2
      go_wp2
      go_ret
      refine ⟨g1, c1, by simp, HG0.out, fun i hi => ?_, HA.out.then ((Alters.refl (p := fun j => j = g1) _).set (q := ⟨g1, k, none⟩) (fun _ => rfl) _) (fun i hi e => by omega)⟩
      have hs := HB.out.set k (.int .i64 x)
      refine hs.cell i ?_
      by_cases e : i = k
      · subst e
        have : i < cur.size := by
          rcases Nat.lt_or_ge i cur.size with h | h
          · exact h
          · have := HX.out i hi; rw [Array.getElem?_eq_none h] at this; cases this
        simp [put_same, this]
      · rw [put_other _ _ _ _ e, Array.getElem?_setIfInBounds_ne (fun h => e h.symm)]
        exact HX.out i hi

/-- The reference's value: the weights, the quantum, the deficits, the source, whether its visit has begun. -/
def refD (vw vl : Value) (q : Int) (p : Nat) (b : Bool) : Value := .agg #[vw, .int .i64 q, vl, .int .i64 p, .bool b]

theorem on_walk (A1 A2 : Option Addr) (n1 c1 n c2 : Nat) (q : Int) (p : Nat) (b : Bool) (w : World) (hn : 1 ≤ n) (hn8 : n ≤ 8) (hp : p < n) :
    Calls Try.prog 20 #[refD (.slice A1 n1 c1) (.slice A2 n c2) q p b] w fun e w' => e = .returned (refD (.slice A1 n1 c1) (.slice A2 n c2) q ((p + 1) % n) false) ∧ Quiet w w' := by
  unfold refD
  go_enter Try.func20, Try.ntmps20
  go_wp2
  exact bodyPost_ret (v := .agg #[.slice A1 n1 c1, .int .i64 q, .slice A2 n c2, .int .i64 (((p + 1) % n : Nat) : Int), .bool false]) (by simp [results, Try.results20, go_sem]) rfl ⟨rfl, ((Alters.refl _).alloc _).alloc _⟩

theorem set5 (w : World) (b : Nat) (x0 x1 x2 x3 x4 : Value) : Alters (fun k => k = b) w (((((w.setCell ⟨b, 0, none⟩ x0).setCell ⟨b, 1, none⟩ x1).setCell ⟨b, 2, none⟩ x2).setCell ⟨b, 3, none⟩ x3).setCell ⟨b, 4, none⟩ x4) :=
  (((((Alters.refl (p := fun k => k = b) w).set (q := ⟨b, 0, none⟩) (fun _ => rfl) x0).set (q := ⟨b, 1, none⟩) (fun _ => rfl) x1).set (q := ⟨b, 2, none⟩) (fun _ => rfl) x2).set (q := ⟨b, 3, none⟩) (fun _ => rfl) x3).set (q := ⟨b, 4, none⟩) (fun _ => rfl) x4

def zeroD : Value := .agg #[.slice none 0 0, .int .i64 0, .slice none 0 0, .int .i64 0, .bool false]

/-- How the reference's New ends. -/
def RefNew (n : Nat) (q : Int) (wt : Nat → Int) (vw : Value) (w : World) (e : Ending) (w' : World) : Prop :=
  Quiet w w' ∧ ((codeOf n q wt ≠ 0 ∧ e = .returned (.tuple #[zeroD, .int .i64 (codeOf n q wt)])) ∨
    (codeOf n q wt = 0 ∧ ∃ g c, e = .returned (.tuple #[refD vw (.slice (some ⟨g, 0, none⟩) n c) q 0 false, .int .i64 0]) ∧ w.heap.size ≤ g ∧ ∀ i, i < n → w'.cell? ⟨g, i, none⟩ = some (.int .i64 0)))

theorem RefNew.bad {n : Nat} {q c : Int} {wt : Nat → Int} {vw : Value} {w w' : World} (e1 : codeOf n q wt = c) (hc : c ≠ 0) (hq : Quiet w w') : RefNew n q wt vw w (.returned (.tuple #[zeroD, .int .i64 c])) w' := by
  subst e1; exact ⟨hq, .inl ⟨hc, rfl⟩⟩

theorem RefNew.good {n : Nat} {q : Int} {wt : Nat → Int} {vw : Value} {w w' : World} {g c : Nat} (e1 : codeOf n q wt = 0) (hq : Quiet w w') (hg : w.heap.size ≤ g) (hr : ∀ i, i < n → w'.cell? ⟨g, i, none⟩ = some (.int .i64 0)) : RefNew n q wt vw w (.returned (.tuple #[refD vw (.slice (some ⟨g, 0, none⟩) n c) q 0 false, .int .i64 0])) w' :=
  ⟨hq, .inr ⟨e1, g, c, rfl, hg, hr⟩⟩

set_option maxHeartbeats 2000000 in
theorem refnew_walk (a : Option Addr) (n cap : Nat) (q : Int) (wt : Nat → Int) (w : World) (hn : n ≤ maxLen)
    (hc : 0 < n → ∃ b off, a = some ⟨b, off, none⟩ ∧ b < w.heap.size ∧ ∀ i, i < n → w.cell? ⟨b, off + i, none⟩ = some (.int .i64 (wt i))) :
    Calls Try.prog 13 #[.slice a n cap, .int .i64 q] w (RefNew n q wt (.slice a n cap) w) := by
  unfold maxLen at hn
  by_cases h1 : n < 1 ∨ 8 < n
  · have e1 : codeOf n q wt = 34 := by unfold codeOf; rw [if_pos h1]
    have HF := Go.Lib.hid e1
    clear e1 hc
    rcases h1 with h1 | h1
    · go_enter Try.func13, Try.ntmps13
      go_wp2
      exact bodyPost_ret (v := .tuple #[zeroD, .int .i64 34]) (by simp [results, Try.results13, go_sem, zeroD]) rfl (RefNew.bad HF.out (by omega) ((Alters.refl _).alloc _))
    · go_enter Try.func13, Try.ntmps13
      go_wp2
      exact bodyPost_ret (v := .tuple #[zeroD, .int .i64 34]) (by simp [results, Try.results13, go_sem, zeroD]) rfl (RefNew.bad HF.out (by omega) ((Alters.refl _).alloc _))
  · have n1 : 1 ≤ n := by omega
    have n8 : n ≤ 8 := by omega
    have HC : Hid (∀ k, k < n → (wt k < 1 ∨ 16 < wt k) → codeOf n q wt = 33) := fun k hk hw => by
      unfold codeOf; rw [if_neg h1]
      split
      · rfl
      · rw [if_pos ⟨k, hk, hw⟩]
    have HD : Hid (1 ≤ q → q ≤ 64 → (∀ k, k < n → 1 ≤ wt k ∧ wt k ≤ 16) → codeOf n q wt = 0) := fun hq1 hq2 h => by
      unfold codeOf; rw [if_neg h1, if_neg (by omega), if_neg (by rintro ⟨i, hi, h'⟩; have := h i hi; omega)]
    have HE : Hid ((q < 1 ∨ 64 < q) → codeOf n q wt = 33) := fun h => by
      unfold codeOf; rw [if_neg h1, if_pos h]
    clear h1
    obtain ⟨b, off, rfl, hb, hz⟩ := hc (by omega)
    have HZ := Go.Lib.hid hz
    have hq : Quiet w (w.alloc (.cells #[.slice none 0 0, .int .i64 0, .slice none 0 0, .int .i64 0, .bool false] 35)) := (Alters.refl _).alloc _
    have hB := Blk.new w #[.slice none 0 0, .int .i64 0, .slice none 0 0, .int .i64 0, .bool false] 35
    clear hc hz
    go_enter Try.func13, Try.ntmps13
    go_wp2
    generalize w.alloc _ = w1 at *
    go_loop [6] (fun i => ∃ k : Nat, k ≤ n ∧ i = .int .i64 k ∧ Go.RowKit.Hid (∀ j, j < k → 1 ≤ wt j ∧ wt j ≤ 16)) (fun i => n - (intOf i).toNat)
    case atStart => exact ⟨0, Nat.zero_le _, rfl, fun j hj => by omega⟩
    case round =>
      obtain ⟨k, hk, rfl, HK⟩ := hrel
      have ff := fun i => hB.free i
      have f0 := hB.cell 0 rfl
      have f1 := hB.cell 1 rfl
      have f2 := hB.cell 2 rfl
      have f3 := hB.cell 3 rfl
      have f4 := hB.cell 4 rfl
      have HB := Go.Lib.hid hB
      have HQ := Go.Lib.hid hq
      clear hB hq
      by_cases hlt : k < n
      · have hzk := HQ.out.cell (HZ.out k hlt) (by simp)
        by_cases hw : wt k < 1 ∨ 16 < wt k
        · have e1 := Go.Lib.hid (HC.out k hlt hw)
          rcases hw with hw | hw
          · go_wp2
            refine bodyPost_ret (v := .tuple #[zeroD, .int .i64 33]) (by simp [results, Try.results13, go_sem, zeroD, f0, f1, f2, f3, f4]) rfl (RefNew.bad e1.out (by omega) ?_)
            exact HQ.out.then (set5 _ _ _ _ _ _ _) (fun i hi e => by omega)
          · have w2' : 1 ≤ wt k := by omega
            go_wp2
            refine bodyPost_ret (v := .tuple #[zeroD, .int .i64 33]) (by simp [results, Try.results13, go_sem, zeroD, f0, f1, f2, f3, f4]) rfl (RefNew.bad e1.out (by omega) ?_)
            exact HQ.out.then (set5 _ _ _ _ _ _ _) (fun i hi e => by omega)
        · have w1' : 1 ≤ wt k := by omega
          have w2' : wt k ≤ 16 := by omega
          clear hw
          go_wp2
          go_round
          case rel => exact ⟨k + 1, by omega, by go_num, fun j hj => by
            by_cases e : j = k
            · subst e; exact ⟨w1', w2'⟩
            · exact HK.out j (by omega)⟩
          case measure => simp [intOf]; omega
      · obtain rfl : k = n := by omega
        by_cases hq : q < 1 ∨ 64 < q
        · have e1 := Go.Lib.hid (HE.out hq)
          rcases hq with hq | hq
          · go_wp2
            refine bodyPost_ret (v := .tuple #[zeroD, .int .i64 33]) (by simp [results, Try.results13, go_sem, zeroD, f0, f1, f2, f3, f4]) rfl (RefNew.bad e1.out (by omega) ?_)
            exact HQ.out.then (set5 _ _ _ _ _ _ _) (fun i hi e => by omega)
          · have q1 : 1 ≤ q := by omega
            go_wp2
            refine bodyPost_ret (v := .tuple #[zeroD, .int .i64 33]) (by simp [results, Try.results13, go_sem, zeroD, f0, f1, f2, f3, f4]) rfl (RefNew.bad e1.out (by omega) ?_)
            exact HQ.out.then (set5 _ _ _ _ _ _ _) (fun i hi e => by omega)
        · have q1 : 1 ≤ q := by omega
          have q2 : q ≤ 64 := by omega
          have e1 := Go.Lib.hid (HD.out q1 q2 HK.out)
          clear hq
          have hmk := make_ints k (by omega)
          have hlt1 : w.heap.size < w1.heap.size := HB.out.lt
          go_wp2
          have hF := (((((HB.out.set 0 (.slice (some ⟨b, off, none⟩) k cap)).set 1 (.int .i64 q)).set 2 (.slice (some ⟨w1.heap.size, 0, none⟩) k k)).set 3 (.int .i64 0)).set 4 (.bool false)).alloc (.cells (ints k fun _ => 0) 3)
          have g0 := hF.cell 0 rfl
          have g1 := hF.cell 1 rfl
          have g2 := hF.cell 2 rfl
          have g3 := hF.cell 3 rfl
          have g4 := hF.cell 4 rfl
          refine bodyPost_ret (v := .tuple #[refD (.slice (some ⟨b, off, none⟩) k cap) (.slice (some ⟨w1.heap.size, 0, none⟩) k k) q 0 false, .int .i64 0]) (by simp [results, Try.results13, go_sem, refD, g0, g1, g2, g3, g4]) rfl (RefNew.good e1.out ?_ (Nat.le_of_lt hlt1) fun i hi => ?_)
          · exact (HQ.out.then (set5 _ _ _ _ _ _ _) (fun i hi e => by omega)).alloc _
          · have hR := Blk.new (((((w1.setCell ⟨w.heap.size, 0, none⟩ (.slice (some ⟨b, off, none⟩) k cap)).setCell ⟨w.heap.size, 1, none⟩ (.int .i64 q)).setCell ⟨w.heap.size, 2, none⟩ (.slice (some ⟨w1.heap.size, 0, none⟩) k k)).setCell ⟨w.heap.size, 3, none⟩ (.int .i64 0)).setCell ⟨w.heap.size, 4, none⟩ (.bool false)) (ints k fun _ => 0) 3
            simp only [World.size_setCell] at hR
            exact hR.cell i (ints_at _ _ _ hi)
end Go.Proofs.Ytoebhifnfomkhaa
