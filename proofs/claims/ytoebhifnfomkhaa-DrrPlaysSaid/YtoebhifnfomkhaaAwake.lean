/- Lists of costs; the example of the drr laws. No condition. -/
import Derived.Test.YtoebhifnfomkhaaLeft
namespace Go.Proofs.Ytoebhifnfomkhaa
open Go.RowKit Go.Lo

/-- n numbers that lay in memory. -/
def IntsIn (w : World) (a : Option Addr) (n : Nat) (z : Nat → Int) : Prop :=
  0 < n → ∃ b off, a = some ⟨b, off, none⟩ ∧ b < w.heap.size ∧ ∀ i, i < n → w.cell? ⟨b, off + i, none⟩ = some (.int .i64 (z i))

/-- Lists of numbers that lay in memory: the i-th has L i of them, Z i. -/
def ListsIn (w : World) (a : Option Addr) (n : Nat) (L : Nat → Nat) (Z : Nat → Nat → Int) : Prop :=
  0 < n → ∃ b off, a = some ⟨b, off, none⟩ ∧ b < w.heap.size ∧ ∀ i, i < n → ∃ a' cap, w.cell? ⟨b, off + i, none⟩ = some (.slice a' (L i) cap) ∧ L i ≤ maxLen ∧ IntsIn w a' (L i) (Z i)

def FewEnds (n : Nat) (L : Nat → Nat) (w : World) (e : Ending) (w' : World) : Prop := (∃ B, e = .returned (.bool B) ∧ (B = true → n ≤ 120 ∧ ∀ i, i < n → L i ≤ 20)) ∧ w = w'

theorem few_walk (a : Option Addr) (n cap : Nat) (L : Nat → Nat) (Z : Nat → Nat → Int) (w : World) (hn : n ≤ maxLen) (hc : ListsIn w a n L Z) :
    Calls Try.prog 9 #[.slice a n cap] w (FewEnds n L w) := by
  have HC := Go.Lib.hid hc
  clear hc
  unfold maxLen at hn
  go_enter Try.func9, Try.ntmps9
  go_wp2
  go_loop [3] (fun i => ∃ k : Nat, k ≤ n ∧ i = .int .i64 k ∧ Go.RowKit.Hid (∀ j, j < k → L j ≤ 20)) (fun i => n - (intOf i).toNat)
  case atStart => exact ⟨0, Nat.zero_le _, rfl, fun j hj => by omega⟩
  case round =>
    obtain ⟨k, hk, rfl, H⟩ := hrel
    by_cases hlt : k < n
    · obtain ⟨b, off, rfl, hb, hz⟩ := HC.out (by omega)
      obtain ⟨a', cap', hck, hm, -⟩ := hz k hlt
      clear hz
      unfold maxLen at hm
      by_cases hp : 20 < L k
      · go_wp2
        go_ret
        exact ⟨⟨false, rfl, by simp⟩, rfl⟩
      · go_wp2
        go_round
        case rel => exact ⟨k + 1, by omega, by go_num, fun j hj => by
          by_cases e : j = k
          · subst e; omega
          · exact H.out j (by omega)⟩
        case measure => simp [intOf]; omega
    · obtain rfl : k = n := by omega
      by_cases h120 : k ≤ 120
      · go_wp2
        go_ret
        exact ⟨⟨_, rfl, fun _ => ⟨h120, H.out⟩⟩, rfl⟩
      · go_wp2
        go_ret
        exact ⟨⟨_, rfl, fun h => by simp at h; omega⟩, rfl⟩

/-- The visits, reckoned. -/
def runF : Nat → (Nat → Int) → D → Option (D × Nat)
  | 0, _, _ => none
  | n + 1, c, d =>
    if cl (c d.p) ≤ 0 then runF n c d.zero.pass
    else if d.start.f d.p < cl (c d.p) then runF n c d.start.pass
    else some (d.start.spend (cl (c d.p)), d.p)

theorem runF_runs (n : Nat) (c : Nat → Int) : ∀ (d d' : D) (k : Nat), runF n c d = some (d', k) → Runs c d d' k := by
  induction n with
  | zero => intro d d' k h; simp [runF] at h
  | succ n ih =>
    intro d d' k h
    unfold runF at h
    by_cases h1 : cl (c d.p) ≤ 0
    · rw [if_pos h1] at h; exact .skip _ _ _ h1 (ih _ _ _ h)
    · rw [if_neg h1] at h
      by_cases h2 : d.start.f d.p < cl (c d.p)
      · rw [if_pos h2] at h; exact .wait _ _ _ (by omega) h2 (ih _ _ _ h)
      · rw [if_neg h2] at h
        simp only [Option.some.injEq, Prod.mk.injEq] at h
        obtain ⟨rfl, rfl⟩ := h
        exact .serve _ (by omega) (by omega)

def wt2 : Nat → Int := fun i => if i = 0 then 1 else 2
def dr0 : D := ⟨2, fun i => 2 * wt2 i, fun _ => 0, 0, false⟩

theorem example_runs : ∃ d1 d2 d3 d4, Runs (fun _ => 2) dr0 d1 0 ∧ Runs (fun _ => 2) d1 d2 1 ∧ Runs (fun _ => 2) d2 d3 1 ∧ Runs (fun _ => 2) d3 d4 0 := by
  have h1 : ∃ d1 d2 d3 d4, runF 3 (fun _ => 2) dr0 = some (d1, 0) ∧ runF 3 (fun _ => 2) d1 = some (d2, 1) ∧ runF 3 (fun _ => 2) d2 = some (d3, 1) ∧ runF 3 (fun _ => 2) d3 = some (d4, 0) :=
    ⟨_, _, _, _, rfl, rfl, rfl, rfl⟩
  obtain ⟨d1, d2, d3, d4, h1, h2, h3, h4⟩ := h1
  exact ⟨d1, d2, d3, d4, runF_runs _ _ _ _ _ h1, runF_runs _ _ _ _ _ h2, runF_runs _ _ _ _ _ h3, runF_runs _ _ _ _ _ h4⟩

/-- A call of Next at a list that the caller has made: what is served is known. -/
theorem next_to (bd bg bl bc cap : Nat) (z : Nat → Int) (d0 d' : D) (k : Nat) (w : World) (h : IsDrr w bd bg bl d0) (ok : d0.Ok) (hr : Runs z d0 d' k)
    (hc : ∀ i, i < d0.n → w.cell? ⟨bc, i, none⟩ = some (.int .i64 (z i))) (n1 : bc ≠ bd) (n2 : bc ≠ bl) (n3 : bc < w.heap.size) (n : Nat) (hn : n = d0.n) :
    Calls Try.prog 11 #[.pointer (some ⟨bd, 0, none⟩), .slice (some ⟨bc, 0, none⟩) n cap] w fun e w' => e = .returned (.int .i64 k) ∧ IsDrr w' bd bg bl d' ∧ d'.Ok ∧ Alters (fun k => k = bd ∨ k = bl) w w' := by
  subst hn
  obtain ⟨o1, o2, o3, o4, -⟩ := hr.ok ok
  refine (next_walk bd bg bl bc 0 cap k z d0 w h ok o2 o3 (fun i hi => by rw [Nat.zero_add]; exact hc i hi) n1 n2 n3).mono ?_
  rintro e w' ⟨d2, k2, hr2, rfl, hI, hA⟩
  obtain ⟨rfl, rfl⟩ := hr.only hr2
  exact ⟨rfl, hI, o1, hA⟩

theorem New_ok (n : Nat) (q : Int) (wt : Nat → Int) (h1 : 1 ≤ n) (h8 : n ≤ 8) (q1 : 1 ≤ q) (q64 : q ≤ 64) (hw : ∀ i, i < n → 1 ≤ wt i ∧ wt i ≤ 16) : D.Ok ⟨n, fun i => q * wt i, fun _ => 0, 0, false⟩ :=
  ⟨h1, h8, fun i hi => by have := Int.mul_le_mul q1 (hw i hi).1 (by omega) (by omega); simp only; omega, fun i hi => by have := Int.mul_le_mul q64 (hw i hi).2 (by have := (hw i hi).1; omega) (by omega); simp only; omega, h1, fun _ _ => Int.le_refl _, fun _ _ => by simp⟩

theorem quiet_then {w a b : World} {p : Nat → Prop} (h : Quiet w a) (k : Alters p a b) (hp : ∀ i, p i → w.heap.size ≤ i) : Quiet w b :=
  ⟨k.os.trans h.os, k.tape.trans h.tape, k.output.trans h.output, Nat.le_trans h.size k.size, fun i hi _ =>
    (k.block i (Nat.lt_of_lt_of_le hi h.size) (fun e => by have := hp i e; omega)).trans (h.block i hi (fun e => e))⟩

theorem step2 (bd bg bl : Nat) (d d' : D) (k : Nat) (w : World) (h : IsDrr w bd bg bl d) (ok : d.Ok) (hr : Runs (fun _ => 2) d d' k) (hn : d.n = 2) :
    Calls Try.prog 11 #[.pointer (some ⟨bd, 0, none⟩), .slice (some ⟨w.heap.size, 0, none⟩) 2 2] (w.alloc (.cells #[.int .i64 2, .int .i64 2] 3)) fun e w' => e = .returned (.int .i64 k) ∧ IsDrr w' bd bg bl d' ∧ d'.Ok ∧ d'.n = 2 ∧ Alters (fun k => k = bd ∨ k = bl) w w' := by
  have B := Blk.new w #[.int .i64 2, .int .i64 2] 3
  have l1 := h.own.lt
  have l2 := h.left.lt
  refine (next_to bd bg bl w.heap.size 2 _ d d' k _ (Quiet.drr ((Alters.refl _).alloc _) h) ok hr (fun i hi => ?_) (by omega) (by omega) (by simp) 2 hn.symm).mono ?_
  · rw [hn] at hi
    match i, hi with
    | 0, _ => exact B.cell 0 rfl
    | 1, _ => exact B.cell 1 rfl
  · rintro e w' ⟨rfl, hI, ok', hA⟩
    exact ⟨rfl, hI, ok', ((hr.ok ok).2.2.2.1).trans hn, (((Alters.refl _).alloc _)).trans hA⟩

theorem code_ex : codeOf 2 2 wt2 = 0 := by
  unfold codeOf
  rw [if_neg (by omega), if_neg (by omega), if_neg]
  rintro ⟨i, _, h⟩
  unfold wt2 at h
  split at h <;> omega

theorem code_none (q : Int) (wt : Nat → Int) : codeOf 0 q wt = 34 := by
  unfold codeOf
  rw [if_pos (by omega)]

set_option maxRecDepth 100000 in
set_option maxHeartbeats 1000000 in
theorem awake_any (w : World) : Calls Try.prog 8 #[] w fun e w' => e = .returned (.bool true) ∧ Quiet w w' := by
  obtain ⟨d1, d2, d3, d4, r1, r2, r3, r4⟩ := example_runs
  have R := Go.Lib.hid (And.intro r1 (And.intro r2 (And.intro r3 r4)))
  clear r1 r2 r3 r4
  have W0 : IntsIn (w.alloc (.cells #[.int .i64 1, .int .i64 2] 3)) (some ⟨w.heap.size, 0, none⟩) 2 wt2 := fun _ => by
    have B := Blk.new w #[.int .i64 1, .int .i64 2] 3
    refine ⟨_, _, rfl, by simp, fun i hi => ?_⟩
    rw [Nat.zero_add]
    match i, hi with
    | 0, _ => exact B.cell 0 rfl
    | 1, _ => exact B.cell 1 rfl
  have HW := Go.Lib.hid W0
  clear W0
  go_enter Try.func8, Try.ntmps8
  go_wp2_with fail
  refine (new_walk _ 2 2 2 wt2 _ (by unfold maxLen; omega) HW.out).mono ?_
  rintro e w1 ⟨hq1, ⟨hne, -⟩ | ⟨-, bd, bg, bl, rfl, hbd, hbg, hbl, hI⟩⟩
  · exact absurd code_ex hne
  · have Q1 : Quiet w w1 := ((Alters.refl _).alloc _).trans hq1
    have zz : w.heap.size ≤ bd ∧ w.heap.size ≤ bl := by simp at hbd hbl; omega
    have ok0 : dr0.Ok := New_ok 2 2 wt2 (by omega) (by omega) (by omega) (by omega) (fun i _ => by unfold wt2; split <;> omega)
    clear hbd hbg hbl hq1
    have HP := Go.Lib.hid (show ∀ i, (i = bd ∨ i = bl) → w.heap.size ≤ i from fun i e => by omega)
    clear zz
    go_wp2_with fail
    refine (step2 bd bg bl dr0 d1 0 w1 hI ok0 R.out.1 rfl).mono ?_
    rintro e w2 ⟨rfl, I2, ok1, n1, A2⟩
    have Q2 := quiet_then Q1 A2 HP.out
    have N1 := Go.Lib.hid n1
    clear n1
    go_wp2_with fail
    refine (step2 bd bg bl d1 d2 1 w2 I2 ok1 R.out.2.1 N1.out).mono ?_
    rintro e w3 ⟨rfl, I3, ok2, n2, A3⟩
    have Q3 := quiet_then Q2 A3 HP.out
    have N2 := Go.Lib.hid n2
    clear n2
    go_wp2_with fail
    refine (step2 bd bg bl d2 d3 1 w3 I3 ok2 R.out.2.2.1 N2.out).mono ?_
    rintro e w4 ⟨rfl, I4, ok3, n3, A4⟩
    have Q4 := quiet_then Q3 A4 HP.out
    have N3 := Go.Lib.hid n3
    clear n3
    go_wp2_with fail
    refine (step2 bd bg bl d3 d4 0 w4 I4 ok3 R.out.2.2.2 N3.out).mono ?_
    rintro e w5 ⟨rfl, I5, ok4, n4, A5⟩
    have Q5 := quiet_then Q4 A5 HP.out
    have N4 := Go.Lib.hid n4
    clear n4
    go_wp2_with fail
    refine (new_walk none 0 0 1 wt2 _ (by unfold maxLen; omega) (fun h => absurd h (by omega))).mono ?_
    rintro e w6 ⟨hq6, ⟨-, rfl⟩ | ⟨h0, -⟩⟩
    · rw [code_none]
      have I6 := Quiet.drr hq6 I5
      have Q6 := Q5.trans hq6
      go_wp2_with fail
      refine (left_walk bd bg bl d4 w6 I6 (by rw [N4.out]; omega) (by rw [N4.out]; omega)).mono ?_
      rintro e w7 ⟨v, rfl, ⟨g, cap, rfl, -⟩, hq7⟩
      rw [N4.out]
      have I7 := Quiet.drr hq7 I6
      have Q7 := Q6.trans hq7
      go_wp2_with fail
      refine (next_none_len bd bg bl d4 none 0 0 w7 I7 (by rw [N4.out]; omega)).mono ?_
      rintro e w8 ⟨rfl, rfl⟩
      go_wp2
      go_ret
      exact ⟨rfl, Q7⟩
    · rw [code_none] at h0
      exact absurd h0 (by omega)
end Go.Proofs.Ytoebhifnfomkhaa
