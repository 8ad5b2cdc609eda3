/- What is wrong with a node, as the model tells it. No condition. -/
import Derived.Test.YtnpcakakjhiboaaDoorRef5
namespace Go.Proofs.YtnpcakakjhiboaaDoor
open Go.RowKit Go.Lo Go.WideShapes

/-- 'wrong', of what a node bears and how many kids it has. -/
def wrongOf (n : Nd) (l : Nat) : Int :=
  if n.op < 1 ∨ 12 < n.op ∨ l ≠ kidsOf n.op then 1
  else if n.op ≠ 3 ∧ ¬ (n.nm.toList = [] ∧ n.cmp = 0 ∧ n.val = 0) then 1
  else if n.op < 9 ∧ ¬ (n.lo = 0 ∧ n.hi = 0) then 1
  else if n.op = 3 ∧ (n.cmp < 0 ∨ 6 < n.cmp ∨ n.cmp = 0 ∧ n.val ≠ 0) then 1
  else if n.op = 3 ∧ isName n.nm = false then 21
  else if 9 ≤ n.op ∧ ¬ (0 ≤ n.lo ∧ n.lo ≤ n.hi) then 24
  else 0

theorem wrong_nd (n : Nd) (a : Option Addr) (cap : Nat) (ks : List Ft) : wrong (Ft.pl (.nd ⟨n, a, cap⟩ ks)) = wrongOf n ks.length := by
  simp [wrong, wrongOf, Ft.pl, Tr.map, Tr.top, Tr.kids, Tr.mapL_eq]

set_option maxRecDepth 100000 in
set_option maxHeartbeats 4000000 in
theorem wrong8_walk (t : Ft) (w : World) : Calls Tryd.prog 77 #[t.val] w (Said (.int .i64 (wrong t.pl)) w) := by
  obtain ⟨⟨⟨op, nm, cmp, val, lo, hi⟩, a, cap⟩, ks⟩ := t
  have hval := wrong_nd ⟨op, nm, cmp, val, lo, hi⟩ a cap ks
  unfold Ft.val
  simp only [Tr.top, Tr.kids]
  by_cases h1 : op < 1
  · have hw := hval
    unfold wrongOf at hw
    dsimp only at hw
    rw [if_pos (.inl h1)] at hw
    have HV := Go.Lib.hid hw
    clear hw hval
    go_enter Tryd.func77, Tryd.ntmps77
    go_wp2
    go_quiet (fail)
    go_wp2
    go_ret
    exact ⟨by rw [HV.out]; rfl, ((Alters.refl _).alloc _).drewN _⟩
  by_cases h2 : 12 < op
  · have hw := hval
    unfold wrongOf at hw
    dsimp only at hw
    rw [if_pos (.inr (.inl h2))] at hw
    have HV := Go.Lib.hid hw
    clear hw hval
    go_enter Tryd.func77, Tryd.ntmps77
    go_wp2
    go_quiet (fail)
    go_wp2
    go_ret
    exact ⟨by rw [HV.out]; rfl, ((Alters.refl _).alloc _).drewN _⟩
  have b1 : decide (op < 1) = false := by simp; omega
  have b2 : decide (12 < op) = false := by simp; omega
  by_cases h3 : ks.length ≠ kidsOf op
  · have b3 : ((ks.length : Int) != (kidsOf op : Int)) = true := by simp; omega
    have hw := hval
    unfold wrongOf at hw
    dsimp only at hw
    rw [if_pos (.inr (.inr h3))] at hw
    have HV := Go.Lib.hid hw
    clear hw hval
    go_enter Tryd.func77, Tryd.ntmps77
    go_wp2
    go_quiet (first | (go_at_call 106; refine Calls.quiet_of_same (kids_walk _ _)))
    go_wp2
    go_ret
    exact ⟨by rw [HV.out]; rfl, ((Alters.refl _).alloc _).drewN _⟩
  have b3 : ((ks.length : Int) != (kidsOf op : Int)) = false := by simp; omega
  have g1 : ¬ (op < 1 ∨ 12 < op ∨ ks.length ≠ kidsOf op) := by omega
  have G1 := Go.Lib.hid g1
  clear g1
  by_cases h4 : op = 3
  · subst h4
    by_cases h5 : lo = 0
    rotate_left
    · have bx : (lo == 0) = false := by simpa using h5
      have bx' : (lo != 0) = true := by simpa using h5
      have hw := hval
      unfold wrongOf at hw
      dsimp only at hw
      rw [if_neg G1.out, if_neg (by simp), if_pos (by simp [h5])] at hw
      have HV := Go.Lib.hid hw
      clear hw hval
      go_enter Tryd.func77, Tryd.ntmps77
      go_wp2
      go_quiet (first | (go_at_call 106; refine Calls.quiet_of_same (kids_walk _ _)))
      go_wp2_with (first | (go_at_call 107; refine (spans_walk _ _).mono ?_; rintro e w7 ⟨rfl, rfl⟩) | (go_at_call 108; refine (name5_walk _ _).mono ?_; rintro e w8 ⟨rfl, rfl⟩) | (go_at_call 109; refine (right_walk _ _ _).mono ?_; rintro e w9 ⟨rfl, hq9⟩))
      go_ret
      exact ⟨by rw [HV.out]; rfl, ((Alters.refl _).alloc _).drewN _⟩
    subst h5
    by_cases h6 : hi = 0
    rotate_left
    · have bx : (hi == 0) = false := by simpa using h6
      have bx' : (hi != 0) = true := by simpa using h6
      have hw := hval
      unfold wrongOf at hw
      dsimp only at hw
      rw [if_neg G1.out, if_neg (by simp), if_pos (by simp [h6])] at hw
      have HV := Go.Lib.hid hw
      clear hw hval
      go_enter Tryd.func77, Tryd.ntmps77
      go_wp2
      go_quiet (first | (go_at_call 106; refine Calls.quiet_of_same (kids_walk _ _)))
      go_wp2_with (first | (go_at_call 107; refine (spans_walk _ _).mono ?_; rintro e w7 ⟨rfl, rfl⟩) | (go_at_call 108; refine (name5_walk _ _).mono ?_; rintro e w8 ⟨rfl, rfl⟩) | (go_at_call 109; refine (right_walk _ _ _).mono ?_; rintro e w9 ⟨rfl, hq9⟩))
      go_ret
      exact ⟨by rw [HV.out]; rfl, ((Alters.refl _).alloc _).drewN _⟩
    subst h6
    by_cases h7 : cmp < 0
    · have hw := hval
      unfold wrongOf at hw
      dsimp only at hw
      rw [if_neg G1.out, if_neg (by simp), if_neg (by simp), if_pos (by simp [h7])] at hw
      have HV := Go.Lib.hid hw
      clear hw hval
      go_enter Tryd.func77, Tryd.ntmps77
      go_wp2
      go_quiet (first | (go_at_call 106; refine Calls.quiet_of_same (kids_walk _ _)))
      go_wp2_with (first | (go_at_call 107; refine (spans_walk _ _).mono ?_; rintro e w7 ⟨rfl, rfl⟩) | (go_at_call 108; refine (name5_walk _ _).mono ?_; rintro e w8 ⟨rfl, rfl⟩) | (go_at_call 109; refine (right_walk _ _ _).mono ?_; rintro e w9 ⟨rfl, hq9⟩))
      go_ret
      exact ⟨by rw [HV.out]; rfl, ((Alters.refl _).alloc _).drewN _⟩
    by_cases h8 : 6 < cmp
    · have hw := hval
      unfold wrongOf at hw
      dsimp only at hw
      rw [if_neg G1.out, if_neg (by simp), if_neg (by simp), if_pos (by simp [h8])] at hw
      have HV := Go.Lib.hid hw
      clear hw hval
      go_enter Tryd.func77, Tryd.ntmps77
      go_wp2
      go_quiet (first | (go_at_call 106; refine Calls.quiet_of_same (kids_walk _ _)))
      go_wp2_with (first | (go_at_call 107; refine (spans_walk _ _).mono ?_; rintro e w7 ⟨rfl, rfl⟩) | (go_at_call 108; refine (name5_walk _ _).mono ?_; rintro e w8 ⟨rfl, rfl⟩) | (go_at_call 109; refine (right_walk _ _ _).mono ?_; rintro e w9 ⟨rfl, hq9⟩))
      go_ret
      exact ⟨by rw [HV.out]; rfl, ((Alters.refl _).alloc _).drewN _⟩
    have b7 : decide (cmp < 0) = false := by simp; omega
    have b8 : decide (6 < cmp) = false := by simp; omega
    by_cases h9 : cmp = 0 ∧ val ≠ 0
    · obtain ⟨rfl, h9⟩ := h9
      have hw := hval
      unfold wrongOf at hw
      dsimp only at hw
      rw [if_neg G1.out, if_neg (by simp), if_neg (by simp), if_pos (by simp [h9])] at hw
      have HV := Go.Lib.hid hw
      clear hw hval
      go_enter Tryd.func77, Tryd.ntmps77
      go_wp2
      go_quiet (first | (go_at_call 106; refine Calls.quiet_of_same (kids_walk _ _)))
      go_wp2_with (first | (go_at_call 107; refine (spans_walk _ _).mono ?_; rintro e w7 ⟨rfl, rfl⟩) | (go_at_call 108; refine (name5_walk _ _).mono ?_; rintro e w8 ⟨rfl, rfl⟩) | (go_at_call 109; refine (right_walk _ _ _).mono ?_; rintro e w9 ⟨rfl, hq9⟩))
      go_ret
      exact ⟨by rw [HV.out]; rfl, ((Alters.refl _).alloc _).drewN _⟩
    cases h10 : isName nm
    · have hw := hval
      unfold wrongOf at hw
      dsimp only at hw
      rw [if_neg G1.out, if_neg (by simp), if_neg (by simp), if_neg (fun h => h.2.elim h7 (fun h => h.elim h8 h9)), if_pos (by simp [h10])] at hw
      have HV := Go.Lib.hid hw
      clear hw hval
      go_enter Tryd.func77, Tryd.ntmps77
      have b9 : (cmp == 0 && !(val == 0)) = false := by by_cases e : cmp = 0 <;> by_cases e2 : val = 0 <;> simp_all
      by_cases e : cmp = 0
      · have e2 : val = 0 := by
          rcases Int.lt_trichotomy val 0 with h | h | h
          · exact absurd ⟨e, by omega⟩ h9
          · exact h
          · exact absurd ⟨e, by omega⟩ h9
        subst e e2
        go_wp2
        go_quiet (first | (go_at_call 106; refine Calls.quiet_of_same (kids_walk _ _)))
        go_wp2_with (first | (go_at_call 107; refine (spans_walk _ _).mono ?_; rintro e w7 ⟨rfl, rfl⟩) | (go_at_call 108; refine (name5_walk _ _).mono ?_; rintro e w8 ⟨rfl, rfl⟩) | (go_at_call 109; refine (right_walk _ _ _).mono ?_; rintro e w9 ⟨rfl, hq9⟩))
        go_ret
        exact ⟨by rw [HV.out]; rfl, ((Alters.refl _).alloc _).drewN _⟩
      · go_wp2
        go_quiet (first | (go_at_call 106; refine Calls.quiet_of_same (kids_walk _ _)))
        go_wp2_with (first | (go_at_call 107; refine (spans_walk _ _).mono ?_; rintro e w7 ⟨rfl, rfl⟩) | (go_at_call 108; refine (name5_walk _ _).mono ?_; rintro e w8 ⟨rfl, rfl⟩) | (go_at_call 109; refine (right_walk _ _ _).mono ?_; rintro e w9 ⟨rfl, hq9⟩))
        go_ret
        exact ⟨by rw [HV.out]; rfl, ((Alters.refl _).alloc _).drewN _⟩
    · have hw := hval
      unfold wrongOf at hw
      dsimp only at hw
      rw [if_neg G1.out, if_neg (by simp), if_neg (by simp), if_neg (fun h => h.2.elim h7 (fun h => h.elim h8 h9)), if_neg (by simp [h10]), if_neg (by simp)] at hw
      have HV := Go.Lib.hid hw
      clear hw hval
      go_enter Tryd.func77, Tryd.ntmps77
      by_cases e : cmp = 0
      · have e2 : val = 0 := by
          rcases Int.lt_trichotomy val 0 with h | h | h
          · exact absurd ⟨e, by omega⟩ h9
          · exact h
          · exact absurd ⟨e, by omega⟩ h9
        subst e e2
        go_wp2
        go_quiet (first | (go_at_call 106; refine Calls.quiet_of_same (kids_walk _ _)))
        go_wp2_with (first | (go_at_call 107; refine (spans_walk _ _).mono ?_; rintro e w7 ⟨rfl, rfl⟩) | (go_at_call 108; refine (name5_walk _ _).mono ?_; rintro e w8 ⟨rfl, rfl⟩) | (go_at_call 109; refine (right_walk _ _ _).mono ?_; rintro e w9 ⟨rfl, hq9⟩))
        go_ret
        exact ⟨by rw [HV.out]; rfl, ((Alters.refl _).alloc _).drewN _⟩
      · go_wp2
        go_quiet (first | (go_at_call 106; refine Calls.quiet_of_same (kids_walk _ _)))
        go_wp2_with (first | (go_at_call 107; refine (spans_walk _ _).mono ?_; rintro e w7 ⟨rfl, rfl⟩) | (go_at_call 108; refine (name5_walk _ _).mono ?_; rintro e w8 ⟨rfl, rfl⟩) | (go_at_call 109; refine (right_walk _ _ _).mono ?_; rintro e w9 ⟨rfl, hq9⟩))
        go_ret
        exact ⟨by rw [HV.out]; rfl, ((Alters.refl _).alloc _).drewN _⟩
  have b4 : (op == 3) = false := by simpa using h4
  have b4' : (op != 3) = true := by simpa using h4
  cases h5 : nm.toList.isEmpty
  · have hw := hval
    unfold wrongOf at hw
    dsimp only at hw
    rw [if_neg G1.out, if_pos ⟨h4, fun h => by rw [h.1] at h5; cases h5⟩] at hw
    have HV := Go.Lib.hid hw
    clear hw hval
    go_enter Tryd.func77, Tryd.ntmps77
    go_wp2
    go_quiet (first | (go_at_call 106; refine Calls.quiet_of_same (kids_walk _ _)))
    go_wp2_with (first | (go_at_call 107; refine (spans_walk _ _).mono ?_; rintro e w7 ⟨rfl, rfl⟩) | (go_at_call 108; refine (name5_walk _ _).mono ?_; rintro e w8 ⟨rfl, rfl⟩) | (go_at_call 109; refine (right_walk _ _ _).mono ?_; rintro e w9 ⟨rfl, hq9⟩))
    go_ret
    exact ⟨by rw [HV.out]; rfl, ((Alters.refl _).alloc _).drewN _⟩
  have h5' : nm.toList = [] := by simpa using h5
  by_cases h6 : cmp = 0
  rotate_left
  · have b6 : (cmp == 0) = false := by simpa using h6
    have b6' : (cmp != 0) = true := by simpa using h6
    have hw := hval
    unfold wrongOf at hw
    dsimp only at hw
    rw [if_neg G1.out, if_pos ⟨h4, fun h => h6 h.2.1⟩] at hw
    have HV := Go.Lib.hid hw
    clear hw hval
    go_enter Tryd.func77, Tryd.ntmps77
    go_wp2
    go_quiet (first | (go_at_call 106; refine Calls.quiet_of_same (kids_walk _ _)))
    go_wp2_with (first | (go_at_call 107; refine (spans_walk _ _).mono ?_; rintro e w7 ⟨rfl, rfl⟩) | (go_at_call 108; refine (name5_walk _ _).mono ?_; rintro e w8 ⟨rfl, rfl⟩) | (go_at_call 109; refine (right_walk _ _ _).mono ?_; rintro e w9 ⟨rfl, hq9⟩))
    go_ret
    exact ⟨by rw [HV.out]; rfl, ((Alters.refl _).alloc _).drewN _⟩
  subst h6
  by_cases h7 : val = 0
  rotate_left
  · have b7 : (val == 0) = false := by simpa using h7
    have b7' : (val != 0) = true := by simpa using h7
    have hw := hval
    unfold wrongOf at hw
    dsimp only at hw
    rw [if_neg G1.out, if_pos ⟨h4, fun h => h7 h.2.2⟩] at hw
    have HV := Go.Lib.hid hw
    clear hw hval
    go_enter Tryd.func77, Tryd.ntmps77
    go_wp2
    go_quiet (first | (go_at_call 106; refine Calls.quiet_of_same (kids_walk _ _)))
    go_wp2_with (first | (go_at_call 107; refine (spans_walk _ _).mono ?_; rintro e w7 ⟨rfl, rfl⟩) | (go_at_call 108; refine (name5_walk _ _).mono ?_; rintro e w8 ⟨rfl, rfl⟩) | (go_at_call 109; refine (right_walk _ _ _).mono ?_; rintro e w9 ⟨rfl, hq9⟩))
    go_ret
    exact ⟨by rw [HV.out]; rfl, ((Alters.refl _).alloc _).drewN _⟩
  subst h7
  have g2 : ¬ (op ≠ 3 ∧ ¬ (nm.toList = [] ∧ (0 : Int) = 0 ∧ (0 : Int) = 0)) := fun h => h.2 ⟨h5', rfl, rfl⟩
  have G2 := Go.Lib.hid g2
  clear g2 h5'
  by_cases h8 : op < 9
  · have b8 : decide (9 ≤ op ∧ op ≤ 12) = false := by simp; omega
    have b9' : decide (9 ≤ op) = false := by simp; omega
    by_cases h9 : lo = 0
    rotate_left
    · have bx : (lo == 0) = false := by simpa using h9
      have bx' : (lo != 0) = true := by simpa using h9
      have hw := hval
      unfold wrongOf at hw
      dsimp only at hw
      rw [if_neg G1.out, if_neg G2.out, if_pos (by simp [h8, h9])] at hw
      have HV := Go.Lib.hid hw
      clear hw hval
      go_enter Tryd.func77, Tryd.ntmps77
      go_wp2
      go_quiet (first | (go_at_call 106; refine Calls.quiet_of_same (kids_walk _ _)))
      go_wp2_with (first | (go_at_call 107; refine (spans_walk _ _).mono ?_; rintro e w7 ⟨rfl, rfl⟩) | (go_at_call 108; refine (name5_walk _ _).mono ?_; rintro e w8 ⟨rfl, rfl⟩) | (go_at_call 109; refine (right_walk _ _ _).mono ?_; rintro e w9 ⟨rfl, hq9⟩))
      go_ret
      exact ⟨by rw [HV.out]; rfl, ((Alters.refl _).alloc _).drewN _⟩
    subst h9
    by_cases h10 : hi = 0
    rotate_left
    · have bx : (hi == 0) = false := by simpa using h10
      have bx' : (hi != 0) = true := by simpa using h10
      have hw := hval
      unfold wrongOf at hw
      dsimp only at hw
      rw [if_neg G1.out, if_neg G2.out, if_pos (by simp [h8, h10])] at hw
      have HV := Go.Lib.hid hw
      clear hw hval
      go_enter Tryd.func77, Tryd.ntmps77
      go_wp2
      go_quiet (first | (go_at_call 106; refine Calls.quiet_of_same (kids_walk _ _)))
      go_wp2_with (first | (go_at_call 107; refine (spans_walk _ _).mono ?_; rintro e w7 ⟨rfl, rfl⟩) | (go_at_call 108; refine (name5_walk _ _).mono ?_; rintro e w8 ⟨rfl, rfl⟩) | (go_at_call 109; refine (right_walk _ _ _).mono ?_; rintro e w9 ⟨rfl, hq9⟩))
      go_ret
      exact ⟨by rw [HV.out]; rfl, ((Alters.refl _).alloc _).drewN _⟩
    subst h10
    have hw := hval
    unfold wrongOf at hw
    dsimp only at hw
    rw [if_neg G1.out, if_neg G2.out, if_neg (by simp), if_neg (by simp [h4]), if_neg (by simp [h4]), if_neg (by omega)] at hw
    have HV := Go.Lib.hid hw
    clear hw hval
    go_enter Tryd.func77, Tryd.ntmps77
    go_wp2
    go_quiet (first | (go_at_call 106; refine Calls.quiet_of_same (kids_walk _ _)))
    go_wp2_with (first | (go_at_call 107; refine (spans_walk _ _).mono ?_; rintro e w7 ⟨rfl, rfl⟩) | (go_at_call 108; refine (name5_walk _ _).mono ?_; rintro e w8 ⟨rfl, rfl⟩) | (go_at_call 109; refine (right_walk _ _ _).mono ?_; rintro e w9 ⟨rfl, hq9⟩))
    go_ret
    exact ⟨by rw [HV.out]; rfl, ((Alters.refl _).alloc _).drewN _⟩
  · have b8 : decide (9 ≤ op ∧ op ≤ 12) = true := by simp; omega
    by_cases h9 : 0 ≤ lo ∧ lo ≤ hi
    · have b9 : decide (0 ≤ lo ∧ lo ≤ hi) = true := by simpa using h9
      have hw := hval
      unfold wrongOf at hw
      dsimp only at hw
      rw [if_neg G1.out, if_neg G2.out, if_neg (by omega), if_neg (by simp [h4]), if_neg (by simp [h4]), if_neg (by simp [h9])] at hw
      have HV := Go.Lib.hid hw
      clear hw hval
      go_enter Tryd.func77, Tryd.ntmps77
      go_wp2
      go_quiet (first | (go_at_call 106; refine Calls.quiet_of_same (kids_walk _ _)))
      go_wp2_with (first | (go_at_call 107; refine (spans_walk _ _).mono ?_; rintro e w7 ⟨rfl, rfl⟩) | (go_at_call 108; refine (name5_walk _ _).mono ?_; rintro e w8 ⟨rfl, rfl⟩) | (go_at_call 109; refine (right_walk _ _ _).mono ?_; rintro e w9 ⟨rfl, hq9⟩))
      go_ret
      exact ⟨by rw [HV.out]; rfl, (((Alters.refl _).alloc _).drewN _).trans hq9⟩
    · have b9 : decide (0 ≤ lo ∧ lo ≤ hi) = false := by simpa using h9
      have hw := hval
      unfold wrongOf at hw
      dsimp only at hw
      rw [if_neg G1.out, if_neg G2.out, if_neg (by omega), if_neg (by simp [h4]), if_neg (by simp [h4]), if_pos ⟨by omega, h9⟩] at hw
      have HV := Go.Lib.hid hw
      clear hw hval
      go_enter Tryd.func77, Tryd.ntmps77
      go_wp2
      go_quiet (first | (go_at_call 106; refine Calls.quiet_of_same (kids_walk _ _)))
      go_wp2_with (first | (go_at_call 107; refine (spans_walk _ _).mono ?_; rintro e w7 ⟨rfl, rfl⟩) | (go_at_call 108; refine (name5_walk _ _).mono ?_; rintro e w8 ⟨rfl, rfl⟩) | (go_at_call 109; refine (right_walk _ _ _).mono ?_; rintro e w9 ⟨rfl, hq9⟩))
      go_ret
      exact ⟨by rw [HV.out]; rfl, (((Alters.refl _).alloc _).drewN _).trans hq9⟩
end Go.Proofs.YtnpcakakjhiboaaDoor
