/- What is wrong with a node, as the program tells it. No condition. -/
import Derived.Test.YtnpcakakjhiboaaDoorWrong8
import Derived.Test.YtnpcakakjhiboaaDoorRef5
namespace Go.Proofs.YtnpcakakjhiboaaDoor
open Go.RowKit Go.Lo Go.WideShapes

/-- The table of kinds lies in memory as the program's text lays it. -/
def Shapes (w : World) : Prop := ∀ k : Nat, 1 ≤ k → k ≤ 12 → w.cell? ⟨0, k * 4, none⟩ = some (.int .i64 (kidsOf k))

set_option maxRecDepth 100000 in
set_option maxHeartbeats 4000000 in
theorem wrong9_walk (t : Ft) (b o : Nat) (w : World) (h : AtP w b o t) (hS : Shapes w) : Calls Tryd.prog 79 #[.pointer (some ⟨b, o, none⟩)] w (Said (.int .i64 (wrong t.pl)) w) := by
  obtain ⟨⟨⟨op, nm, cmp, val, lo, hi⟩, a, cap⟩, ks⟩ := t
  obtain ⟨d0, d1, d2, d3, d4, d5, d6⟩ := h.seven
  simp only [Tr.top, Tr.kids] at d0 d1 d2 d3 d4 d5 d6
  clear h
  have hval := wrong_nd ⟨op, nm, cmp, val, lo, hi⟩ a cap ks
  by_cases h1 : op < 1
  · have hw := hval
    unfold wrongOf at hw
    dsimp only at hw
    rw [if_pos (.inl h1)] at hw
    have HV := Go.Lib.hid hw
    clear hw hval
    go_enter Tryd.func79, Tryd.ntmps79
    go_wp2
    go_quiet (fail)
    go_wp2
    go_ret
    exact ⟨by rw [HV.out]; rfl, (Alters.refl _).drewN _⟩
  have b1 : decide (op < 1) = false := by simp; omega
  by_cases h2 : 12 < op
  · have b2 : decide (12 < op) = true := by simp; omega
    have hw := hval
    unfold wrongOf at hw
    dsimp only at hw
    rw [if_pos (.inr (.inl h2))] at hw
    have HV := Go.Lib.hid hw
    clear hw hval
    go_enter Tryd.func79, Tryd.ntmps79
    go_wp2
    go_quiet (fail)
    go_wp2
    go_ret
    exact ⟨by rw [HV.out]; rfl, (Alters.refl _).drewN _⟩
  have b2 : decide (12 < op) = false := by simp; omega
  obtain ⟨k, rfl⟩ := Int.eq_ofNat_of_zero_le (show 0 ≤ op by omega)
  have cS := hS k (by omega) (by omega)
  have q3 : (k : Int) < 13 := by omega
  have q4 : k < 13 := by omega
  have q5 : (0 : Int) ≤ k := by omega
  clear hS
  by_cases h3 : ks.length ≠ kidsOf (k : Int)
  · have b3 : ((ks.length : Int) != (kidsOf (k : Int) : Int)) = true := by simp; omega
    have hw := hval
    unfold wrongOf at hw
    dsimp only at hw
    rw [if_pos (.inr (.inr h3))] at hw
    have HV := Go.Lib.hid hw
    clear hw hval
    go_enter Tryd.func79, Tryd.ntmps79
    go_wp2
    go_quiet (fail)
    go_wp2
    go_ret
    exact ⟨by rw [HV.out]; rfl, (Alters.refl _).drewN _⟩
  have b3 : ((ks.length : Int) != (kidsOf (k : Int) : Int)) = false := by simp; omega
  have g1 : ¬ ((k : Int) < 1 ∨ 12 < (k : Int) ∨ ks.length ≠ kidsOf (k : Int)) := by omega
  have G1 := Go.Lib.hid g1
  clear g1
  by_cases h4 : k = 3
  · subst h4
    have cT : w.cell? ⟨0, 12, none⟩ = some (.int .i64 0) := cS
    obtain rfl : ks = [] := by
      apply List.eq_nil_of_length_eq_zero
      rcases Nat.decEq ks.length (kidsOf ((3 : Nat) : Int)) with h | h
      · exact absurd h h3
      · exact h
    clear cS b3 h3
    by_cases h5 : lo = 0
    rotate_left
    · have bx : (lo == 0) = false := by simpa using h5
      have bx' : (lo != 0) = true := by simpa using h5
      have hw := hval
      unfold wrongOf at hw
      dsimp only at hw
      rw [if_neg G1.out, if_neg (by simp), if_pos (by simp [h5])] at hw
      have HV := Go.Lib.hid hw
      clear hw hval
      go_enter Tryd.func79, Tryd.ntmps79
      go_wp2
      go_quiet (fail)
      go_wp2_with (first | (go_at_call 111; refine (name8_walk _ _).mono ?_; rintro e w8 ⟨rfl, rfl⟩) | (go_at_call 34; refine (right34_walk _ _ _).mono ?_; rintro e w9 ⟨rfl, hq9⟩))
      go_ret
      exact ⟨by rw [HV.out]; rfl, (Alters.refl _).drewN _⟩
    subst h5
    by_cases h6 : hi = 0
    rotate_left
    · have bx : (hi == 0) = false := by simpa using h6
      have bx' : (hi != 0) = true := by simpa using h6
      have hw := hval
      unfold wrongOf at hw
      dsimp only at hw
      rw [if_neg G1.out, if_neg (by simp), if_pos (by simp [h6])] at hw
      have HV := Go.Lib.hid hw
      clear hw hval
      go_enter Tryd.func79, Tryd.ntmps79
      go_wp2
      go_quiet (fail)
      go_wp2_with (first | (go_at_call 111; refine (name8_walk _ _).mono ?_; rintro e w8 ⟨rfl, rfl⟩) | (go_at_call 34; refine (right34_walk _ _ _).mono ?_; rintro e w9 ⟨rfl, hq9⟩))
      go_ret
      exact ⟨by rw [HV.out]; rfl, (Alters.refl _).drewN _⟩
    subst h6
    by_cases h7 : cmp < 0
    · have hw := hval
      unfold wrongOf at hw
      dsimp only at hw
      rw [if_neg G1.out, if_neg (by simp), if_neg (by simp), if_pos (by simp [h7])] at hw
      have HV := Go.Lib.hid hw
      clear hw hval
      go_enter Tryd.func79, Tryd.ntmps79
      go_wp2
      go_quiet (fail)
      go_wp2_with (first | (go_at_call 111; refine (name8_walk _ _).mono ?_; rintro e w8 ⟨rfl, rfl⟩) | (go_at_call 34; refine (right34_walk _ _ _).mono ?_; rintro e w9 ⟨rfl, hq9⟩))
      go_ret
      exact ⟨by rw [HV.out]; rfl, (Alters.refl _).drewN _⟩
    by_cases h8 : 6 < cmp
    · have hw := hval
      unfold wrongOf at hw
      dsimp only at hw
      rw [if_neg G1.out, if_neg (by simp), if_neg (by simp), if_pos (by simp [h8])] at hw
      have HV := Go.Lib.hid hw
      clear hw hval
      go_enter Tryd.func79, Tryd.ntmps79
      go_wp2
      go_quiet (fail)
      go_wp2_with (first | (go_at_call 111; refine (name8_walk _ _).mono ?_; rintro e w8 ⟨rfl, rfl⟩) | (go_at_call 34; refine (right34_walk _ _ _).mono ?_; rintro e w9 ⟨rfl, hq9⟩))
      go_ret
      exact ⟨by rw [HV.out]; rfl, (Alters.refl _).drewN _⟩
    have b7 : decide (cmp < 0) = false := by simp; omega
    have b8 : decide (6 < cmp) = false := by simp; omega
    by_cases h9 : cmp = 0 ∧ val ≠ 0
    · obtain ⟨rfl, h9⟩ := h9
      have hw := hval
      unfold wrongOf at hw
      dsimp only at hw
      rw [if_neg G1.out, if_neg (by simp), if_neg (by simp), if_pos (by simp [h9])] at hw
      have HV := Go.Lib.hid hw
      clear hw hval
      go_enter Tryd.func79, Tryd.ntmps79
      go_wp2
      go_quiet (fail)
      go_wp2_with (first | (go_at_call 111; refine (name8_walk _ _).mono ?_; rintro e w8 ⟨rfl, rfl⟩) | (go_at_call 34; refine (right34_walk _ _ _).mono ?_; rintro e w9 ⟨rfl, hq9⟩))
      go_ret
      exact ⟨by rw [HV.out]; rfl, (Alters.refl _).drewN _⟩
    cases h10 : isName nm
    · have hw := hval
      unfold wrongOf at hw
      dsimp only at hw
      rw [if_neg G1.out, if_neg (by simp), if_neg (by simp), if_neg (fun h => h.2.elim h7 (fun h => h.elim h8 h9)), if_pos (by simp [h10])] at hw
      have HV := Go.Lib.hid hw
      clear hw hval
      go_enter Tryd.func79, Tryd.ntmps79
      have b9 : (cmp == 0 && !(val == 0)) = false := by by_cases e : cmp = 0 <;> by_cases e2 : val = 0 <;> simp_all
      by_cases e : cmp = 0
      · have e2 : val = 0 := by
          rcases Int.lt_trichotomy val 0 with h | h | h
          · exact absurd ⟨e, by omega⟩ h9
          · exact h
          · exact absurd ⟨e, by omega⟩ h9
        subst e e2
        go_wp2
        go_quiet (fail)
        go_wp2_with (first | (go_at_call 111; refine (name8_walk _ _).mono ?_; rintro e w8 ⟨rfl, rfl⟩) | (go_at_call 34; refine (right34_walk _ _ _).mono ?_; rintro e w9 ⟨rfl, hq9⟩))
        go_ret
        exact ⟨by rw [HV.out]; rfl, (Alters.refl _).drewN _⟩
      · go_wp2
        go_quiet (fail)
        go_wp2_with (first | (go_at_call 111; refine (name8_walk _ _).mono ?_; rintro e w8 ⟨rfl, rfl⟩) | (go_at_call 34; refine (right34_walk _ _ _).mono ?_; rintro e w9 ⟨rfl, hq9⟩))
        go_ret
        exact ⟨by rw [HV.out]; rfl, (Alters.refl _).drewN _⟩
    · have hw := hval
      unfold wrongOf at hw
      dsimp only at hw
      rw [if_neg G1.out, if_neg (by simp), if_neg (by simp), if_neg (fun h => h.2.elim h7 (fun h => h.elim h8 h9)), if_neg (by simp [h10]), if_neg (by simp)] at hw
      have HV := Go.Lib.hid hw
      clear hw hval
      go_enter Tryd.func79, Tryd.ntmps79
      by_cases e : cmp = 0
      · have e2 : val = 0 := by
          rcases Int.lt_trichotomy val 0 with h | h | h
          · exact absurd ⟨e, by omega⟩ h9
          · exact h
          · exact absurd ⟨e, by omega⟩ h9
        subst e e2
        go_wp2
        go_quiet (fail)
        go_wp2_with (first | (go_at_call 111; refine (name8_walk _ _).mono ?_; rintro e w8 ⟨rfl, rfl⟩) | (go_at_call 34; refine (right34_walk _ _ _).mono ?_; rintro e w9 ⟨rfl, hq9⟩))
        go_ret
        exact ⟨by rw [HV.out]; rfl, (Alters.refl _).drewN _⟩
      · go_wp2
        go_quiet (fail)
        go_wp2_with (first | (go_at_call 111; refine (name8_walk _ _).mono ?_; rintro e w8 ⟨rfl, rfl⟩) | (go_at_call 34; refine (right34_walk _ _ _).mono ?_; rintro e w9 ⟨rfl, hq9⟩))
        go_ret
        exact ⟨by rw [HV.out]; rfl, (Alters.refl _).drewN _⟩
  have b4 : ((k : Int) == 3) = false := by simp; omega
  have b4' : ((k : Int) != 3) = true := by simp; omega
  cases h5 : nm.toList.isEmpty
  · have hw := hval
    unfold wrongOf at hw
    dsimp only at hw
    rw [if_neg G1.out, if_pos ⟨by omega, fun h => by rw [h.1] at h5; cases h5⟩] at hw
    have HV := Go.Lib.hid hw
    clear hw hval
    go_enter Tryd.func79, Tryd.ntmps79
    go_wp2
    go_quiet (fail)
    go_wp2_with (first | (go_at_call 111; refine (name8_walk _ _).mono ?_; rintro e w8 ⟨rfl, rfl⟩) | (go_at_call 34; refine (right34_walk _ _ _).mono ?_; rintro e w9 ⟨rfl, hq9⟩))
    go_ret
    exact ⟨by rw [HV.out]; rfl, (Alters.refl _).drewN _⟩
  have h5' : nm.toList = [] := by simpa using h5
  by_cases h6 : cmp = 0
  rotate_left
  · have b6 : (cmp == 0) = false := by simpa using h6
    have b6' : (cmp != 0) = true := by simpa using h6
    have hw := hval
    unfold wrongOf at hw
    dsimp only at hw
    rw [if_neg G1.out, if_pos ⟨by omega, fun h => h6 h.2.1⟩] at hw
    have HV := Go.Lib.hid hw
    clear hw hval
    go_enter Tryd.func79, Tryd.ntmps79
    go_wp2
    go_quiet (fail)
    go_wp2_with (first | (go_at_call 111; refine (name8_walk _ _).mono ?_; rintro e w8 ⟨rfl, rfl⟩) | (go_at_call 34; refine (right34_walk _ _ _).mono ?_; rintro e w9 ⟨rfl, hq9⟩))
    go_ret
    exact ⟨by rw [HV.out]; rfl, (Alters.refl _).drewN _⟩
  subst h6
  by_cases h7 : val = 0
  rotate_left
  · have b7 : (val == 0) = false := by simpa using h7
    have b7' : (val != 0) = true := by simpa using h7
    have hw := hval
    unfold wrongOf at hw
    dsimp only at hw
    rw [if_neg G1.out, if_pos ⟨by omega, fun h => h7 h.2.2⟩] at hw
    have HV := Go.Lib.hid hw
    clear hw hval
    go_enter Tryd.func79, Tryd.ntmps79
    go_wp2
    go_quiet (fail)
    go_wp2_with (first | (go_at_call 111; refine (name8_walk _ _).mono ?_; rintro e w8 ⟨rfl, rfl⟩) | (go_at_call 34; refine (right34_walk _ _ _).mono ?_; rintro e w9 ⟨rfl, hq9⟩))
    go_ret
    exact ⟨by rw [HV.out]; rfl, (Alters.refl _).drewN _⟩
  subst h7
  have g2 : ¬ ((k : Int) ≠ 3 ∧ ¬ (nm.toList = [] ∧ (0 : Int) = 0 ∧ (0 : Int) = 0)) := fun h => h.2 ⟨h5', rfl, rfl⟩
  have G2 := Go.Lib.hid g2
  clear g2 h5'
  by_cases h8 : (k : Int) < 9
  · have b8 : decide ((9 : Int) ≤ k ∧ (k : Int) ≤ 12) = false := by simp; omega
    have b9' : decide ((9 : Int) ≤ k) = false := by simp; omega
    by_cases h9 : lo = 0
    rotate_left
    · have bx : (lo == 0) = false := by simpa using h9
      have bx' : (lo != 0) = true := by simpa using h9
      have hw := hval
      unfold wrongOf at hw
      dsimp only at hw
      rw [if_neg G1.out, if_neg G2.out, if_pos (by simp [h8, h9])] at hw
      have HV := Go.Lib.hid hw
      clear hw hval
      go_enter Tryd.func79, Tryd.ntmps79
      go_wp2
      go_quiet (fail)
      go_wp2_with (first | (go_at_call 111; refine (name8_walk _ _).mono ?_; rintro e w8 ⟨rfl, rfl⟩) | (go_at_call 34; refine (right34_walk _ _ _).mono ?_; rintro e w9 ⟨rfl, hq9⟩))
      go_ret
      exact ⟨by rw [HV.out]; rfl, (Alters.refl _).drewN _⟩
    subst h9
    by_cases h10 : hi = 0
    rotate_left
    · have bx : (hi == 0) = false := by simpa using h10
      have bx' : (hi != 0) = true := by simpa using h10
      have hw := hval
      unfold wrongOf at hw
      dsimp only at hw
      rw [if_neg G1.out, if_neg G2.out, if_pos (by simp [h8, h10])] at hw
      have HV := Go.Lib.hid hw
      clear hw hval
      go_enter Tryd.func79, Tryd.ntmps79
      go_wp2
      go_quiet (fail)
      go_wp2_with (first | (go_at_call 111; refine (name8_walk _ _).mono ?_; rintro e w8 ⟨rfl, rfl⟩) | (go_at_call 34; refine (right34_walk _ _ _).mono ?_; rintro e w9 ⟨rfl, hq9⟩))
      go_ret
      exact ⟨by rw [HV.out]; rfl, (Alters.refl _).drewN _⟩
    subst h10
    have hw := hval
    unfold wrongOf at hw
    dsimp only at hw
    rw [if_neg G1.out, if_neg G2.out, if_neg (by simp), if_neg (by omega), if_neg (by omega), if_neg (by omega)] at hw
    have HV := Go.Lib.hid hw
    clear hw hval
    go_enter Tryd.func79, Tryd.ntmps79
    go_wp2
    go_quiet (fail)
    go_wp2_with (first | (go_at_call 111; refine (name8_walk _ _).mono ?_; rintro e w8 ⟨rfl, rfl⟩) | (go_at_call 34; refine (right34_walk _ _ _).mono ?_; rintro e w9 ⟨rfl, hq9⟩))
    go_ret
    exact ⟨by rw [HV.out]; rfl, (Alters.refl _).drewN _⟩
  · have b8 : decide ((9 : Int) ≤ k ∧ (k : Int) ≤ 12) = true := by simp; omega
    by_cases h9 : 0 ≤ lo ∧ lo ≤ hi
    · have b9 : decide (0 ≤ lo ∧ lo ≤ hi) = true := by simpa using h9
      have hw := hval
      unfold wrongOf at hw
      dsimp only at hw
      rw [if_neg G1.out, if_neg G2.out, if_neg (by omega), if_neg (by omega), if_neg (by omega), if_neg (by simp [h9])] at hw
      have HV := Go.Lib.hid hw
      clear hw hval
      go_enter Tryd.func79, Tryd.ntmps79
      go_wp2
      go_quiet (fail)
      go_wp2_with (first | (go_at_call 111; refine (name8_walk _ _).mono ?_; rintro e w8 ⟨rfl, rfl⟩) | (go_at_call 34; refine (right34_walk _ _ _).mono ?_; rintro e w9 ⟨rfl, hq9⟩))
      go_ret
      exact ⟨by rw [HV.out]; rfl, ((Alters.refl _).drewN _).trans hq9⟩
    · have b9 : decide (0 ≤ lo ∧ lo ≤ hi) = false := by simpa using h9
      have hw := hval
      unfold wrongOf at hw
      dsimp only at hw
      rw [if_neg G1.out, if_neg G2.out, if_neg (by omega), if_neg (by omega), if_neg (by omega), if_pos ⟨by omega, h9⟩] at hw
      have HV := Go.Lib.hid hw
      clear hw hval
      go_enter Tryd.func79, Tryd.ntmps79
      go_wp2
      go_quiet (fail)
      go_wp2_with (first | (go_at_call 111; refine (name8_walk _ _).mono ?_; rintro e w8 ⟨rfl, rfl⟩) | (go_at_call 34; refine (right34_walk _ _ _).mono ?_; rintro e w9 ⟨rfl, hq9⟩))
      go_ret
      exact ⟨by rw [HV.out]; rfl, ((Alters.refl _).drewN _).trans hq9⟩
end Go.Proofs.YtnpcakakjhiboaaDoor
