/- The model's small functions: kinds, spans, names. No condition. Names and spans, as the program tells them. No condition. -/
import Derived.Test.YtnpcakakjhiboaaDoorMem
namespace Go.Proofs.YtnpcakakjhiboaaDoor
open Go.RowKit Go.Lo Go.WideShapes

theorem kids_walk (op : Int) (w : World) : Calls Tryd.prog 106 #[.int .i64 op] w fun e w' => e = .returned (.int .i64 (kidsOf op)) ∧ w' = w := by
  unfold kidsOf
  by_cases h1 : op ≤ 3
  · rw [if_pos h1]
    go_enter Tryd.func106, Tryd.ntmps106
    go_wp2
    go_ret
    exact ⟨rfl, rfl⟩
  · rw [if_neg h1]
    by_cases h2 : op = 4 ∨ op = 9 ∨ op = 10
    · rw [if_pos h2]
      rcases h2 with rfl | rfl | rfl <;>
      · go_enter Tryd.func106, Tryd.ntmps106
        go_wp2
        go_ret
        exact ⟨rfl, rfl⟩
    · rw [if_neg h2]
      have b4 : (op == 4) = false := by simp; omega
      have b9 : (op == 9) = false := by simp; omega
      have b10 : (op == 10) = false := by simp; omega
      go_enter Tryd.func106, Tryd.ntmps106
      go_wp2
      go_ret
      exact ⟨rfl, rfl⟩

theorem spans_walk (op : Int) (w : World) : Calls Tryd.prog 107 #[.int .i64 op] w fun e w' => e = .returned (.bool (decide (9 ≤ op ∧ op ≤ 12))) ∧ w' = w := by
  by_cases h1 : 9 ≤ op ∧ op ≤ 12
  · obtain ⟨h1, h2⟩ := h1
    go_enter Tryd.func107, Tryd.ntmps107
    go_wp2
    go_ret
    exact ⟨by simp [h1, h2], rfl⟩
  · have e : decide (9 ≤ op ∧ op ≤ 12) = false := by simpa using h1
    rw [e]
    by_cases h2 : 9 ≤ op
    · have h3 : ¬ op ≤ 12 := by omega
      go_enter Tryd.func107, Tryd.ntmps107
      go_wp2
      go_ret
      exact ⟨by simp, rfl⟩
    · clear h1 e
      go_enter Tryd.func107, Tryd.ntmps107
      go_wp2
      go_ret
      exact ⟨by simp, rfl⟩

theorem right_walk (lo hi : Int) (w : World) : Calls Tryd.prog 109 #[.agg #[.int .i64 lo, .int .i64 hi]] w (Said (.bool (decide (0 ≤ lo ∧ lo ≤ hi))) w) := by
  by_cases h1 : 0 ≤ lo
  · go_enter Tryd.func109, Tryd.ntmps109
    go_wp2
    go_ret
    exact ⟨by simp [h1], (Alters.refl _).alloc _⟩
  · have e : decide (0 ≤ lo ∧ lo ≤ hi) = false := by simp; omega
    rw [e]
    clear e
    go_enter Tryd.func109, Tryd.ntmps109
    go_wp2
    go_ret
    exact ⟨rfl, (Alters.refl _).alloc _⟩

theorem name5_walk (s : ByteArray) (w : World) : Calls Tryd.prog 108 #[.string s] w fun e w' => e = .returned (.bool (isName s)) ∧ w' = w := by
  cases h1 : s.toList.isEmpty
  rotate_left
  · have e : isName s = false := by simp [isName, h1]
    rw [e]
    clear e
    go_enter Tryd.func108, Tryd.ntmps108
    go_wp2
    go_ret
    exact ⟨rfl, rfl⟩
  by_cases h2 : 12 < s.size
  · have e : isName s = false := by simp [isName]; omega
    rw [e]
    clear e
    go_enter Tryd.func108, Tryd.ntmps108
    go_wp2
    go_ret
    exact ⟨rfl, rfl⟩
  cases h3 : s.toList == [116, 114, 117, 101]
  rotate_left
  · have e : isName s = false := by simp [isName, h3]
    rw [e]
    clear e
    go_enter Tryd.func108, Tryd.ntmps108
    go_wp2
    go_ret
    exact ⟨rfl, rfl⟩
  cases h4 : s.toList == [102, 97, 108, 115, 101]
  rotate_left
  · have e : isName s = false := by simp [isName, h4]
    rw [e]
    clear e
    go_enter Tryd.func108, Tryd.ntmps108
    go_wp2
    go_ret
    exact ⟨rfl, rfl⟩
  have e : isName s = okFrom s s.size := by
    have h5 : s.size ≤ 12 := by omega
    simp [isName, h1, h3, h4, h5]
  rw [e]
  clear e
  go_enter Tryd.func108, Tryd.ntmps108
  go_wp2
  go_loop [3] (fun i => ∃ k : Nat, k ≤ s.size ∧ i = .int .i64 k ∧ Go.RowKit.Hid (okFrom s k = true)) (fun i => s.size - (intOf i).toNat)
  case atStart => exact ⟨0, Nat.zero_le _, rfl, rfl⟩
  case round =>
    obtain ⟨k, hk, rfl, H⟩ := hrel
    by_cases hlt : k < s.size
    · have e1 : okFrom s (k + 1) = (letter s[k] || (decide (k ≠ 0) && later s[k])) := by simp [okFrom, H.out, hlt]
      have E1 := Go.Lib.hid e1
      clear e1
      go_upto_region 6 with (fail)
      go_cut [4] (fun v4 wx => v4 = .bool (letter s[k]) ∧ wx = w)
      case first =>
        by_cases a1 : (97 : Int) ≤ s[k].toNat
        · go_wp2
          go_meet
          refine ⟨?_, rfl⟩
          have a2 : 97 ≤ s[k].toNat := by omega
          simp [letter, a2]
          omega
        · go_wp2
          go_meet
          refine ⟨?_, rfl⟩
          have a2 : ¬ 97 ≤ s[k].toNat := by omega
          simp [letter, a2]
      case rest =>
        obtain ⟨rfl, rfl⟩ := hcut
        have e95 : ((s[k].toNat : Int) == 95) = decide (s[k].toNat = 95) := by
          by_cases h : s[k].toNat = 95
          · simp [h]
          · have h2 : ¬ ((s[k].toNat : Int) = 95) := by omega
            simp [h, h2]
        go_upto_region 7 with (fail)
        go_cut [5] (fun v5 wx => v5 = .bool (later s[k]) ∧ wx = wc)
        case first =>
          by_cases a1 : (48 : Int) ≤ s[k].toNat
          · by_cases a3 : (s[k].toNat : Int) ≤ 57
            · go_wp2
              go_meet
              refine ⟨?_, rfl⟩
              have a2 : 48 ≤ s[k].toNat := by omega
              have a4 : s[k].toNat ≤ 57 := by omega
              simp [later, a2, a4]
            · go_wp2
              go_meet
              refine ⟨?_, rfl⟩
              have a4 : ¬ s[k].toNat ≤ 57 := by omega
              simp [later, a4]
          · go_wp2
            go_meet
            refine ⟨?_, rfl⟩
            have a2 : ¬ 48 ≤ s[k].toNat := by omega
            simp [later, a2]
        case rest =>
          obtain ⟨rfl, rfl⟩ := hcut
          clear e95
          by_cases hk0 : k = 0
          · subst hk0
            cases hL : letter s[0]
            · have e2 : okFrom s s.size = false := okFrom_stop s 0 (by rw [E1.out, hL]; rfl) _ hlt
              have E2 := Go.Lib.hid e2
              clear e2
              go_wp2
              go_ret
              exact ⟨by rw [E2.out]; rfl, rfl⟩
            · go_wp2
              go_round
              case rel => exact ⟨1, by omega, by go_num, by have := E1.out; rw [hL] at this; exact this⟩
              case measure => simp [intOf]; omega
          · have bk : ((k : Int) == 0) = false := by simp; omega
            cases hL : letter s[k]
            · cases hO : later s[k]
              · have e2 : okFrom s s.size = false := okFrom_stop s k (by rw [E1.out, hL, hO]; simp) _ hlt
                have E2 := Go.Lib.hid e2
                clear e2
                go_wp2
                go_ret
                exact ⟨by rw [E2.out]; rfl, rfl⟩
              · go_wp2
                go_round
                case rel => exact ⟨k + 1, by omega, by go_num, by have := E1.out; rw [hL, hO] at this; show okFrom s (k + 1) = true; rw [this]; simp [hk0]⟩
                case measure => simp [intOf]; omega
            · go_wp2
              go_round
              case rel => exact ⟨k + 1, by omega, by go_num, by have := E1.out; rw [hL] at this; exact this⟩
              case measure => simp [intOf]; omega
    · obtain rfl : k = s.size := by omega
      go_wp2
      go_ret
      exact ⟨by rw [H.out]; rfl, rfl⟩
end Go.Proofs.YtnpcakakjhiboaaDoor

namespace Go.Proofs.YtnpcakakjhiboaaDoor
open Go.RowKit Go.Lo Go.WideShapes

theorem right34_walk (lo hi : Int) (w : World) : Calls Tryd.prog 34 #[.agg #[.int .i64 lo, .int .i64 hi]] w (Said (.bool (decide (0 ≤ lo ∧ lo ≤ hi))) w) := by
  by_cases h1 : 0 ≤ lo
  · go_enter Tryd.func34, Tryd.ntmps34
    go_wp2
    go_ret
    exact ⟨by simp [h1], (Alters.refl _).alloc _⟩
  · have e : decide (0 ≤ lo ∧ lo ≤ hi) = false := by simp; omega
    rw [e]
    clear e
    go_enter Tryd.func34, Tryd.ntmps34
    go_wp2
    go_ret
    exact ⟨rfl, (Alters.refl _).alloc _⟩

theorem size_pos (s : ByteArray) (h : s.toList.isEmpty = false) : 1 ≤ s.size := by
  rw [ByteArray.toList_eq] at h
  rcases Nat.eq_zero_or_pos s.size with h0 | h0
  · have h0' : s.data.size = 0 := h0
    have : s.data = #[] := Array.eq_empty_of_size_eq_zero h0'
    rw [this] at h
    simp at h
  · exact h0

theorem size_none (s : ByteArray) (h : s.toList.isEmpty = true) : s.size = 0 := by
  rw [ByteArray.toList_eq] at h
  have : s.data.toList = [] := by simpa using h
  show s.data.size = 0
  simpa using congrArg List.length this

set_option maxHeartbeats 1000000 in
theorem name8_walk (s : ByteArray) (w : World) : Calls Tryd.prog 111 #[.string s] w fun e w' => e = .returned (.bool (isName s)) ∧ w' = w := by
  cases h1 : s.toList.isEmpty
  rotate_left
  · have e : isName s = false := by simp [isName, h1]
    rw [e]
    have h0 := size_none s h1
    clear e h1
    go_enter Tryd.func111, Tryd.ntmps111
    go_wp2
    go_ret
    exact ⟨rfl, rfl⟩
  have h0 := size_pos s h1
  by_cases h2 : 12 < s.size
  · have e : isName s = false := by simp [isName]; omega
    rw [e]
    clear e
    go_enter Tryd.func111, Tryd.ntmps111
    go_wp2
    go_ret
    exact ⟨rfl, rfl⟩
  cases h3 : s.toList == [116, 114, 117, 101]
  rotate_left
  · have e : isName s = false := by simp [isName, h3]
    rw [e]
    clear e
    go_enter Tryd.func111, Tryd.ntmps111
    go_wp2
    go_ret
    exact ⟨rfl, rfl⟩
  cases h4 : s.toList == [102, 97, 108, 115, 101]
  rotate_left
  · have e : isName s = false := by simp [isName, h4]
    rw [e]
    clear e
    go_enter Tryd.func111, Tryd.ntmps111
    go_wp2
    go_ret
    exact ⟨rfl, rfl⟩
  have e : isName s = okFrom s s.size := by
    have h5 : s.size ≤ 12 := by omega
    simp [isName, h1, h3, h4, h5]
  rw [e]
  clear e h1
  go_enter Tryd.func111, Tryd.ntmps111
  go_wp2
  clear h3 h4
  go_loop [23] (fun i => ∃ k : Nat, k ≤ s.size ∧ i = .int .i64 k ∧ Go.RowKit.Hid (okFrom s k = true)) (fun i => s.size - (intOf i).toNat)
  case atStart => exact ⟨0, Nat.zero_le _, rfl, rfl⟩
  case round =>
    obtain ⟨k, hk, rfl, H⟩ := hrel
    by_cases hlt : k < s.size
    · have e1 : okFrom s (k + 1) = (letter s[k] || (decide (k ≠ 0) && later s[k])) := by simp [okFrom, H.out, hlt]
      have E1 := Go.Lib.hid e1
      clear e1
      have stop : okFrom s (k + 1) = false → okFrom s s.size = false := fun h => okFrom_stop s k h _ hlt
      have ST := Go.Lib.hid stop
      clear stop
      by_cases a1 : (97 : Int) ≤ s[k].toNat ∧ (s[k].toNat : Int) ≤ 122
      · have hl : okFrom s (k + 1) = true := by
          have c1 : 97 ≤ s[k].toNat := by omega
          have c2 : s[k].toNat ≤ 122 := by omega
          rw [E1.out]; simp [letter, c1, c2]
        have HL := Go.Lib.hid hl
        obtain ⟨a1, a2⟩ := a1
        clear hl
        go_wp2
        go_round
        case rel => exact ⟨k + 1, by omega, by go_num, HL.out⟩
        case measure => simp [intOf]; omega
      · have hl : letter s[k] = false := by
          unfold letter
          by_cases c1 : 97 ≤ s[k].toNat
          · have c2 : ¬ s[k].toNat ≤ 122 := by omega
            simp [c2]
          · simp [c1]
        have HL := Go.Lib.hid hl
        clear hl
        have hx : (s[k].toNat : Int) < 97 ∨ ((97 : Int) ≤ s[k].toNat ∧ (122 : Int) < s[k].toNat) := by omega
        clear a1
        by_cases hk0 : k = 0
        · have e2 : okFrom s s.size = false := ST.out (by rw [E1.out, HL.out]; simp [hk0])
          have E2 := Go.Lib.hid e2
          have bk : ((k : Int) == 0) = true := by simp [hk0]
          clear e2 hk0
          rcases hx with a2 | ⟨a2, a3⟩
          · have a4 : ¬ (97 : Int) ≤ s[k].toNat := by omega
            clear a2
            go_wp2
            go_ret
            exact ⟨by rw [E2.out]; rfl, rfl⟩
          · have a4 : ¬ (s[k].toNat : Int) ≤ 122 := by omega
            clear a3
            go_wp2
            go_ret
            exact ⟨by rw [E2.out]; rfl, rfl⟩
        · have bk : ((k : Int) == 0) = false := by simp; omega
          have el : okFrom s (k + 1) = later s[k] := by rw [E1.out, HL.out]; simp [hk0]
          have EL := Go.Lib.hid el
          clear el
          rcases hx with a2 | ⟨a2, a3⟩
          · have a4 : ¬ (97 : Int) ≤ s[k].toNat := by omega
            by_cases h95 : s[k].toNat = 95
            · have hc : okFrom s (k + 1) = true := by rw [EL.out]; simp [later, h95]
              have HC := Go.Lib.hid hc
              have b95 : ((s[k].toNat : Int) != 95) = false := by simp [h95]
              clear hc a2 h95
              go_wp2
              go_round
              case rel => exact ⟨k + 1, by omega, by go_num, HC.out⟩
              case measure => simp [intOf]; omega
            · have b95 : ((s[k].toNat : Int) != 95) = true := by simp; omega
              by_cases h48 : (48 : Int) ≤ s[k].toNat
              · by_cases h57 : (s[k].toNat : Int) ≤ 57
                · have hc : okFrom s (k + 1) = true := by
                    have c1 : 48 ≤ s[k].toNat := by omega
                    have c2 : s[k].toNat ≤ 57 := by omega
                    rw [EL.out]; simp [later, c1, c2]
                  have HC := Go.Lib.hid hc
                  have q1 : ¬ (s[k].toNat : Int) < 48 := by omega
                  have q2 : ¬ (57 : Int) < s[k].toNat := by omega
                  clear hc a2 h95 h48 h57
                  go_wp2
                  go_round
                  case rel => exact ⟨k + 1, by omega, by go_num, HC.out⟩
                  case measure => simp [intOf]; omega
                · have e2 : okFrom s s.size = false := ST.out (by
                    have c2 : ¬ s[k].toNat ≤ 57 := by omega
                    rw [EL.out]; simp [later, c2, h95])
                  have E2 := Go.Lib.hid e2
                  have q1 : ¬ (s[k].toNat : Int) < 48 := by omega
                  have q2 : (57 : Int) < s[k].toNat := by omega
                  clear e2 a2 h95 h48 h57
                  go_wp2
                  go_ret
                  exact ⟨by rw [E2.out]; rfl, rfl⟩
              · have e2 : okFrom s s.size = false := ST.out (by
                  have c2 : ¬ 48 ≤ s[k].toNat := by omega
                  rw [EL.out]; simp [later, c2, h95])
                have E2 := Go.Lib.hid e2
                have q1 : (s[k].toNat : Int) < 48 := by omega
                clear e2 a2 h95 h48
                go_wp2
                go_ret
                exact ⟨by rw [E2.out]; rfl, rfl⟩
          · have a4 : ¬ (s[k].toNat : Int) ≤ 122 := by omega
            have e2 : okFrom s s.size = false := ST.out (by
              have c2 : ¬ s[k].toNat ≤ 57 := by omega
              have c3 : ¬ s[k].toNat = 95 := by omega
              rw [EL.out]; simp [later, c2, c3])
            have E2 := Go.Lib.hid e2
            have b95 : ((s[k].toNat : Int) != 95) = true := by simp; omega
            have q1 : ¬ (s[k].toNat : Int) < 48 := by omega
            have q2 : (57 : Int) < s[k].toNat := by omega
            clear e2 a3
            go_wp2
            go_ret
            exact ⟨by rw [E2.out]; rfl, rfl⟩
    · obtain rfl : k = s.size := by omega
      go_wp2
      go_ret
      exact ⟨by rw [H.out]; rfl, rfl⟩
end Go.Proofs.YtnpcakakjhiboaaDoor
