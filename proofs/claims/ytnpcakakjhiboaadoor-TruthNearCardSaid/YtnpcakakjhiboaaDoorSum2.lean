/- Sums that are cut, as the model and the program reckon them. No condition. -/
import Derived.Test.YtnpcakakjhiboaaDoorHor8
namespace Go.Proofs.YtnpcakakjhiboaaDoor
open Go Go.RowKit Go.Lo Go.WideShapes

set_option maxHeartbeats 1000000 in
theorem highs97_walk (a : Int) (w : World) (h0 : 0 ≤ a) (h1 : a ≤ 9223372036854775807) : Calls Tryd.prog 97 #[.int .i64 a] w (Said (.int .i64 (a / 4294967296)) w) := by
  have e1 : a.tdiv 4294967296 = a / 4294967296 := Int.tdiv_eq_ediv_of_nonneg h0
  have e2 : decide (a.tmod 4294967296 < 0) = false := by
    have := Int.tmod_nonneg 4294967296 h0
    simpa using this
  have e3 : 0 ≤ a / 4294967296 := by omega
  go_enter Tryd.func97, Tryd.ntmps97
  go_wp2
  go_ret
  exact ⟨rfl, Alters.refl _⟩

set_option maxHeartbeats 1000000 in
theorem low98_walk (a : Int) (w : World) (h0 : 0 ≤ a) : Calls Tryd.prog 98 #[.int .i64 a] w (Said (.int .i64 (a % 4294967296)) w) := by
  have e1 : a.tmod 4294967296 = a % 4294967296 := Int.tmod_eq_emod_of_nonneg h0
  have e2 : decide (a % 4294967296 < 0) = false := by
    have := Int.emod_nonneg a (b := 4294967296) (by decide)
    simpa using this
  go_enter Tryd.func98, Tryd.ntmps98
  go_wp2
  go_ret
  exact ⟨rfl, Alters.refl _⟩

set_option maxHeartbeats 2000000 in
theorem whole96_walk (h l : Int) (w : World) (h0 : 0 ≤ h) (h1 : h ≤ 4294967294) (l0 : 0 ≤ l) (l1 : l < 8589934592) : Calls Tryd.prog 96 #[.int .i64 h, .int .i64 l] w (Said (.tuple #[.int .i64 (addCut (h * 4294967296 + l) 0).1, .bool (addCut (h * 4294967296 + l) 0).2]) w) := by
  obtain ⟨V, hV⟩ : ∃ V : Int × Bool, V = addCut (h * 4294967296 + l) 0 := ⟨_, rfl⟩
  rw [← hV]
  have HV := Go.Lib.hid hV
  clear hV
  go_enter Tryd.func96, Tryd.ntmps96
  go_wp2_with fail
  go_loopw [0, 1] (fun a b wr => a = .int .i64 h ∧ b = .int .i64 l ∧ wr = w) (fun _ _ _ => 0)
  case atStart => exact ⟨rfl, rfl, rfl⟩
  case round =>
    obtain ⟨rfl, rfl, rfl⟩ := hrel
    have d0 : decide (l < 0) = false := by simpa using l0
    go_wp2_with fail
    go_loopw [0, 1] (fun a b W => ∃ x y : Int, a = .int .i64 x ∧ b = .int .i64 y ∧ x * 4294967296 + y = h * 4294967296 + l ∧ 0 ≤ x ∧ x ≤ 4294967296 ∧ 0 ≤ y ∧ y < 8589934592 ∧ W = wr) (fun _ b _ => (intOf b).toNat)
    case atStart => exact ⟨h, l, rfl, rfl, rfl, h0, by omega, l0, l1, rfl⟩
    case round =>
      obtain ⟨x, y, rfl, rfl, hxy, hx0, hx1, hy0, hy1, rfl⟩ := hrel
      have HXY := Go.Lib.hid hxy
      clear hxy d0
      by_cases hy : 4294967296 ≤ y
      · have d1 : decide (4294967296 ≤ y) = true := by simpa using hy
        have hx2 : x ≤ 4294967294 := by have := HXY.out; omega
        go_wp2_with fail
        go_roundw
        case rel => exact ⟨x + 1, y - 4294967296, rfl, rfl, by have := HXY.out; omega, by omega, by omega, by omega, by omega, by first | rfl | trivial⟩
        case measure => simp [intOf]; omega
      · have d1 : decide (4294967296 ≤ y) = false := by simpa using hy
        by_cases hx3 : 2147483647 < x
        · have d2 : decide (2147483647 < x) = true := by simpa using hx3
          have e : V = (9223372036854775807, true) := by
            rw [HV.out, addCut, if_pos (by have := HXY.out; unfold top63; omega)]; rfl
          rw [e]
          clear HV
          go_wp2_with fail
          exact bodyPost_ret (v := .tuple #[.int .i64 9223372036854775807, .bool true]) (by simp [results, Tryd.results96, go_sem]) rfl ⟨rfl, Alters.refl _⟩
        · have d2 : decide (2147483647 < x) = false := by simpa using hx3
          have d3 : decide (x < -2147483648) = false := by simp; omega
          have e : V = (x * 4294967296 + y, false) := by
            rw [HV.out, addCut, if_neg (by have := HXY.out; unfold top63; omega)]
            simp; exact HXY.out.symm
          rw [e]
          clear HV
          have hr : x * 4294967296 + y ≤ 9223372036854775807 := by omega
          have hr0 : 0 ≤ x * 4294967296 := by omega
          have hr1 : x * 4294967296 ≤ 9223372036854775807 := by omega
          go_wp2_with fail
          exact bodyPost_ret (v := .tuple #[.int .i64 (x * 4294967296 + y), .bool false]) (by simp [results, Tryd.results96, go_sem]) rfl ⟨rfl, Alters.refl _⟩

set_option maxHeartbeats 2000000 in
theorem add71_walk (a b : Int) (w : World) (h0 : 0 ≤ a) (h1 : a ≤ 9223372036854775807) (l0 : 0 ≤ b) (l1 : b ≤ 9223372036854775807) : Calls Tryd.prog 71 #[.int .i64 a, .int .i64 b] w (Said (.tuple #[.int .i64 (addCut a b).1, .bool (addCut a b).2]) w) := by
  have HA := fun w => Go.Lib.hid (highs97_walk a w h0 h1)
  have HB := fun w => Go.Lib.hid (highs97_walk b w l0 l1)
  have HC := fun w => Go.Lib.hid (low98_walk a w h0)
  have HD := fun w => Go.Lib.hid (low98_walk b w l0)
  have ha : 0 ≤ a / 4294967296 ∧ a / 4294967296 ≤ 2147483647 := by omega
  have hb : 0 ≤ b / 4294967296 ∧ b / 4294967296 ≤ 2147483647 := by omega
  have hc : 0 ≤ a % 4294967296 ∧ a % 4294967296 < 4294967296 := by omega
  have hd : 0 ≤ b % 4294967296 ∧ b % 4294967296 < 4294967296 := by omega
  have he : (a / 4294967296 + b / 4294967296) * 4294967296 + (a % 4294967296 + b % 4294967296) = a + b := by omega
  have e : addCut a b = addCut ((a / 4294967296 + b / 4294967296) * 4294967296 + (a % 4294967296 + b % 4294967296)) 0 := by
    rw [he]; simp [addCut]
  rw [e]
  clear e he h0 h1 l0 l1
  generalize a / 4294967296 = ah at *
  generalize b / 4294967296 = bh at *
  generalize a % 4294967296 = al at *
  generalize b % 4294967296 = bl at *
  have HW := fun w => Go.Lib.hid (whole96_walk (ah + bh) (al + bl) w (by omega) (by omega) (by omega) (by omega))
  generalize addCut _ 0 = V at *
  obtain ⟨ha1, ha2⟩ := ha
  obtain ⟨hb1, hb2⟩ := hb
  obtain ⟨hc1, hc2⟩ := hc
  obtain ⟨hd1, hd2⟩ := hd
  go_enter Tryd.func71, Tryd.ntmps71
  go_wp2_with fail
  refine (HA _).out.mono ?_
  rintro e w1 ⟨rfl, q1⟩
  go_wp2_with fail
  refine (HB _).out.mono ?_
  rintro e w2 ⟨rfl, q2⟩
  go_wp2_with fail
  refine (HC _).out.mono ?_
  rintro e w3 ⟨rfl, q3⟩
  go_wp2_with fail
  refine (HD _).out.mono ?_
  rintro e w4 ⟨rfl, q4⟩
  go_wp2_with fail
  refine (HW _).out.mono ?_
  rintro e w5 ⟨rfl, q5⟩
  go_wp2_with fail
  exact bodyPost_ret (v := .tuple #[.int .i64 V.1, .bool V.2]) (by simp [results, Tryd.results71, go_sem]) rfl ⟨rfl, (((q1.trans q2).trans q3).trans q4).trans q5⟩

set_option maxHeartbeats 1000000 in
theorem add132_walk (a b : Int) (w : World) (h0 : 0 ≤ a) (h1 : a ≤ 9223372036854775807) (l0 : 0 ≤ b) (l1 : b ≤ 9223372036854775807) : Calls Tryd.prog 132 #[.int .i64 a, .int .i64 b] w (Said (.tuple #[.int .i64 (addCut a b).1, .bool (addCut a b).2]) w) := by
  have d1 : decide (b < 0) = false := by simpa using l0
  by_cases hc : top63 < a + b
  · have e : addCut a b = (9223372036854775807, true) := by rw [addCut, if_pos hc]; rfl
    have hw : IntKind.i64.wrap (a + b) = a + b - 18446744073709551616 := by
      unfold top63 at hc
      simp [IntKind.wrap, IntKind.bits, IntKind.signed]
      omega
    have d2 : decide (0 < b) = true := by unfold top63 at hc; simp; omega
    have d3 : decide (a + b - 18446744073709551616 < a) = true := by simp; omega
    rw [e]
    go_enter Tryd.func132, Tryd.ntmps132
    go_wp2_with fail
    exact bodyPost_ret (v := .tuple #[.int .i64 9223372036854775807, .bool true]) (by simp [results, Tryd.results132, go_sem]) rfl ⟨rfl, Alters.refl _⟩
  · have e : addCut a b = (a + b, false) := by rw [addCut, if_neg hc]
    have hr : a + b ≤ 9223372036854775807 := by unfold top63 at hc; omega
    have d3 : decide (a + b < a) = false := by simp; omega
    rw [e]
    clear hc
    cases d2 : decide (0 < b)
    · go_enter Tryd.func132, Tryd.ntmps132
      go_wp2_with fail
      exact bodyPost_ret (v := .tuple #[.int .i64 (a + b), .bool false]) (by simp [results, Tryd.results132, go_sem]) rfl ⟨rfl, Alters.refl _⟩
    · go_enter Tryd.func132, Tryd.ntmps132
      go_wp2_with fail
      exact bodyPost_ret (v := .tuple #[.int .i64 (a + b), .bool false]) (by simp [results, Tryd.results132, go_sem]) rfl ⟨rfl, Alters.refl _⟩

end Go.Proofs.YtnpcakakjhiboaaDoor
