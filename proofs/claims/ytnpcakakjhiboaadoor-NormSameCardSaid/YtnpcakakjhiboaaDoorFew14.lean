/- Few points with few propositions (37). No condition. -/
import Derived.Test.YtnpcakakjhiboaaDoorWord
namespace Go.Proofs.YtnpcakakjhiboaaDoor
open Go Go.RowKit Go.Lo Go.WideShapes

set_option maxRecDepth 100000 in
set_option maxHeartbeats 2000000 in
theorem few37_walk (a : Option Addr) (cap : Nat) (L : List Hp) (w : World) (hw : WdAt w a L) : Calls Tryd.prog 37 #[.slice a L.length cap] w (Said (.bool (fewW L)) w) := by
  have HW := Go.Lib.hid hw
  have hlen := hw.len
  unfold maxLen at hlen
  clear hw
  go_enter Tryd.func37, Tryd.ntmps37
  by_cases h16 : L.length ≤ 16
  rotate_left
  · have hf : fewW L = false := by simp [fewW, h16]
    have hg : decide ((16 : Int) < (L.length : Int)) = true := by rw [decide_eq_true_eq]; omega
    have HF := Go.Lib.hid hf
    clear hf
    go_wp2_with fail
    go_ret
    exact ⟨by rw [HF.out]; rfl, Alters.refl _⟩
  · have hg : decide ((16 : Int) < (L.length : Int)) = false := by rw [decide_eq_false_iff_not]; omega
    have H16 := Go.Lib.hid h16
    clear h16
    go_wp2_with fail
    go_loopw [3] (fun i wr => ∃ k : Nat, k ≤ L.length ∧ i = .int .i64 k ∧ (∀ j h, j < k → L[j]? = some h → fewP h.p = true) ∧ Quiet w wr) (fun i _ => L.length - (intOf i).toNat)
    case atStart => exact ⟨0, Nat.zero_le _, rfl, fun j h hj => by omega, Alters.refl _⟩
    case round =>
      obtain ⟨k, hk, rfl, hA, hQ⟩ := hrel
      by_cases hlt : k < L.length
      · have hne : L ≠ [] := fun h => by subst h; simp at hlt
        obtain ⟨b, o, rfl, hc⟩ := HW.out.cells hne
        obtain ⟨q, hq⟩ : ∃ q, L[k]? = some q := ⟨_, List.getElem?_eq_getElem hlt⟩
        obtain ⟨-, d1⟩ := hc k q hq
        obtain ⟨hl2, hp⟩ := HW.out.props q (List.mem_of_getElem? hq)
        unfold maxLen at hl2
        replace d1 := hQ.cell d1 (by simp)
        have HP := Go.Lib.hid (hp.quiet hQ)
        have HQ := Go.Lib.hid hQ
        have HA := Go.Lib.hid hA
        have HQK := Go.Lib.hid hq
        clear hA hQ hc hp hq
        by_cases h10 : q.p.props.length ≤ 10
        rotate_left
        · have hf : fewW L = false := by
            rw [Bool.eq_false_iff]
            intro h
            simp only [fewW, Bool.and_eq_true, List.all_eq_true] at h
            have := h.2 q (List.mem_of_getElem? HQK.out)
            simp only [fewP, Bool.and_eq_true, decide_eq_true_eq] at this
            exact h10 this.1
          have hg2 : decide ((10 : Int) < (q.p.props.length : Int)) = true := by rw [decide_eq_true_eq]; omega
          have HF := Go.Lib.hid hf
          clear hf
          clear h10
          go_wp2_with fail
          go_ret
          exact ⟨by rw [HF.out]; rfl, HQ.out⟩
        · have hg2 : decide ((10 : Int) < (q.p.props.length : Int)) = false := by rw [decide_eq_false_iff_not]; omega
          have H10 := Go.Lib.hid h10
          clear h10
          go_wp2_with fail
          go_loopw [4] (fun i wi => ∃ m : Nat, m ≤ q.p.props.length ∧ i = .int .i64 m ∧ (∀ j p, j < m → q.p.props[j]? = some p → p.1.size ≤ 40) ∧ Quiet wr wi) (fun i _ => q.p.props.length - (intOf i).toNat)
          case atStart => exact ⟨0, Nat.zero_le _, rfl, fun j h hj => by omega, Alters.refl _⟩
          case round =>
            obtain ⟨m, hm, rfl, hB, hQ2⟩ := hrel
            by_cases hlm : m < q.p.props.length
            · have hnp : q.p.props ≠ [] := fun h => by rw [h] at hlm; simp at hlm
              obtain ⟨b2, o2, ha2, hc2⟩ := HP.out hnp
              obtain ⟨p, hp⟩ : ∃ p, q.p.props[m]? = some p := ⟨_, List.getElem?_eq_getElem hlm⟩
              have e0 := hQ2.cell (hc2 m p hp).1 (by simp)
              have d2 := hQ2.cell d1 (by simp)
              rw [ha2] at d2
              have HQ2 := Go.Lib.hid hQ2
              have HB := Go.Lib.hid hB
              have HPM := Go.Lib.hid hp
              clear hB hQ2 hc2 hp d1 ha2
              by_cases h40 : p.1.size ≤ 40
              · have hg3 : decide ((40 : Int) < (p.1.size : Int)) = false := by rw [decide_eq_false_iff_not]; omega
                have H40 := Go.Lib.hid h40
                clear h40
                go_wp2_with fail
                go_roundw
                case rel => exact ⟨m + 1, by omega, by go_num, fun j y hj hy => by
                  rcases Nat.lt_or_ge j m with h | h
                  · exact HB.out j y h hy
                  · obtain rfl : j = m := by omega
                    rw [HPM.out] at hy
                    obtain rfl := Option.some.inj hy
                    exact H40.out, HQ2.out⟩
                case measure => simp [intOf]; omega
              · have hf : fewW L = false := by
                  rw [Bool.eq_false_iff]
                  intro h
                  simp only [fewW, Bool.and_eq_true, List.all_eq_true] at h
                  have := h.2 q (List.mem_of_getElem? HQK.out)
                  simp only [fewP, Bool.and_eq_true, List.all_eq_true, decide_eq_true_eq] at this
                  exact h40 (this.2 p (List.mem_of_getElem? HPM.out))
                have hg3 : decide ((40 : Int) < (p.1.size : Int)) = true := by rw [decide_eq_true_eq]; omega
                have HF := Go.Lib.hid hf
                clear hf h40
                go_wp2_with fail
                go_ret
                exact ⟨by rw [HF.out]; rfl, HQ.out.trans HQ2.out⟩
            · obtain rfl : m = q.p.props.length := by omega
              have d2 := hQ2.cell d1 (by simp)
              have HQ2 := Go.Lib.hid hQ2
              have HB := Go.Lib.hid hB
              clear hB hQ2 d1
              go_wp2_with fail
              go_roundw
              case rel => exact ⟨k + 1, by omega, by go_num, fun j y hj hy => by
                rcases Nat.lt_or_ge j k with h | h
                · exact HA.out j y h hy
                · obtain rfl : j = k := by omega
                  rw [HQK.out] at hy
                  obtain rfl := Option.some.inj hy
                  simp only [fewP, Bool.and_eq_true, List.all_eq_true, decide_eq_true_eq]
                  refine ⟨H10.out, fun p hp => ?_⟩
                  obtain ⟨i, hi, rfl⟩ := List.mem_iff_getElem.1 hp
                  exact HB.out i _ hi (List.getElem?_eq_getElem hi), HQ.out.trans HQ2.out⟩
              case measure => simp [intOf]; omega
      · obtain rfl : k = L.length := by omega
        have hf : fewW L = true := by
          simp only [fewW, Bool.and_eq_true, List.all_eq_true, decide_eq_true_eq]
          refine ⟨H16.out, fun h hh => ?_⟩
          obtain ⟨i, hi, rfl⟩ := List.mem_iff_getElem.1 hh
          exact hA i _ hi (List.getElem?_eq_getElem hi)
        have HF := Go.Lib.hid hf
        clear hf
        have HQ := Go.Lib.hid hQ
        clear hA hQ
        go_wp2_with fail
        go_ret
        exact ⟨by rw [HF.out]; rfl, HQ.out⟩
theorem normOf_size6 (f : Fm) (h : sound f) : (normOf f).size ≤ 4 * f.size := by rw [normOf_sound h]; exact made_size f h

end Go.Proofs.YtnpcakakjhiboaaDoor
