/- DrrClamps: for every input the law returns true and its arguments read as before. No condition. -/
import Derived.Test.YtoebhifnfomkhaaLists
namespace Go.Proofs.Ytoebhifnfomkhaa
open Go.RowKit Go.Lo

/-- A cost, cut at 0 and at 64, as the law cuts it. -/
def cp (x : Int) : Int := if 64 < (if x < 0 then 0 else x) then 64 else (if x < 0 then 0 else x)

theorem cl_cp (x : Int) : (cl x ≤ 0 ↔ cl (cp x) ≤ 0) ∧ (0 < cl x → cl (cp x) = cl x) := by
  unfold cl cp
  by_cases h0 : x < 0
  · simp [h0]; constructor
    · omega
    · intro h; split at h <;> omega
  · rw [if_neg h0]
    by_cases h1 : 64 < x
    · simp [h1]; omega
    · simp [h1]

theorem Runs.cut {z : Nat → Int} {d d' : D} {k : Nat} (h : Runs z d d' k) : Runs (fun i => cp (z i)) d d' k := by
  induction h with
  | skip d d' k h0 _ ih => exact .skip _ _ _ ((cl_cp _).1.1 h0) ih
  | wait d d' k h0 h1 _ ih => exact .wait _ _ _ (by rw [(cl_cp _).2 h0]; exact h0) (by rw [(cl_cp _).2 h0]; exact h1) ih
  | serve d h0 h1 =>
    have e := (cl_cp (z d.p)).2 h0
    have := Runs.serve (c := fun i => cp (z i)) d (by rw [e]; exact h0) (by rw [e]; exact h1)
    rw [e] at this
    exact this

theorem cp_pos (x : Int) : 0 < cp x ↔ 0 < x := by
  unfold cp
  by_cases h0 : x < 0
  · simp [h0]; omega
  · rw [if_neg h0]; split <;> omega

/-- A call of Next at a list that lies apart from the Drr. -/
theorem next_apart (bd bg bl : Nat) (d : D) (a : Option Addr) (len cap : Nat) (z : Nat → Int) (w : World) (h : IsDrr w bd bg bl d) (ok : d.Ok)
    (hc : 0 < len → ∃ b off, a = some ⟨b, off, none⟩ ∧ b ≠ bd ∧ b ≠ bl ∧ b < w.heap.size ∧ ∀ i, i < len → w.cell? ⟨b, off + i, none⟩ = some (.int .i64 (z i))) :
    Calls Try.prog 11 #[.pointer (some ⟨bd, 0, none⟩), .slice a len cap] w (NextEnds bd bg bl d len z w) := by
  by_cases hl : len = d.n
  · subst hl
    by_cases hj : ∃ j, j < d.n ∧ 0 < z j
    · obtain ⟨j, hj, hz⟩ := hj
      obtain ⟨b, off, rfl, b1, b2, hb, hcz⟩ := hc (by omega)
      refine (next_walk bd bg bl b off cap j z d w h ok hj hz hcz b1 b2 hb).mono ?_
      rintro e w' ⟨d', k, hr, rfl, hI, hA⟩
      exact .inl ⟨⟨rfl, j, hj, hz⟩, d', k, hr, rfl, hI, (hr.ok ok).1, hA⟩
    · refine (next_none_waits bd bg bl d a cap z w h ok.n8 (fun j hj' => ?_) (fun h0 => ?_)).mono ?_
      · have : ¬ 0 < z j := fun h => hj ⟨j, hj', h⟩
        omega
      · obtain ⟨b, off, rfl, _, _, hb, hcz⟩ := hc h0
        exact ⟨b, off, rfl, hb, hcz⟩
      · rintro e w' ⟨rfl, rfl⟩
        exact .inr ⟨fun h => hj h.2, rfl, rfl⟩
  · refine (next_none_len bd bg bl d a len cap w h hl).mono ?_
    rintro e w' ⟨rfl, rfl⟩
    exact .inr ⟨fun h => hl h.1, rfl, rfl⟩

/-- Two Drr's that stand alike, at blocks of their own. -/
def Twins (w0 : World) (bd bg bl od og ol n : Nat) (w : World) : Prop :=
  ∃ d : D, IsDrr w bd bg bl d ∧ IsDrr w od og ol d ∧ d.Ok ∧ d.n = n ∧ Quiet w0 w

def Apart (w0 : World) (bd bg bl od og ol : Nat) : Prop :=
  (w0.heap.size ≤ bd ∧ w0.heap.size ≤ bl ∧ w0.heap.size ≤ od ∧ w0.heap.size ≤ ol) ∧ (od ≠ bd ∧ od ≠ bl) ∧ (og ≠ bd ∧ og ≠ bl) ∧ (ol ≠ bd ∧ ol ≠ bl) ∧ (bg ≠ od ∧ bg ≠ ol)

/-- The first of the two is asked; the other one stays. -/
theorem twin_first {w0 w w' : World} {bd bg bl od og ol n len : Nat} {z : Nat → Int} {d : D} {e : Ending} (hI : IsDrr w bd bg bl d) (hO : IsDrr w od og ol d) (ok : d.Ok) (hQ : Quiet w0 w) (hn : d.n = n)
    (hp : Apart w0 bd bg bl od og ol) (h : NextEnds bd bg bl d len z w e w') :
    ∃ (x : Int) (d2 : D), e = .returned (.int .i64 x) ∧ IsDrr w' bd bg bl d2 ∧ IsDrr w' od og ol d ∧ d2.Ok ∧ d2.n = n ∧ Quiet w0 w' ∧ Alters (fun k => k = bd ∨ k = bl) w w' ∧
      ((len = d.n ∧ ∃ k : Nat, x = k ∧ Runs z d d2 k) ∨ (¬ (len = d.n ∧ ∃ j, j < len ∧ 0 < z j) ∧ x = -1 ∧ d2 = d)) := by
  obtain ⟨⟨p1, p2, p3, p4⟩, ⟨q1, q2⟩, ⟨q3, q4⟩, ⟨q5, q6⟩, _⟩ := hp
  rcases h with ⟨⟨h1, h2⟩, d', k, hr, rfl, hI', ok', hA⟩ | ⟨h1, rfl, rfl⟩
  · obtain ⟨_, _, _, k3, _, _, _⟩ := hr.ok ok
    exact ⟨k, d', rfl, hI', ⟨hA.blk hO.own (by omega), hA.blk hO.gain (by omega), hA.blk hO.left (by omega), hO.gd, hO.ld, hO.gl⟩, ok', k3.trans hn, quiet_then hQ hA (fun i hi => by omega), hA, .inl ⟨h1, k, rfl, hr⟩⟩
  · exact ⟨-1, d, rfl, hI, hO, ok, hn, hQ, Alters.refl _, .inr ⟨h1, rfl, rfl⟩⟩

/-- The other one is asked, at the costs that were cut: it answers alike, and stands alike. -/
theorem twin_second {w0 w w' : World} {bd bg bl od og ol n len : Nat} {z : Nat → Int} {d d2 : D} {x : Int} {e : Ending} (hI : IsDrr w bd bg bl d2) (hO : IsDrr w od og ol d) (ok : d.Ok) (hQ : Quiet w0 w)
    (hp : Apart w0 bd bg bl od og ol)
    (hx : (len = d.n ∧ ∃ k : Nat, x = k ∧ Runs z d d2 k) ∨ (¬ (len = d.n ∧ ∃ j, j < len ∧ 0 < z j) ∧ x = -1 ∧ d2 = d))
    (hn2 : d2.n = n) (ok2 : d2.Ok) (h : NextEnds od og ol d len (fun i => cp (z i)) w e w') :
    e = .returned (.int .i64 x) ∧ Twins w0 bd bg bl od og ol n w' ∧ ∃ d3, IsDrr w' bd bg bl d3 ∧ IsDrr w' od og ol d3 ∧ d3.Ok ∧ d3.n = n ∧ Quiet w0 w' := by
  obtain ⟨⟨p1, p2, p3, p4⟩, ⟨q1, q2⟩, ⟨q3, q4⟩, ⟨q5, q6⟩, q7, q8⟩ := hp
  rcases h with ⟨⟨h1, j, hj, hz⟩, d', k, hr, rfl, hI', ok', hA⟩ | ⟨h1, rfl, rfl⟩
  · rcases hx with ⟨_, k', rfl, hr'⟩ | ⟨hno, _, _⟩
    · obtain ⟨rfl, rfl⟩ := hr'.cut.only hr
      have hI2 : IsDrr w' bd bg bl d2 := ⟨hA.blk hI.own (by omega), hA.blk hI.gain (by omega), hA.blk hI.left (by omega), hI.gd, hI.ld, hI.gl⟩
      have hQ2 := quiet_then hQ hA (fun i hi => by omega)
      exact ⟨rfl, ⟨d2, hI2, hI', ok2, hn2, hQ2⟩, d2, hI2, hI', ok2, hn2, hQ2⟩
    · exact absurd ⟨h1, j, hj, (cp_pos _).1 hz⟩ hno
  · rcases hx with ⟨hl, k', rfl, hr'⟩ | ⟨_, rfl, rfl⟩
    · obtain ⟨_, k1, k2, _⟩ := hr'.ok ok
      exact absurd ⟨hl, k', by omega, (cp_pos _).2 k2⟩ h1
    · exact ⟨rfl, ⟨_, hI, hO, ok2, hn2, hQ⟩, _, hI, hO, ok2, hn2, hQ⟩
end Go.Proofs.Ytoebhifnfomkhaa
