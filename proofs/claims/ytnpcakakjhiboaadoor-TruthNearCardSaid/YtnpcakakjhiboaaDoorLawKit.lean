/- What every law of this seat shares: a start that meets the row's condition, and what the condition gives a walk. No condition. -/
import Derived.Test.YtnpcakakjhiboaaDoorRows
import Derived.Test.YtnpcakakjhiboaaDoorWrong9
import Derived.Test.YtnpcakakjhiboaaDoorOpenF
import Derived.ProofKit
import Derived.LaidMore
import Derived.SevenTiedAt
import Derived.OpenShut
import Derived.Stop.Joined
namespace Go.Proofs.YtnpcakakjhiboaaDoor
open Go Go.RowKit Go.Lo Go.ChangeShapes Go.WideShapes Go.ChangeAt Go.Deep

theorem own : ownKnob Tryd.prog.godebug = none := by kernel_rfl
theorem laidOut : laidOutB Tryd.prog = true := by kernel_rfl
theorem gShapes : Tryd.prog.globalNamed "lookout/formula.shapes" = some 0 := by kernel_rfl
theorem tShapes : (Tryd.prog.globals[0]?).map (·.type) = some 141 := by kernel_rfl
def laidS : List (String × DataW Unit) := [("lookout/formula.shapes", Rows.laid_lookout_formula_shapes)]

/-- The door's own heap meets the condition. -/
theorem door_met (os : Os) (args : Array Value) : laidMetH Tryd.prog laidS ((World.doorLaid Tryd.prog 35 os).forCall (fun _ _ => 0) ⟨#[], args, []⟩).memory :=
  laidMetH_of_parts3 (fuel := 8) (laidMet_of_run' 8 (by kernel_rfl) (by kernel_rfl)) (by kernel_rfl) (by kernel_rfl)

/-- How many kids, as the laid datum tells it. -/
theorem laid_kids (k : Nat) (h : 1 ≤ k ∧ k ≤ 12) : ∃ r, (match (Rows.laid_lookout_formula_shapes : DataW Unit) with | .agg l => l | _ => [])[k]? = some (.agg (.lit (.int .i64 (kidsOf k)) :: r)) := by
  have e : k = 1 ∨ k = 2 ∨ k = 3 ∨ k = 4 ∨ k = 5 ∨ k = 6 ∨ k = 7 ∨ k = 8 ∨ k = 9 ∨ k = 10 ∨ k = 11 ∨ k = 12 := by omega
  rcases e with rfl | rfl | rfl | rfl | rfl | rfl | rfl | rfl | rfl | rfl | rfl | rfl <;> exact ⟨_, rfl⟩

/-- What the row's condition gives a walk. -/
theorem of_laid {W : World} (h : laidMetH Tryd.prog laidS W) : Shapes W := by
  rw [MakeChecks.laidMetH_plain _ _ _ (by kernel_rfl)] at h
  obtain ⟨ps, ⟨g0, t0, cs0, f0, p0, q0, hg0, ht0, hv0, hd0, _, _⟩, _, _⟩ := h
  obtain rfl := Option.some.inj (gShapes.symm.trans hg0)
  obtain rfl := Option.some.inj (tShapes.symm.trans ht0)
  obtain ⟨xs, m1, rfl, hx1, hlen, hn3, hel⟩ := DataW.trod_array Tryd.underlying141 hd0
  have c : Tryd.prog.cellsOf 140 = 4 := by kernel_rfl
  have c3 : Tryd.prog.cellsOf 3 = 1 := by kernel_rfl
  rw [c] at hel
  have hx2 : xs.map (·.1) = (match (Rows.laid_lookout_formula_shapes : DataW Unit) with | .agg l => l | _ => []) := by
    have := congrArg Prod.fst hx1
    simp only at this
    rw [this]
  intro k h1 h12
  obtain ⟨r, hr⟩ := laid_kids k ⟨h1, h12⟩
  rw [← hx2, List.getElem?_map] at hr
  obtain ⟨y, hy, hr⟩ := Option.map_eq_some_iff.1 hr
  have h4 := hel k (by omega)
  rw [hy] at h4
  obtain ⟨y0, y1, y2, m2, rfl, -, k0, -, -⟩ := trod_struct3 Tryd.underlying140 h4
  simp only at k0
  rw [c3] at k0
  obtain ⟨n, e0, e1, -⟩ := DataW.trod_int Tryd.underlying3 k0
  subst e1
  simp only [DataW.agg.injEq, List.cons.injEq, DataW.lit.injEq, Lit.int.injEq, true_and] at hr
  obtain ⟨rfl, -⟩ := hr
  have e2 := one_of e0
  rw [drop_take_at (by omega)] at e2
  have := World.var?_cell hg0 hv0 (k * 4)
  rw [this]
  simpa using e2

theorem main_is : Tryd.pinned.checked.prog.mainIs = some (true, "651ec7f9e81b854d6bfd970204af6a82e2d60a2a5c2c1c5fd84b194759b77512".toList) := by kernel_rfl
theorem no_looks : false = Tryd.pinned.checked.prog.looks [] := by kernel_rfl
theorem no_stand : ([3, 5, 25, 28, 45].all fun u => !Tryd.prog.wantsStandIn u) = true := by kernel_rfl

theorem may_enter : Tryd.pinned.checked.prog.mayEnter = true := by kernel_rfl
theorem lifts_final : Tryd.pinned.checked.prog.liftsFinal = Rows.normTellsRow.lifted := by kernel_rfl
theorem make_is : Tryd.pinned.checked.prog.make = some Rows.normTellsRow.make := by kernel_rfl

theorem band {a b : Bool} (ha : a = true) (hb : b = true) : (a && b) = true := by rw [ha, hb]; rfl

end Go.Proofs.YtnpcakakjhiboaaDoor
