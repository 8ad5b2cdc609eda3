/- How arguments are opened: each reading of a slice tells its cells, element by element. No condition. -/
import Derived.ProofKit
import Derived.OpenShut
import Derived.ShutString
import Derived.ChangeOld
import Derived.Deep.Slices
import Derived.Deep.Strs
import Derived.Test.YtnpcakakjhiboaaDoorLo
namespace Go.Lo
open Go.ChangeShapes Go.WideShapes Go.ChangeAt Go.RowKit Go.Deep

section
variable {H : Type} {enc : TypeId × Value → H} {P : Program} {w : World} {spare : Nat → Bool} {held : Bool}

/-- A slice of whatever elements, element by element. -/
theorem open_elems {t e : TypeId} {v : Value} {d : DataW H} {ps : List MemPlace} (ht : P.underlying t = some (.slice e)) (hv : Value.okWide P w .any 0 t v) (hc : 0 < P.cellsOf e)
    (h : DataW.Trod enc P w 0 spare held t v d ps) :
    ∃ a len cap, v = .slice a len cap ∧ len ≤ maxLen ∧ (0 < len → ∃ b off, a = some ⟨b, off, none⟩ ∧ b < w.heap.size ∧
      ∀ i, i < len → ∃ cs n y, cs.length = P.cellsOf e ∧ (∀ j, j < P.cellsOf e → w.cell? ⟨b, off + i * P.cellsOf e + j, none⟩ = cs[j]?) ∧ DataW.trod enc P w 0 spare held n e cs = some y) := by
  obtain ⟨a, len, cap, rfl⟩ := okWide_slice ht hv
  obtain ⟨fuel, hf⟩ := h
  refine ⟨a, len, cap, rfl, ?_⟩
  rcases open_slice ht hf with ⟨hcs, _⟩ | ⟨x, l, c, m, n, D, Pl, hcs, _, hl, hm, hmm, _, hx⟩
  · simp [Value.cells] at hcs
    obtain ⟨rfl, rfl, rfl⟩ := hcs
    exact ⟨by simp, by simp⟩
  · simp [Value.cells] at hcs
    obtain ⟨rfl, rfl, rfl⟩ := hcs
    refine ⟨by omega, fun h0 => ?_⟩
    have hlm : len ≤ m := by rw [hmm]; split <;> omega
    obtain ⟨cs0, h00, _⟩ := hx 0 (by omega)
    obtain ⟨_, hlen0, hcell0⟩ := World.cells?_some h00
    have c0 := hcell0 0 hc
    rw [Nat.zero_mul, show (Addr.add x 0).add 0 = x by simp [Addr.add], List.getElem?_eq_getElem (by omega)] at c0
    have hspot : x.spot = none := World.cell?_spot c0
    have hlt : x.block < w.heap.size := block_lt_of_cell c0
    obtain ⟨b, off, spot⟩ := x
    simp only at hspot
    subst hspot
    refine ⟨b, off, rfl, hlt, fun i hi => ?_⟩
    obtain ⟨cs, h1, h2⟩ := hx i (by omega)
    obtain ⟨_, hlen, hcell⟩ := World.cells?_some h1
    refine ⟨cs, n, _, hlen, fun j hj => ?_, h2⟩
    have := hcell j hj
    rw [add_plain, add_plain] at this
    exact this

/-- The same, of a slice that is itself an element: off its own reading. -/
theorem open_elems_at {t e : TypeId} {fuel : Nat} {cs : List Value} {x : DataW H × List MemPlace} (ht : P.underlying t = some (.slice e)) (hc : 0 < P.cellsOf e)
    (hf : DataW.trod enc P w 0 spare held fuel t cs = some x) :
    ∃ a len cap, cs = [.slice a len cap] ∧ len ≤ maxLen ∧ (0 < len → ∃ b off, a = some ⟨b, off, none⟩ ∧ b < w.heap.size ∧
      ∀ i, i < len → ∃ cs n y, cs.length = P.cellsOf e ∧ (∀ j, j < P.cellsOf e → w.cell? ⟨b, off + i * P.cellsOf e + j, none⟩ = cs[j]?) ∧ DataW.trod enc P w 0 spare held n e cs = some y) := by
  rcases open_slice ht hf with ⟨rfl, _⟩ | ⟨x, l, c, m, n, D, Pl, rfl, _, hl, hm, hmm, _, hx⟩
  · exact ⟨_, _, _, rfl, by simp, by simp⟩
  · refine ⟨_, _, _, rfl, by omega, fun h0 => ?_⟩
    have hlm : l ≤ m := by rw [hmm]; split <;> omega
    obtain ⟨cs0, h00, _⟩ := hx 0 (by omega)
    obtain ⟨_, hlen0, hcell0⟩ := World.cells?_some h00
    have c0 := hcell0 0 hc
    rw [Nat.zero_mul, show (Addr.add x 0).add 0 = x by simp [Addr.add], List.getElem?_eq_getElem (by omega)] at c0
    have hspot : x.spot = none := World.cell?_spot c0
    have hlt : x.block < w.heap.size := block_lt_of_cell c0
    obtain ⟨b, off, spot⟩ := x
    simp only at hspot
    subst hspot
    refine ⟨b, off, rfl, hlt, fun i hi => ?_⟩
    obtain ⟨cs, h1, h2⟩ := hx i (by omega)
    obtain ⟨_, hlen, hcell⟩ := World.cells?_some h1
    refine ⟨cs, n, _, hlen, fun j hj => ?_, h2⟩
    have := hcell j hj
    rw [add_plain, add_plain] at this
    exact this

/-- A slice of integers, off its own reading. -/
theorem open_ints_cells {t e : TypeId} {k : IntKind} {fuel : Nat} {cs : List Value} {x : DataW H × List MemPlace} (ht : P.underlying t = some (.slice e)) (he : P.underlying e = some (.int k)) (hc : P.cellsOf e = 1)
    (h : DataW.trod enc P w 0 spare held fuel t cs = some x) :
    ∃ (a : Option Addr) (len cap : Nat) (z : Nat → Int), cs = [.slice a len cap] ∧ len ≤ maxLen ∧ (∀ i, i < len → (Lit.int k (z i)).wf = true) ∧
      (0 < len → ∃ b off, a = some ⟨b, off, none⟩ ∧ b < w.heap.size ∧ ∀ i, i < len → w.cell? ⟨b, off + i, none⟩ = some (.int k (z i))) := by
  obtain ⟨a, len, cap, rfl, hl, hx⟩ := open_elems_at ht (by omega) h
  by_cases h0 : 0 < len
  · obtain ⟨b, off, rfl, hb, hx⟩ := hx h0
    obtain ⟨z, hz⟩ := choose_lt (α := Int) (p := fun i n => w.cell? ⟨b, off + i, none⟩ = some (.int k n) ∧ (Lit.int k n).wf = true) (fun i hi => by
      obtain ⟨cs, n, y, hlen, hcell, hd⟩ := hx i hi
      obtain ⟨q, rfl, _, hw⟩ := DataW.trod_int he hd
      have := hcell 0 (by omega)
      rw [hc] at this
      exact ⟨q, by simpa using this, hw⟩)
    exact ⟨_, len, cap, z, rfl, hl, fun i hi => (hz i hi).2, fun _ => ⟨b, off, rfl, hb, fun i hi => (hz i hi).1⟩⟩
  · exact ⟨a, len, cap, fun _ => 0, rfl, hl, fun i hi => by omega, fun h => absurd h h0⟩

/-- A slice of integers. -/
theorem open_ints_at {t e : TypeId} {k : IntKind} {v : Value} {d : DataW H} {ps : List MemPlace} (ht : P.underlying t = some (.slice e)) (he : P.underlying e = some (.int k)) (hc : P.cellsOf e = 1) (hv : Value.okWide P w .any 0 t v)
    (h : DataW.Trod enc P w 0 spare held t v d ps) :
    ∃ (a : Option Addr) (len cap : Nat) (z : Nat → Int), v = .slice a len cap ∧ len ≤ maxLen ∧ (∀ i, i < len → (Lit.int k (z i)).wf = true) ∧
      (0 < len → ∃ b off, a = some ⟨b, off, none⟩ ∧ b < w.heap.size ∧ ∀ i, i < len → w.cell? ⟨b, off + i, none⟩ = some (.int k (z i))) := by
  obtain ⟨a, len, cap, rfl, hl, hx⟩ := open_elems ht hv (by omega) h
  by_cases h0 : 0 < len
  · obtain ⟨b, off, rfl, hb, hx⟩ := hx h0
    obtain ⟨z, hz⟩ := choose_lt (α := Int) (p := fun i n => w.cell? ⟨b, off + i, none⟩ = some (.int k n) ∧ (Lit.int k n).wf = true) (fun i hi => by
      obtain ⟨cs, n, y, hlen, hcell, hd⟩ := hx i hi
      obtain ⟨q, rfl, _, hw⟩ := DataW.trod_int he hd
      have := hcell 0 (by omega)
      rw [hc] at this
      exact ⟨q, by simpa using this, hw⟩)
    exact ⟨_, len, cap, z, rfl, hl, fun i hi => (hz i hi).2, fun _ => ⟨b, off, rfl, hb, fun i hi => (hz i hi).1⟩⟩
  · exact ⟨a, len, cap, fun _ => 0, rfl, hl, fun i hi => by omega, fun h => absurd h h0⟩

theorem open_i {t : TypeId} {k : IntKind} {v : Value} {d : DataW H} {ps : List MemPlace} (ht : P.underlying t = some (.int k)) (hv : Value.okWide P w .any 0 t v) (h : DataW.Trod enc P w 0 spare held t v d ps) : ∃ n, v = .int k n ∧ (Lit.int k n).wf = true := by
  obtain ⟨n, rfl, _, _, hw⟩ := open_int ht hv h
  exact ⟨n, rfl, hw⟩

theorem open_b {t : TypeId} {v : Value} {d : DataW H} {ps : List MemPlace} (ht : P.underlying t = some .bool) (hv : Value.okWide P w .any 0 t v) (h : DataW.Trod enc P w 0 spare held t v d ps) : ∃ x, v = .bool x := by
  obtain ⟨n, rfl, _, _⟩ := open_bool ht hv h
  exact ⟨n, rfl⟩

end
end Go.Lo
