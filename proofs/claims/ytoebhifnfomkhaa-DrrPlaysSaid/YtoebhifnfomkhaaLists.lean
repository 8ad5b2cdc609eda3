/- How a list of lists of costs is opened. No condition. -/
import Derived.Test.YtoebhifnfomkhaaOpen
import Derived.Test.YtoebhifnfomkhaaServes
namespace Go.Proofs.Ytoebhifnfomkhaa
open Go.RowKit Go.Lo Go.ChangeShapes Go.WideShapes Go.ChangeAt Go.Deep

structure Row where
  a : Option Addr
  cap : Nat
  n : Nat
  z : Nat → Int
instance : Inhabited Row := ⟨⟨none, 0, 0, fun _ => 0⟩⟩

theorem open_lists {H : Type} {enc : TypeId × Value → H} {w : World} {spare : Nat → Bool} {held : Bool} {v : Value} {d : DataW H} {ps : List MemPlace} (hv : Value.okWide Try.prog w .any 0 23 v)
    (h : DataW.Trod enc Try.prog w 0 spare held 23 v d ps) :
    ∃ (a : Option Addr) (len cap : Nat) (L : Nat → Nat) (Z : Nat → Nat → Int), v = .slice a len cap ∧ len ≤ maxLen ∧ ListsIn w a len L Z := by
  have c22 : Try.prog.cellsOf 22 = 1 := by kernel_rfl
  obtain ⟨a, len, cap, rfl, hl, hx⟩ := open_elems Try.underlying23 hv (by rw [c22]; omega) h
  by_cases h0 : 0 < len
  · obtain ⟨b, off, rfl, hb, hx⟩ := hx h0
    obtain ⟨X, hX⟩ := choose_lt (α := Row) (p := fun i x => w.cell? ⟨b, off + i, none⟩ = some (.slice x.a x.n x.cap) ∧ x.n ≤ maxLen ∧ IntsIn w x.a x.n x.z) (fun i hi => by
      obtain ⟨cs, n, y, hlen, hcell, hd⟩ := hx i hi
      obtain ⟨a', len', cap', z, rfl, h1, _, h2⟩ := open_ints_cells Try.underlying22 Try.underlying3 (by kernel_rfl) hd
      have := hcell 0 (by rw [c22]; omega)
      rw [c22] at this
      exact ⟨⟨a', cap', len', z⟩, by simpa using this, h1, h2⟩)
    exact ⟨_, len, cap, fun i => (X i).n, fun i => (X i).z, rfl, hl, fun _ => ⟨b, off, rfl, hb, fun i hi => ⟨(X i).a, (X i).cap, hX i hi⟩⟩⟩
  · exact ⟨a, len, cap, fun _ => 0, fun _ _ => 0, rfl, hl, fun h => absurd h h0⟩
end Go.Proofs.Ytoebhifnfomkhaa
