/- How a formula that came in is opened: what its cells are, and where its kids lie. No condition. -/
import Derived.Test.YtnpcakakjhiboaaDoorMem
import Derived.Test.YtnpcakakjhiboaaDoorOpen
namespace Go.Proofs.YtnpcakakjhiboaaDoor
open Go Go.RowKit Go.Lo Go.WideShapes Go.ChangeShapes Go.ChangeAt Go.Deep

/-- Is a number one of 64 bits? -/
def I64 (n : Int) : Prop := -9223372036854775808 ≤ n ∧ n ≤ 9223372036854775807

theorem I64.of {n : Int} (h : (Lit.int .i64 n).wf = true) : I64 n := by
  simp only [Lit.wf, Bool.and_eq_true, decide_eq_true_eq] at h
  rw [show IntKind.min .i64 = -9223372036854775808 by decide, show IntKind.max .i64 = 9223372036854775807 by decide] at h
  exact h

/-- A node's numbers. -/
def Nd.wf (x : Nd) : Prop := I64 x.op ∧ I64 x.cmp ∧ I64 x.val ∧ I64 x.lo ∧ I64 x.hi ∧ x.nm.size ≤ maxLen

theorem list_of {α : Type} [Inhabited α] {n : Nat} {p : Nat → α → Prop} (h : ∀ i, i < n → ∃ x, p i x) : ∃ L : List α, L.length = n ∧ ∀ i x, L[i]? = some x → p i x := by
  obtain ⟨f, hf⟩ := choose_lt h
  refine ⟨(List.range n).map f, by simp, fun i x hx => ?_⟩
  have hi : i < n := by
    rcases Nat.lt_or_ge i n with h | h
    · exact h
    · rw [List.getElem?_eq_none (by simpa using h)] at hx; cases hx
  rw [List.getElem?_map, List.getElem?_range hi] at hx
  obtain rfl : f i = x := by simpa using hx
  exact hf i hi

section
variable {H : Type} {enc : TypeId × Value → H} {w : World} {spare : Nat → Bool} {held : Bool}

theorem one_of {cs : List Value} {i : Nat} {v : Value} (h : (cs.drop i).take 1 = [v]) : cs[i]? = some v := by
  have : ((cs.drop i).take 1)[0]? = some v := by rw [h]; rfl
  simpa using this

theorem drop_take_at {cs : List Value} {a n i : Nat} (h : i < n) : ((cs.drop a).take n)[i]? = cs[a + i]? := by
  rw [List.getElem?_take_of_lt h, List.getElem?_drop]

set_option maxRecDepth 100000 in
theorem trod_F : ∀ (fuel : Nat) (cs : List Value) (x : DataW H × List MemPlace), DataW.trod enc Tryd.prog w 0 spare held fuel 28 cs = some x →
    ∃ t : Ft, cs = Ft.cells t ∧ In (fun k => k < w.heap.size) w t ∧ ∀ n, n ∈ t.pre → n.top.n.wf := by
  intro fuel
  induction fuel using Nat.strongRecOn with
  | ind fuel ih =>
    intro cs x h
    obtain ⟨xs, n, rfl, -, hl, hlen, hf⟩ := DataW.trod_struct Tryd.underlying28 h
    have hl7 : cs.length = 7 := hl.trans (by kernel_rfl)
    have hx : xs.length = 4 := hlen
    have get : ∀ i, i < 4 → xs[i]? = some (xs.getD i (.nil, [])) := fun i hi => by simp [List.getD, List.getElem?_eq_getElem (show i < xs.length by omega)]
    have h0 : DataW.trod enc Tryd.prog w 0 spare held n 3 ((cs.drop 0).take (Tryd.prog.cellsOf 3)) = some (xs.getD 0 (.nil, [])) := (hf 0 _ rfl).trans (get 0 (by omega))
    have h1 : DataW.trod enc Tryd.prog w 0 spare held n 23 ((cs.drop 1).take (Tryd.prog.cellsOf 23)) = some (xs.getD 1 (.nil, [])) := (hf 1 _ rfl).trans (get 1 (by omega))
    have h2 : DataW.trod enc Tryd.prog w 0 spare held n 25 ((cs.drop 4).take (Tryd.prog.cellsOf 25)) = some (xs.getD 2 (.nil, [])) := (hf 2 _ rfl).trans (get 2 (by omega))
    have h3 : DataW.trod enc Tryd.prog w 0 spare held n 26 ((cs.drop 6).take (Tryd.prog.cellsOf 26)) = some (xs.getD 3 (.nil, [])) := (hf 3 _ rfl).trans (get 3 (by omega))
    rw [show Tryd.prog.cellsOf 3 = 1 by kernel_rfl] at h0
    rw [show Tryd.prog.cellsOf 23 = 3 by kernel_rfl] at h1
    rw [show Tryd.prog.cellsOf 25 = 2 by kernel_rfl] at h2
    rw [show Tryd.prog.cellsOf 26 = 1 by kernel_rfl] at h3
    obtain ⟨op, e0, -, w0⟩ := DataW.trod_int Tryd.underlying3 h0
    obtain ⟨a0, a1, a2, m1, -, -, g0, g1, g2⟩ := trod_struct3 Tryd.underlying23 h1
    obtain ⟨b0, b1, m2, -, -, k0, k1⟩ := trod_struct2 Tryd.underlying25 h2
    simp only at g0 g1 g2 k0 k1
    rw [show Tryd.prog.cellsOf 9 = 1 by kernel_rfl] at g0
    rw [show Tryd.prog.cellsOf 3 = 1 by kernel_rfl] at g1
    rw [show Tryd.prog.cellsOf 2 = 1 by kernel_rfl] at g2 k0 k1
    obtain ⟨nm, e1, -, w1⟩ := DataW.trod_string Tryd.underlying9 g0
    obtain ⟨cmp, e2, -, w2⟩ := DataW.trod_int Tryd.underlying3 g1
    obtain ⟨val, e3, -, w3⟩ := DataW.trod_int Tryd.underlying2 g2
    obtain ⟨lo, e4, -, w4⟩ := DataW.trod_int Tryd.underlying2 k0
    obtain ⟨hi, e5, -, w5⟩ := DataW.trod_int Tryd.underlying2 k1
    have c0 : cs[0]? = some (.int .i64 op) := one_of e0
    have c1 : cs[1]? = some (.string nm) := by have := one_of e1; rw [drop_take_at (by omega)] at this; exact this
    have c2 : cs[2]? = some (.int .i64 cmp) := by have := one_of e2; rw [drop_take_at (by omega)] at this; exact this
    have c3 : cs[3]? = some (.int .i64 val) := by have := one_of e3; rw [drop_take_at (by omega)] at this; exact this
    have c4 : cs[4]? = some (.int .i64 lo) := by have := one_of e4; rw [drop_take_at (by omega)] at this; exact this
    have c5 : cs[5]? = some (.int .i64 hi) := by have := one_of e5; rw [drop_take_at (by omega)] at this; exact this
    have hwf : Nd.wf ⟨op, nm, cmp, val, lo, hi⟩ := ⟨I64.of w0, I64.of w2, I64.of w3, I64.of w4, I64.of w5, w1⟩
    clear e0 e1 e2 e3 e4 e5 g0 g1 g2 k0 k1 h0 h1 h2 w0 w1 w2 w3 w4 w5
    have fin : ∀ a L cap, cs[6]? = some (.slice a L cap) → cs = [.int .i64 op, .string nm, .int .i64 cmp, .int .i64 val, .int .i64 lo, .int .i64 hi, .slice a L cap] := fun a L cap c6 => by
      match cs, hl7 with
      | [x0, x1, x2, x3, x4, x5, x6], _ => simp at c0 c1 c2 c3 c4 c5 c6; simp [c0, c1, c2, c3, c4, c5, c6]
    rcases DataW.trod_slice Tryd.underlying26 h3 with ⟨e6, -⟩ | ⟨a, len, cap, elems, rest, n2, rfl, e6, -, -, hlc, hcap, hel, hels, -, -⟩
    · refine ⟨.nd ⟨⟨op, nm, cmp, val, lo, hi⟩, none, 0⟩ [], fin _ _ _ (one_of e6), In.leaf _ _ _, fun n hn => ?_⟩
      obtain rfl : n = .nd ⟨⟨op, nm, cmp, val, lo, hi⟩, none, 0⟩ [] := by simpa [Tr.pre, Tr.preL] using hn
      exact hwf
    · have hk : ∀ i, i < len → ∃ t : Ft, (w.cells? 0 (a.add (i * 7)) 7 = some (Ft.cells t)) ∧ In (fun k => k < w.heap.size) w t ∧ ∀ n, n ∈ t.pre → n.top.n.wf := fun i hi => by
        have := hels i hi
        rw [show Tryd.prog.cellsOf 28 = 7 by kernel_rfl, List.getElem?_eq_getElem (by omega)] at this
        obtain ⟨cs', h1, h2⟩ := Option.bind_eq_some_iff.1 this
        obtain ⟨t, rfl, h3, h4⟩ := ih n2 (by omega) cs' _ h2
        exact ⟨t, h1, h3, h4⟩
      have : Inhabited Ft := ⟨.nd ⟨⟨op, nm, cmp, val, lo, hi⟩, none, 0⟩ []⟩
      obtain ⟨L, hL, hat⟩ := list_of hk
      refine ⟨.nd ⟨⟨op, nm, cmp, val, lo, hi⟩, some a, cap⟩ L, by rw [fin _ _ _ (one_of e6)]; simp [Ft.cells, Tr.top, Tr.kids, hL], .nd _ _ ⟨by omega, by simp only; omega⟩ (fun hne => ?_) (fun k hk => ?_), fun n hn => ?_⟩
      · have hpos : 0 < len := by rw [← hL]; exact List.length_pos_iff.2 hne
        have hcell : ∀ i t, L[i]? = some t → ∀ j u, (Ft.cells t)[j]? = some u → w.cell? ((a.add (i * 7)).add j) = some u := fun i t ht j u hu => by
          obtain ⟨-, -, h3⟩ := World.cells?_some (hat i t ht).1
          have hj : j < 7 := by
            rcases Nat.lt_or_ge j 7 with h | h
            · exact h
            · rw [List.getElem?_eq_none (by rw [cells_length]; exact h)] at hu; cases hu
          rw [h3 j hj, hu]
        have h00 := hcell 0 L[0] (by simp) 0 _ rfl
        rw [Nat.zero_mul, show (a.add 0).add 0 = a by simp [Addr.add]] at h00
        have hspot : a.spot = none := World.cell?_spot h00
        have hlt : a.block < w.heap.size := block_lt_of_cell h00
        obtain ⟨b, off, spot⟩ := a
        simp only at hspot
        subst hspot
        refine ⟨b, off, rfl, hlt, fun i t ht j u hu => ?_⟩
        have := hcell i t ht j u hu
        rw [add_plain, add_plain] at this
        exact this
      · obtain ⟨i, hi, rfl⟩ := List.mem_iff_getElem.1 hk
        exact (hat i _ (List.getElem?_eq_getElem hi)).2.1
      · simp only [Tr.pre, Tr.preL_eq, List.mem_cons, List.mem_flatMap] at hn
        rcases hn with rfl | ⟨k, hk, hn⟩
        · exact hwf
        · obtain ⟨i, hi, rfl⟩ := List.mem_iff_getElem.1 hk
          exact (hat i _ (List.getElem?_eq_getElem hi)).2.2 n hn

set_option maxRecDepth 100000 in
theorem open_F {v : Value} {d : DataW H} {ps : List MemPlace} (hv : Value.okWide Tryd.prog w .any 0 28 v) (h : DataW.Trod enc Tryd.prog w 0 spare held 28 v d ps) :
    ∃ t : Ft, v = Ft.val t ∧ In (fun k => k < w.heap.size) w t ∧ ∀ n, n ∈ t.pre → n.top.n.wf := by
  obtain ⟨fuel, hf⟩ := h
  obtain ⟨t, hc, h1, h2⟩ := trod_F fuel _ _ hf
  unfold Value.okWide at hv
  rw [Tryd.underlying28] at hv
  obtain ⟨cs, rfl, -, -⟩ := hv
  refine ⟨t, ?_, h1, h2⟩
  have : cs = (Ft.cells t).toArray := by
    have e : cs.toList = Ft.cells t := by simpa [Value.cells] using hc
    rw [← e]
  rw [this]
  rfl

set_option maxRecDepth 100000 in
/-- A span. -/
theorem open_span {v : Value} {d : DataW H} {ps : List MemPlace} (hv : Value.okWide Tryd.prog w .any 0 25 v) (h : DataW.Trod enc Tryd.prog w 0 spare held 25 v d ps) :
    ∃ lo hi : Int, v = .agg #[.int .i64 lo, .int .i64 hi] ∧ I64 lo ∧ I64 hi := by
  obtain ⟨fuel, hf⟩ := h
  obtain ⟨b0, b1, m2, -, hl, k0, k1⟩ := trod_struct2 Tryd.underlying25 hf
  simp only at k0 k1
  rw [show Tryd.prog.cellsOf 2 = 1 by kernel_rfl] at k0 k1
  obtain ⟨lo, e4, -, w4⟩ := DataW.trod_int Tryd.underlying2 k0
  obtain ⟨hi, e5, -, w5⟩ := DataW.trod_int Tryd.underlying2 k1
  unfold Value.okWide at hv
  rw [Tryd.underlying25] at hv
  obtain ⟨cs, rfl, -, -⟩ := hv
  refine ⟨lo, hi, ?_, I64.of w4, I64.of w5⟩
  have c4 := one_of e4
  have c5 := one_of e5
  rw [show Tryd.prog.cellsOf 25 = 2 by kernel_rfl] at hl
  simp [Value.cells] at c4 c5 hl
  obtain ⟨l⟩ := cs
  match l, hl with
  | [x, y], _ => simp at c4 c5; simp [c4, c5]
end
end Go.Proofs.YtnpcakakjhiboaaDoor
