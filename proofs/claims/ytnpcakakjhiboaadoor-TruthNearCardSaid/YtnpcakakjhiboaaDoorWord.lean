/- Words as they lie in memory; how two texts stand. No condition. What loops over a word come to, in plain Lean; rows of Booleans in memory. No condition. How a word that came in is opened. No condition. Words as the model has them (50). No condition. Few points with few propositions (47, 37); words as the model has them (50). No condition. -/
import Derived.Test.YtnpcakakjhiboaaDoorTruP
import Derived.Test.YtnpcakakjhiboaaDoorRef5
import Derived.Test.YtnpcakakjhiboaaDoorOpenF
import Derived.Test.YtnpcakakjhiboaaDoorCalm
import Derived.Deep.AppendLies
import Derived.Deep.RegionLaw
import Derived.Laws.OwnMore
namespace Go.Proofs.YtnpcakakjhiboaaDoor
open Go Go.RowKit Go.Lo Go.WideShapes Go.ChangeShapes Go.ChangeAt Go.Deep

/-- A point as it lies in memory. -/
structure Hp where
  p : Pt
  a : Option Addr
  cap : Nat

/-- Propositions lie one behind the other. -/
def PrAt (w : World) (a : Option Addr) (l : List (ByteArray × Int)) : Prop :=
  l ≠ [] → ∃ b o, a = some ⟨b, o, none⟩ ∧ ∀ i q, l[i]? = some q → w.cell? ⟨b, o + i * 2, none⟩ = some (.string q.1) ∧ w.cell? ⟨b, o + i * 2 + 1, none⟩ = some (.int .i64 q.2)

/-- Points lie one behind the other, and each one's propositions. -/
structure WdAt (w : World) (a : Option Addr) (L : List Hp) : Prop where
  len : L.length ≤ maxLen
  cells : L ≠ [] → ∃ b o, a = some ⟨b, o, none⟩ ∧ ∀ i h, L[i]? = some h → w.cell? ⟨b, o + i * 2, none⟩ = some (.int .i64 h.p.tm) ∧ w.cell? ⟨b, o + i * 2 + 1, none⟩ = some (.slice h.a h.p.props.length h.cap)
  props : ∀ h, h ∈ L → h.p.props.length ≤ maxLen ∧ PrAt w h.a h.p.props
  wf : ∀ h, h ∈ L → I64 h.p.tm

def pts (L : List Hp) : List Pt := L.map Hp.p

theorem PrAt.quiet {w w' : World} {a : Option Addr} {l : List (ByteArray × Int)} (h : PrAt w a l) (hq : Quiet w w') : PrAt w' a l := fun hn => by
  obtain ⟨b, o, e, hc⟩ := h hn
  exact ⟨b, o, e, fun i q hi => ⟨hq.cell (hc i q hi).1 (by simp), hq.cell (hc i q hi).2 (by simp)⟩⟩

theorem WdAt.quiet {w w' : World} {a : Option Addr} {L : List Hp} (h : WdAt w a L) (hq : Quiet w w') : WdAt w' a L := by
  refine ⟨h.len, fun hn => ?_, fun x hx => ⟨(h.props x hx).1, (h.props x hx).2.quiet hq⟩, h.wf⟩
  obtain ⟨b, o, e, hc⟩ := h.cells hn
  exact ⟨b, o, e, fun i q hi => ⟨hq.cell (hc i q hi).1 (by simp), hq.cell (hc i q hi).2 (by simp)⟩⟩

/-- Cells that a walk reads, and nothing that was there is touched. -/
structure CellsAt (w : World) (F : List (Addr × Value)) (W : World) : Prop where
  cell : ∀ p, p ∈ F → W.cell? p.1 = some p.2
  quiet : Quiet w W

theorem CellsAt.keep {w : World} {F : List (Addr × Value)} {W W' : World} (h : CellsAt w F W) (hq : Quiet W W') : CellsAt w F W' := ⟨fun p hp => hq.cell (h.cell p hp) (by simp), h.quiet.trans hq⟩
theorem CellsAt.nil {w W : World} (h : Quiet w W) : CellsAt w [] W := ⟨by simp, h⟩
theorem CellsAt.cons {w W : World} {F : List (Addr × Value)} {a : Addr} {v : Value} (h : W.cell? a = some v) (hs : CellsAt w F W) : CellsAt w ((a, v) :: F) W :=
  ⟨fun p hp => by
    rcases List.mem_cons.1 hp with rfl | hp
    · exact h
    · exact hs.cell p hp, hs.quiet⟩
theorem CellsAt.at {w W : World} {F : List (Addr × Value)} (hs : CellsAt w F W) (b o : Nat) (v : Value) (h : ((⟨b, o, none⟩ : Addr), v) ∈ F) : W.cell? ⟨b, o, none⟩ = some v := hs.cell _ h

/-! How two texts stand. -/

theorem cmp_range : ∀ a b : List UInt8, Lib.compareBytes a b = -1 ∨ Lib.compareBytes a b = 0 ∨ Lib.compareBytes a b = 1
  | [], [] => by simp [Lib.compareBytes]
  | [], _ :: _ => by simp [Lib.compareBytes]
  | _ :: _, [] => by simp [Lib.compareBytes]
  | a :: x, b :: y => by
    have := cmp_range x y
    unfold Lib.compareBytes
    split
    · exact .inl rfl
    · split
      · exact .inr (.inr rfl)
      · exact this

theorem cmp_zero : ∀ a b : List UInt8, Lib.compareBytes a b = 0 ↔ a = b
  | [], [] => by simp [Lib.compareBytes]
  | [], _ :: _ => by simp [Lib.compareBytes]
  | _ :: _, [] => by simp [Lib.compareBytes]
  | a :: x, b :: y => by
    have := cmp_zero x y
    unfold Lib.compareBytes
    split
    · rename_i h
      simp only [List.cons.injEq]
      constructor
      · intro e; omega
      · rintro ⟨rfl, -⟩; exact absurd h (UInt8.lt_irrefl _)
    · rename_i h1
      split
      · rename_i h
        simp only [List.cons.injEq]
        constructor
        · intro e; omega
        · rintro ⟨rfl, -⟩; exact absurd h (UInt8.lt_irrefl _)
      · rename_i h2
        have e : a = b := UInt8.le_antisymm (UInt8.not_lt.1 h2) (UInt8.not_lt.1 h1)
        subst e
        simpa using this

theorem less_cmp : ∀ a b : List UInt8, Op.bytesLess a b = decide (Lib.compareBytes a b < 0)
  | [], [] => by simp [Lib.compareBytes, Op.bytesLess]
  | [], _ :: _ => by simp [Lib.compareBytes, Op.bytesLess]
  | _ :: _, [] => by simp [Lib.compareBytes, Op.bytesLess]
  | a :: x, b :: y => by
    have := less_cmp x y
    unfold Lib.compareBytes Op.bytesLess
    by_cases h1 : a < b
    · simp [h1]
    · by_cases h2 : b < a
      · have : a ≠ b := fun e => by subst e; exact h1 h2
        simp [h1, h2, this]
      · have e : a = b := UInt8.le_antisymm (UInt8.not_lt.1 h2) (UInt8.not_lt.1 h1)
        subst e
        simp [h1, this]

/-- Is one proposition ahead of another one, as the model says it. -/
theorem ahead_ord (p q : ByteArray × Int) : (Op.bytesLess p.1.toList q.1.toList || (p.1.toList == q.1.toList && decide (p.2 < q.2))) = decide (ordP p q < 0) := by
  obtain ⟨s, m⟩ := p
  obtain ⟨t, n⟩ := q
  simp only [ByteArray.toList_eq, less_cmp]
  unfold ordP
  simp only
  by_cases h : s = t
  · subst h
    have hz : Lib.compareBytes s.data.toList s.data.toList = 0 := (cmp_zero _ _).2 rfl
    by_cases h1 : m < n
    · simp [hz, h1]
    · by_cases h2 : n < m
      · simp [hz, h1, h2]
      · simp [hz, h1, h2]
  · have hz : Lib.compareBytes s.data.toList t.data.toList ≠ 0 := fun e => h (by
      have := (cmp_zero _ _).1 e
      obtain ⟨⟨a⟩⟩ := s
      obtain ⟨⟨b⟩⟩ := t
      simp at this
      subst this
      rfl)
    have hb : (s.data.toList == t.data.toList) = false := by simpa using fun e => hz ((cmp_zero _ _).2 e)
    simp [hz, hb]

set_option maxRecDepth 100000 in
set_option maxHeartbeats 1000000 in
theorem cmpS168_walk (a b : ByteArray) (w : World) : Calls Tryd.prog 168 #[.string a, .string b] w fun e w' => e = .returned (.int .i64 (Lib.compareBytes a.data.toList b.data.toList)) ∧ w' = w := by
  go_enter Tryd.func168, Tryd.ntmps168
  go_wp2
  rw [run_callFunc_extern Tryd.func177 (by kernel_rfl) (by kernel_rfl) (by kernel_rfl) (e := Extern.BytealgCompare.compare) (by kernel_rfl), Lib.run_compareString]
  simp only [Result.andThen]
  rw [Oper.upon_value]
  go_wp2
  go_ret
  exact ⟨rfl, rfl⟩

set_option maxRecDepth 100000 in
theorem cmpS_walk (a b : ByteArray) (w : World) : Calls Tryd.prog 151 #[.string a, .string b] w fun e w' => e = .returned (.int .i64 (Lib.compareBytes a.data.toList b.data.toList)) ∧ w' = w := by
  go_enter Tryd.func151, Tryd.ntmps151
  go_wp2_with fail
  refine (cmpS168_walk a b w).mono ?_
  rintro e w' ⟨rfl, rfl⟩
  go_wp2
  go_ret
  exact ⟨rfl, rfl⟩

set_option maxRecDepth 100000 in
theorem cmpI_walk (a b : Int) (w : World) : Calls Tryd.prog 152 #[.int .i64 a, .int .i64 b] w fun e w' => e = .returned (.int .i64 (if a < b then -1 else if b < a then 1 else 0)) ∧ w' = w := by
  go_enter Tryd.func152, Tryd.ntmps152
  by_cases h1 : a < b
  · rw [if_pos h1]
    go_wp2
    go_ret
    exact ⟨rfl, rfl⟩
  · by_cases h2 : b < a
    · rw [if_neg h1, if_pos h2]
      go_wp2
      go_ret
      exact ⟨rfl, rfl⟩
    · rw [if_neg h1, if_neg h2]
      go_wp2
      go_ret
      exact ⟨rfl, rfl⟩

set_option maxRecDepth 100000 in
theorem order_walk (p q : ByteArray × Int) (w : World) : Calls Tryd.prog 128 #[.agg #[.string p.1, .int .i64 p.2], .agg #[.string q.1, .int .i64 q.2]] w (Said (.int .i64 (ordP p q)) w) := by
  obtain ⟨s, m⟩ := p
  obtain ⟨t, n⟩ := q
  have HO : Hid (ordP (s, m) (t, n) = if Lib.compareBytes s.data.toList t.data.toList ≠ 0 then Lib.compareBytes s.data.toList t.data.toList else if m < n then -1 else if n < m then 1 else 0) := Go.Lib.hid rfl
  go_enter Tryd.func128, Tryd.ntmps128
  go_wp2_with fail
  refine (cmpS_walk s t _).mono ?_
  rintro e w' ⟨rfl, rfl⟩
  by_cases h : Lib.compareBytes s.data.toList t.data.toList = 0
  · have b1 : (Lib.compareBytes s.data.toList t.data.toList == 0) = true := by simpa using h
    have b2 : (Lib.compareBytes s.data.toList t.data.toList != 0) = false := by simpa using h
    rw [if_neg (by simpa using h)] at HO
    clear h
    have HC := Go.Lib.hid (fun w => cmpI_walk m n w)
    generalize (if m < n then (-1 : Int) else if n < m then 1 else 0) = r at HO HC
    go_wp2_with fail
    refine (HC.out _).mono ?_
    rintro e w' ⟨rfl, rfl⟩
    go_wp2
    go_ret
    exact ⟨by rw [HO.out]; rfl, ((Alters.refl _).alloc _).alloc _⟩
  · have b1 : (Lib.compareBytes s.data.toList t.data.toList == 0) = false := by simpa using h
    have b2 : (Lib.compareBytes s.data.toList t.data.toList != 0) = true := by simpa using h
    rw [if_pos h] at HO
    clear h
    go_wp2_with fail
    go_ret
    exact ⟨by rw [HO.out]; rfl, ((Alters.refl _).alloc _).alloc _⟩

set_option maxRecDepth 100000 in
set_option maxHeartbeats 1000000 in
theorem ahead_walk (p q : ByteArray × Int) (w : World) : Calls Tryd.prog 164 #[.agg #[.string p.1, .int .i64 p.2], .agg #[.string q.1, .int .i64 q.2]] w (Said (.bool (decide (ordP p q < 0))) w) := by
  rw [← ahead_ord]
  obtain ⟨s, m⟩ := p
  obtain ⟨t, n⟩ := q
  simp only
  go_enter Tryd.func164, Tryd.ntmps164
  cases h1 : Op.bytesLess s.toList t.toList
  · cases h2 : (s.toList == t.toList)
    · go_wp2
      go_ret
      exact ⟨rfl, ((Alters.refl _).alloc _).alloc _⟩
    · go_wp2
      go_ret
      exact ⟨rfl, ((Alters.refl _).alloc _).alloc _⟩
  · go_wp2
    go_ret
    exact ⟨rfl, ((Alters.refl _).alloc _).alloc _⟩

end Go.Proofs.YtnpcakakjhiboaaDoor

namespace Go.Proofs.YtnpcakakjhiboaaDoor
open Go.RowKit Go.Lo Go.WideShapes

/-- Booleans lie one behind the other. -/
def BlAt (w : World) (a : Option Addr) (l : List Bool) : Prop := l ≠ [] → ∃ b o, a = some ⟨b, o, none⟩ ∧ ∀ i x, l[i]? = some x → w.cell? ⟨b, o + i, none⟩ = some (.bool x)

theorem BlAt.quiet {w w' : World} {a : Option Addr} {l : List Bool} (h : BlAt w a l) (hq : Quiet w w') : BlAt w' a l := fun hn => by
  obtain ⟨b, o, e, hc⟩ := h hn
  exact ⟨b, o, e, fun i x hi => hq.cell (hc i x hi) (by simp)⟩

/-- What a row says at a place. -/
def rowT (l : List Bool) : Nat → Bool := fun j => l.getD j false

theorem rowT_at {l : List Bool} {j : Nat} {x : Bool} (h : l[j]? = some x) : rowT l j = x := by simp [rowT, List.getD, h]

section
variable {w : List Pt} {A B : Nat → Bool} {i j : Nat} {lo hi : Int}

theorem inR_eq (h : i ≤ j) : inR w lo hi i j = (decide (lo ≤ tmOf w j - tmOf w i) && decide (tmOf w j - tmOf w i ≤ hi)) := by simp [inR, h]

theorem far_off (hw : wordOk w = true) {k : Nat} (hk : k < w.length) (hjk : j ≤ k) (h : hi < tmOf w j - tmOf w i) : inR w lo hi i k = false := by
  rw [Bool.eq_false_iff]
  intro h2
  have := inR_hi h2
  rcases Nat.lt_or_ge j k with h3 | h3
  · have := wordOk_rise hw h3 hk; omega
  · obtain rfl : j = k := by omega
    omega

theorem ev_hit (hj : j < w.length) (h : inR w lo hi i j = true) (ha : A j = true) : evT w lo hi A i = true := evT_iff.2 ⟨j, hj, h, ha⟩

theorem ev_stop (hw : wordOk w = true) (h : ∀ k, i ≤ k → k < j → inR w lo hi i k = true → A k = false) (hj : w.length ≤ j ∨ hi < tmOf w j - tmOf w i) : evT w lo hi A i = false := by
  rw [Bool.eq_false_iff, Ne, evT_iff]
  rintro ⟨k, hk, h1, h2⟩
  have hik := inR_le h1
  rcases Nat.lt_or_ge k j with h3 | h3
  · rw [h k hik h3 h1] at h2; cases h2
  · rcases hj with hj | hj
    · omega
    · rw [far_off hw hk h3 hj] at h1; cases h1

theorem un_hit (hj : j < w.length) (h : inR w lo hi i j = true) (hb : B j = true) (ha : ∀ k, i ≤ k → k < j → A k = true) : unT w lo hi A B i = true := unT_iff.2 ⟨j, hj, h, hb, ha⟩

theorem un_stop (hw : wordOk w = true) (h : ∀ k, i ≤ k → k < j → inR w lo hi i k = true → B k = false) (hj : w.length ≤ j ∨ hi < tmOf w j - tmOf w i) : unT w lo hi A B i = false := by
  rw [Bool.eq_false_iff, Ne, unT_iff]
  rintro ⟨k, hk, h1, h2, -⟩
  have hik := inR_le h1
  rcases Nat.lt_or_ge k j with h3 | h3
  · rw [h k hik h3 h1] at h2; cases h2
  · rcases hj with hj | hj
    · omega
    · rw [far_off hw hk h3 hj] at h1; cases h1

theorem un_cut (hij : i ≤ j) (h : ∀ k, i ≤ k → k < j + 1 → inR w lo hi i k = true → B k = false) (ha : A j = false) : unT w lo hi A B i = false := by
  rw [Bool.eq_false_iff, Ne, unT_iff]
  rintro ⟨k, hk, h1, h2, h4⟩
  have hik := inR_le h1
  rcases Nat.lt_or_ge k (j + 1) with h3 | h3
  · rw [h k hik h3 h1] at h2; cases h2
  · rw [h4 j hij (by omega)] at ha; cases ha

theorem up_to {P : Nat → Bool} (h : ∀ k, i ≤ k → k < j → P k = true) (hj : P j = true) : ∀ k, i ≤ k → k < j + 1 → P k = true := fun k h1 h2 => by
  rcases Nat.lt_or_ge k j with h4 | h4
  · exact h k h1 h4
  · obtain rfl : k = j := by omega
    exact hj

theorem step_no {P : Nat → Bool} (h : ∀ k, i ≤ k → k < j → inR w lo hi i k = true → P k = false) (hj : inR w lo hi i j = true → P j = false) : ∀ k, i ≤ k → k < j + 1 → inR w lo hi i k = true → P k = false := fun k h1 h2 h3 => by
  rcases Nat.lt_or_ge k j with h4 | h4
  · exact h k h1 h4 h3
  · obtain rfl : k = j := by omega
    exact hj h3
end

theorem pts_tm {L : List Hp} {k : Nat} {q : Hp} (h : L[k]? = some q) : tmOf (pts L) k = q.p.tm := by simp [tmOf, pts, h]

theorem pts_len (L : List Hp) : (pts L).length = L.length := by simp [pts]

set_option maxRecDepth 100000 in
theorem has_walk (lo hi d : Int) (w : World) : Calls Tryd.prog 150 #[.agg #[.int .i64 lo, .int .i64 hi], .int .i64 d] w (Said (.bool (decide (lo ≤ d) && decide (d ≤ hi))) w) := by
  go_enter Tryd.func150, Tryd.ntmps150
  cases h1 : decide (lo ≤ d)
  · go_wp2
    go_ret
    exact ⟨rfl, (Alters.refl _).alloc _⟩
  · cases h2 : decide (d ≤ hi)
    · go_wp2
      go_ret
      exact ⟨rfl, (Alters.refl _).alloc _⟩
    · go_wp2
      go_ret
      exact ⟨rfl, (Alters.refl _).alloc _⟩

end Go.Proofs.YtnpcakakjhiboaaDoor

namespace Go.Proofs.YtnpcakakjhiboaaDoor
open Go Go.RowKit Go.Lo Go.WideShapes Go.ChangeShapes Go.ChangeAt Go.Deep

section
variable {H : Type} {enc : TypeId × Value → H} {w : World} {spare : Nat → Bool} {held : Bool}

theorem two_cells {cs : List Value} {x y : Value} (hl : cs.length = 2) (h0 : cs[0]? = some x) (h1 : cs[1]? = some y) : cs = [x, y] := by
  match cs, hl with
  | [a, b], _ => simp at h0 h1; simp [h0, h1]

set_option maxRecDepth 100000 in
/-- Propositions, off their own reading. -/
theorem trod_props {fuel : Nat} {cs : List Value} {x : DataW H × List MemPlace} (h : DataW.trod enc Tryd.prog w 0 spare held fuel 62 cs = some x) :
    ∃ (a : Option Addr) (cap : Nat) (l : List (ByteArray × Int)), cs = [.slice a l.length cap] ∧ l.length ≤ maxLen ∧ PrAt w a l ∧ ∀ q, q ∈ l → q.1.size ≤ maxLen ∧ I64 q.2 := by
  obtain ⟨a, len, cap, rfl, hl, hx⟩ := open_elems_at Tryd.underlying62 (by rw [show Tryd.prog.cellsOf 95 = 2 by kernel_rfl]; decide) h
  by_cases h0 : 0 < len
  · obtain ⟨b, off, rfl, hb, hx⟩ := hx h0
    rw [show Tryd.prog.cellsOf 95 = 2 by kernel_rfl] at hx
    have : Inhabited (ByteArray × Int) := ⟨(⟨#[]⟩, 0)⟩
    obtain ⟨L, hL, hat⟩ := list_of (α := ByteArray × Int) (n := len) (p := fun i q => w.cell? ⟨b, off + i * 2, none⟩ = some (.string q.1) ∧ w.cell? ⟨b, off + i * 2 + 1, none⟩ = some (.int .i64 q.2) ∧ q.1.size ≤ maxLen ∧ I64 q.2) (fun i hi => by
      obtain ⟨cs, n, y, hlen, hcell, hd⟩ := hx i hi
      obtain ⟨y0, y1, m, -, -, k0, k1⟩ := trod_struct2 Tryd.underlying95 hd
      simp only at k0 k1
      rw [show Tryd.prog.cellsOf 9 = 1 by kernel_rfl] at k0
      rw [show Tryd.prog.cellsOf 2 = 1 by kernel_rfl] at k1
      obtain ⟨nm, e0, -, w0⟩ := DataW.trod_string Tryd.underlying9 k0
      obtain ⟨v, e1, -, w1⟩ := DataW.trod_int Tryd.underlying2 k1
      refine ⟨(nm, v), ?_, ?_, w0, I64.of w1⟩
      · have := hcell 0 (by omega)
        rw [Nat.add_zero, one_of e0] at this
        exact this
      · rw [hcell 1 (by omega)]
        exact one_of e1)
    refine ⟨_, cap, L, by rw [hL], by omega, fun _ => ⟨b, off, rfl, fun i q hq => ⟨(hat i q hq).1, (hat i q hq).2.1⟩⟩, fun q hq => ?_⟩
    obtain ⟨i, hi, rfl⟩ := List.mem_iff_getElem.1 hq
    exact (hat i _ (List.getElem?_eq_getElem hi)).2.2
  · obtain rfl : len = 0 := by omega
    exact ⟨a, cap, [], rfl, by simp, fun h => absurd rfl h, by simp⟩

set_option maxRecDepth 100000 in
theorem open_word {v : Value} {d : DataW H} {ps : List MemPlace} (hv : Value.okWide Tryd.prog w .any 0 45 v) (h : DataW.Trod enc Tryd.prog w 0 spare held 45 v d ps) :
    ∃ (a : Option Addr) (cap : Nat) (L : List Hp), v = .slice a L.length cap ∧ WdAt w a L := by
  obtain ⟨a, len, cap, rfl, hl, hx⟩ := open_elems Tryd.underlying45 hv (by rw [show Tryd.prog.cellsOf 64 = 2 by kernel_rfl]; decide) h
  by_cases h0 : 0 < len
  · obtain ⟨b, off, rfl, hb, hx⟩ := hx h0
    rw [show Tryd.prog.cellsOf 64 = 2 by kernel_rfl] at hx
    have : Inhabited Hp := ⟨⟨⟨0, []⟩, none, 0⟩⟩
    obtain ⟨L, hL, hat⟩ := list_of (α := Hp) (n := len) (p := fun i q => w.cell? ⟨b, off + i * 2, none⟩ = some (.int .i64 q.p.tm) ∧ w.cell? ⟨b, off + i * 2 + 1, none⟩ = some (.slice q.a q.p.props.length q.cap) ∧ (q.p.props.length ≤ maxLen ∧ PrAt w q.a q.p.props) ∧ I64 q.p.tm) (fun i hi => by
      obtain ⟨cs, n, y, hlen, hcell, hd⟩ := hx i hi
      obtain ⟨y0, y1, m, -, -, k0, k1⟩ := trod_struct2 Tryd.underlying64 hd
      simp only at k0 k1
      rw [show Tryd.prog.cellsOf 2 = 1 by kernel_rfl] at k0
      rw [show Tryd.prog.cellsOf 62 = 1 by kernel_rfl] at k1
      obtain ⟨t, e0, -, w0⟩ := DataW.trod_int Tryd.underlying2 k0
      obtain ⟨a2, c2, l2, e1, w1, w2, -⟩ := trod_props k1
      refine ⟨⟨⟨t, l2⟩, a2, c2⟩, ?_, ?_, ⟨w1, w2⟩, I64.of w0⟩
      · have := hcell 0 (by omega)
        rw [Nat.add_zero, one_of e0] at this
        exact this
      · rw [hcell 1 (by omega)]
        exact one_of e1)
    refine ⟨_, cap, L, by rw [hL], ⟨by omega, fun _ => ⟨b, off, rfl, fun i q hq => ⟨(hat i q hq).1, (hat i q hq).2.1⟩⟩, fun q hq => ?_, fun q hq => ?_⟩⟩
    · obtain ⟨i, hi, rfl⟩ := List.mem_iff_getElem.1 hq
      exact (hat i _ (List.getElem?_eq_getElem hi)).2.2.1
    · obtain ⟨i, hi, rfl⟩ := List.mem_iff_getElem.1 hq
      exact (hat i _ (List.getElem?_eq_getElem hi)).2.2.2
  · obtain rfl : len = 0 := by omega
    exact ⟨a, cap, [], rfl, ⟨by simp, fun h => absurd rfl h, by simp, by simp⟩⟩
end
end Go.Proofs.YtnpcakakjhiboaaDoor

namespace Go.Proofs.YtnpcakakjhiboaaDoor
open Go Go.RowKit Go.Lo Go.WideShapes

def Hp.cells (h : Hp) : List Value := [.int .i64 h.p.tm, .slice h.a h.p.props.length h.cap]

theorem hp_flat_length (L : List Hp) : (L.flatMap Hp.cells).length = L.length * 2 := by
  induction L with
  | nil => rfl
  | cons t T ih => simp only [List.flatMap_cons, List.length_append, ih, List.length_cons]; simp [Hp.cells]; omega

theorem hp_flat_at (L : List Hp) : ∀ (i : Nat) (h : Hp), L[i]? = some h → (L.flatMap Hp.cells)[i * 2]? = some (.int .i64 h.p.tm) ∧ (L.flatMap Hp.cells)[i * 2 + 1]? = some (.slice h.a h.p.props.length h.cap) := by
  induction L with
  | nil => intro i h hi; simp at hi
  | cons x T ih =>
    intro i h hi
    rw [List.flatMap_cons]
    cases i with
    | zero =>
      simp at hi
      subst hi
      simp [Hp.cells]
    | succ i =>
      rw [List.getElem?_append_right (by simp [Hp.cells]; omega), List.getElem?_append_right (by simp [Hp.cells]; omega)]
      simp only [Hp.cells, List.length_cons, List.length_nil]
      rw [show (i + 1) * 2 - (0 + 1 + 1) = i * 2 by omega, show (i + 1) * 2 + 1 - (0 + 1 + 1) = i * 2 + 1 by omega]
      exact ih i h (by simpa using hi)

/-- Points put one behind the other. -/
structure PtsUp (w : World) (v : Value) (L : List Hp) (W : World) : Prop where
  row : W.ownsRow w.heap.size 110 2 v L.length (L.flatMap Hp.cells)
  quiet : Quiet w W

theorem PtsUp.step {w W w3 w4 : World} {v v4 : Value} {L : List Hp} {h : Hp} {o : Obj} (hP : PtsUp w v L W) (e : w3 = W.drew.alloc o) (hown : w4.ownsRow w.heap.size 110 2 v4 (L.length + 1) (L.flatMap Hp.cells ++ Hp.cells h)) (hgrow : w3.grownBy w4 v.ownBlock) : PtsUp w v4 (L ++ [h]) w4 := by
  subst e
  have hA : Alters (fun k => v.ownBlock = some k) W w4 := (((Alters.refl W).drew).alloc o).grown hgrow (fun k e _ => e)
  exact ⟨by simpa using hown, hP.quiet.then hA (fun i hi hp => by have := (hP.row.lt i hp).1; omega)⟩

theorem PtsUp.word {w W : World} {v : Value} {L : List Hp} {a : Option Addr} (hP : PtsUp w v L W) (hw : WdAt w a L) : ∃ A c, v = .slice A L.length c ∧ WdAt W A L := by
  have hw2 := hw.quiet hP.quiet
  rcases hP.row.2 with ⟨rfl, h0⟩ | ⟨g, c, cur, hv, _⟩
  · exact ⟨none, 0, by rw [h0], ⟨hw.len, fun hn => absurd (List.eq_nil_of_length_eq_zero h0) hn, hw2.props, hw.wf⟩⟩
  · refine ⟨_, c, hv, ⟨hw.len, fun _ => ⟨g, 0, rfl, fun i q hq => ?_⟩, hw2.props, hw.wf⟩⟩
    obtain ⟨h0, h1⟩ := hp_flat_at L i q hq
    have c0 := hP.row.cells (g := g) (by rw [hv]; rfl) (i * 2) _ h0
    have c1 := hP.row.cells (g := g) (by rw [hv]; rfl) (i * 2 + 1) _ h1
    rw [add_plain, Nat.zero_add] at c0 c1
    rw [Nat.zero_add]
    exact ⟨c0, c1⟩

theorem info110 : (Tryd.prog.info? 110).map (fun i => (i.zero, i.size, i.bytes)) = some (some (.agg #[.int .i64 0, .slice none 0 0]), 2, 32) := by kernel_rfl

/-- A call gives a word. -/
def GivesWord (L : List Hp) (w : World) (e : Ending) (w' : World) : Prop := ∃ a c, e = .returned (.slice a L.length c) ∧ WdAt w' a L ∧ Quiet w w'

set_option maxRecDepth 100000 in
set_option maxHeartbeats 2000000 in
theorem points50_walk (a : Option Addr) (cap : Nat) (L : List Hp) (w : World) (hw : WdAt w a L) (hL : L.length ≤ 10000) : Calls Tryd.prog 50 #[.slice a L.length cap] w (GivesWord L w) := by
  have HW := Go.Lib.hid hw
  clear hw
  go_enter Tryd.func50, Tryd.ntmps50
  have HP0 : Hid (PtsUp w (.slice none 0 0) [] w) := ⟨World.ownsRow_nil _ _ _ _, Alters.refl _⟩
  go_wp2_with fail
  go_loopw [3, 4] (fun mv i wr => ∃ k : Nat, k ≤ L.length ∧ i = .int .i64 k ∧ PtsUp w mv (L.take k) wr) (fun _ i _ => L.length - (intOf i).toNat)
  case atStart => exact ⟨0, Nat.zero_le _, rfl, HP0.out⟩
  case round =>
    clear HP0
    obtain ⟨k, hk, rfl, hP⟩ := hrel
    generalize u3 = mv at *
    by_cases hlt : k < L.length
    · have hne : L ≠ [] := fun h => by subst h; simp at hlt
      obtain ⟨b, o, rfl, hc⟩ := HW.out.cells hne
      obtain ⟨q, hq⟩ : ∃ q, L[k]? = some q := ⟨_, List.getElem?_eq_getElem hlt⟩
      obtain ⟨d0, d1⟩ := hc k q hq
      replace d0 := hP.quiet.cell d0 (by simp)
      replace d1 := hP.quiet.cell d1 (by simp)
      have HTK : Hid (L.take (k + 1) = L.take k ++ [q]) := Go.Lib.hid (by rw [List.take_add_one, hq]; rfl)
      have HTL : Hid ((L.take k).length = k) := Go.Lib.hid (by rw [List.length_take]; omega)
      have HP := Go.Lib.hid hP
      obtain ⟨i0, hi0, hz0, hz1, hz2⟩ := info_parts info110
      have hbg : w.heap.size ≤ wr.heap.size := hP.quiet.size
      have HBG : Hid (w.heap.size ≤ (wr.drew.alloc (.cells #[.int .i64 q.p.tm, .slice q.a q.p.props.length q.cap] 110)).heap.size) := Go.Lib.hid (by simp; omega)
      clear hP hc hq
      generalize hT : L.take k = T at *
      have HRW : Hid ((wr.drew.alloc (.cells #[.int .i64 q.p.tm, .slice q.a q.p.props.length q.cap] 110)).ownsRow w.heap.size 110 2 mv T.length (T.flatMap Hp.cells)) := Go.Lib.hid (row_keep HP.out.row (((Alters.refl (p := fun _ => False) wr).drew).alloc _) (by simp))
      have HNW : Hid (∀ j u, (Hp.cells q)[j]? = some u → (wr.drew.alloc (.cells #[.int .i64 q.p.tm, .slice q.a q.p.props.length q.cap] 110)).cell? ((⟨wr.heap.size, 0, none⟩ : Addr).add j) = some u) := World.news_of_block (Blk.new wr.drew _ 110)
      have HLT := Go.Lib.hid hlt
      have htl := HTL.out
      go_upto_region 5 with (fail)
      go_region_law ((refine step_append_lies (w := wr.drew.alloc (.cells #[.int .i64 q.p.tm, .slice q.a q.p.props.length q.cap] 110)) rfl (.tmp 11) (.tmp 23) 57 rfl w.heap.size 110 i0 _ 2 32 Tryd.underlying57 hi0 hz0 hz1 hz2 rfl (by decide) mv T.length (T.flatMap Hp.cells) (by simp [Act.eval]) HRW.out ⟨wr.heap.size, 0, none⟩ 1 1 (Hp.cells q) (by simp [Act.eval]) rfl HNW.out (by intro u hu; simp [Hp.cells] at hu; rcases hu with rfl | rfl <;> rfl) (by decide) (by unfold maxLen; omega) (by omega) HBG.out (wr.heap.size + 1) (by simp) ?_; intro g cp w4 hown hgrow hat hlt4; have HN := Go.Lib.hid (HP.out.step rfl hown hgrow); clear hown hgrow hat hlt4))
      all_goals
        clear d0 d1 HRW HNW HBG
        go_wp2_with fail
        go_roundw
        case rel => exact ⟨k + 1, by have := HLT.out; omega, by go_num, by rw [HTK.out]; have := HN.out; rw [HTL.out] at this; exact this⟩
        case measure => have := HLT.out; simp [intOf]; omega
    · obtain rfl : k = L.length := by omega
      rw [List.take_length] at hP
      obtain ⟨A, c, rfl, hwd⟩ := hP.word HW.out
      have HQ := Go.Lib.hid hP.quiet
      have HWD := Go.Lib.hid hwd
      clear hP hwd
      go_wp2_with fail
      go_ret
      exact ⟨A, c, rfl, HWD.out, HQ.out⟩
end Go.Proofs.YtnpcakakjhiboaaDoor

namespace Go.Proofs.YtnpcakakjhiboaaDoor
open Go Go.RowKit Go.Lo Go.WideShapes

def fewP (p : Pt) : Bool := decide (p.props.length ≤ 10) && p.props.all fun q => decide (q.1.size ≤ 40)
/-- Few points, with few propositions, of short names. -/
def fewW (L : List Hp) : Bool := decide (L.length ≤ 16) && L.all fun h => fewP h.p

theorem left_size13 {t : Ft} {n : Int} (h : ¬ leftF (Ft.pl t) n ≤ 0) : (t.size : Int) ≤ n := by
  have := ((leftF_range (Ft.pl t) n).2.2 (by omega)).1
  rw [show (Ft.pl t).size = t.size from Tr.map_size _ _] at this
  omega

theorem fewW_len {L : List Hp} (h : fewW L = true) : L.length ≤ 16 := by
  simp only [fewW, Bool.and_eq_true, decide_eq_true_eq] at h
  exact h.1

set_option maxRecDepth 100000 in
set_option maxHeartbeats 2000000 in
theorem few47_walk (a : Option Addr) (cap : Nat) (L : List Hp) (w : World) (hw : WdAt w a L) : Calls Tryd.prog 47 #[.slice a L.length cap] w (Said (.bool (fewW L)) w) := by
  have HW := Go.Lib.hid hw
  have hlen := hw.len
  unfold maxLen at hlen
  clear hw
  go_enter Tryd.func47, Tryd.ntmps47
  by_cases h16 : L.length ≤ 16
  rotate_left
  · have hf : fewW L = false := by simp [fewW, h16]
    have hg : decide ((16 : Int) < (L.length : Int)) = true := by rw [decide_eq_true_eq]; omega
    have HF := Go.Lib.hid hf
    clear hf
    go_wp2_with fail
    go_ret
    exact ⟨by rw [HF.out]; rfl, Alters.refl _⟩
  · have hg : decide ((16 : Int) < (L.length : Int)) = false := by rw [decide_eq_false_iff_not]; omega
    have H16 := Go.Lib.hid h16
    clear h16
    go_wp2_with fail
    go_loopw [3] (fun i wr => ∃ k : Nat, k ≤ L.length ∧ i = .int .i64 k ∧ (∀ j h, j < k → L[j]? = some h → fewP h.p = true) ∧ Quiet w wr) (fun i _ => L.length - (intOf i).toNat)
    case atStart => exact ⟨0, Nat.zero_le _, rfl, fun j h hj => by omega, Alters.refl _⟩
    case round =>
      obtain ⟨k, hk, rfl, hA, hQ⟩ := hrel
      by_cases hlt : k < L.length
      · have hne : L ≠ [] := fun h => by subst h; simp at hlt
        obtain ⟨b, o, rfl, hc⟩ := HW.out.cells hne
        obtain ⟨q, hq⟩ : ∃ q, L[k]? = some q := ⟨_, List.getElem?_eq_getElem hlt⟩
        obtain ⟨-, d1⟩ := hc k q hq
        obtain ⟨hl2, hp⟩ := HW.out.props q (List.mem_of_getElem? hq)
        unfold maxLen at hl2
        replace d1 := hQ.cell d1 (by simp)
        have HP := Go.Lib.hid (hp.quiet hQ)
        have HQ := Go.Lib.hid hQ
        have HA := Go.Lib.hid hA
        have HQK := Go.Lib.hid hq
        clear hA hQ hc hp hq
        by_cases h10 : q.p.props.length ≤ 10
        rotate_left
        · have hf : fewW L = false := by
            rw [Bool.eq_false_iff]
            intro h
            simp only [fewW, Bool.and_eq_true, List.all_eq_true] at h
            have := h.2 q (List.mem_of_getElem? HQK.out)
            simp only [fewP, Bool.and_eq_true, decide_eq_true_eq] at this
            exact h10 this.1
          have hg2 : decide ((10 : Int) < (q.p.props.length : Int)) = true := by rw [decide_eq_true_eq]; omega
          have HF := Go.Lib.hid hf
          clear hf
          clear h10
          go_wp2_with fail
          go_ret
          exact ⟨by rw [HF.out]; rfl, HQ.out⟩
        · have hg2 : decide ((10 : Int) < (q.p.props.length : Int)) = false := by rw [decide_eq_false_iff_not]; omega
          have H10 := Go.Lib.hid h10
          clear h10
          go_wp2_with fail
          go_loopw [4] (fun i wi => ∃ m : Nat, m ≤ q.p.props.length ∧ i = .int .i64 m ∧ (∀ j p, j < m → q.p.props[j]? = some p → p.1.size ≤ 40) ∧ Quiet wr wi) (fun i _ => q.p.props.length - (intOf i).toNat)
          case atStart => exact ⟨0, Nat.zero_le _, rfl, fun j h hj => by omega, Alters.refl _⟩
          case round =>
            obtain ⟨m, hm, rfl, hB, hQ2⟩ := hrel
            by_cases hlm : m < q.p.props.length
            · have hnp : q.p.props ≠ [] := fun h => by rw [h] at hlm; simp at hlm
              obtain ⟨b2, o2, ha2, hc2⟩ := HP.out hnp
              obtain ⟨p, hp⟩ : ∃ p, q.p.props[m]? = some p := ⟨_, List.getElem?_eq_getElem hlm⟩
              have e0 := hQ2.cell (hc2 m p hp).1 (by simp)
              have d2 := hQ2.cell d1 (by simp)
              rw [ha2] at d2
              have HQ2 := Go.Lib.hid hQ2
              have HB := Go.Lib.hid hB
              have HPM := Go.Lib.hid hp
              clear hB hQ2 hc2 hp d1 ha2
              by_cases h40 : p.1.size ≤ 40
              · have hg3 : decide ((40 : Int) < (p.1.size : Int)) = false := by rw [decide_eq_false_iff_not]; omega
                have H40 := Go.Lib.hid h40
                clear h40
                go_wp2_with fail
                go_roundw
                case rel => exact ⟨m + 1, by omega, by go_num, fun j y hj hy => by
                  rcases Nat.lt_or_ge j m with h | h
                  · exact HB.out j y h hy
                  · obtain rfl : j = m := by omega
                    rw [HPM.out] at hy
                    obtain rfl := Option.some.inj hy
                    exact H40.out, HQ2.out⟩
                case measure => simp [intOf]; omega
              · have hf : fewW L = false := by
                  rw [Bool.eq_false_iff]
                  intro h
                  simp only [fewW, Bool.and_eq_true, List.all_eq_true] at h
                  have := h.2 q (List.mem_of_getElem? HQK.out)
                  simp only [fewP, Bool.and_eq_true, List.all_eq_true, decide_eq_true_eq] at this
                  exact h40 (this.2 p (List.mem_of_getElem? HPM.out))
                have hg3 : decide ((40 : Int) < (p.1.size : Int)) = true := by rw [decide_eq_true_eq]; omega
                have HF := Go.Lib.hid hf
                clear hf h40
                go_wp2_with fail
                go_ret
                exact ⟨by rw [HF.out]; rfl, HQ.out.trans HQ2.out⟩
            · obtain rfl : m = q.p.props.length := by omega
              have d2 := hQ2.cell d1 (by simp)
              have HQ2 := Go.Lib.hid hQ2
              have HB := Go.Lib.hid hB
              clear hB hQ2 d1
              go_wp2_with fail
              go_roundw
              case rel => exact ⟨k + 1, by omega, by go_num, fun j y hj hy => by
                rcases Nat.lt_or_ge j k with h | h
                · exact HA.out j y h hy
                · obtain rfl : j = k := by omega
                  rw [HQK.out] at hy
                  obtain rfl := Option.some.inj hy
                  simp only [fewP, Bool.and_eq_true, List.all_eq_true, decide_eq_true_eq]
                  refine ⟨H10.out, fun p hp => ?_⟩
                  obtain ⟨i, hi, rfl⟩ := List.mem_iff_getElem.1 hp
                  exact HB.out i _ hi (List.getElem?_eq_getElem hi), HQ.out.trans HQ2.out⟩
              case measure => simp [intOf]; omega
      · obtain rfl : k = L.length := by omega
        have hf : fewW L = true := by
          simp only [fewW, Bool.and_eq_true, List.all_eq_true, decide_eq_true_eq]
          refine ⟨H16.out, fun h hh => ?_⟩
          obtain ⟨i, hi, rfl⟩ := List.mem_iff_getElem.1 hh
          exact hA i _ hi (List.getElem?_eq_getElem hi)
        have HF := Go.Lib.hid hf
        clear hf
        have HQ := Go.Lib.hid hQ
        clear hA hQ
        go_wp2_with fail
        go_ret
        exact ⟨by rw [HF.out]; rfl, HQ.out⟩
end Go.Proofs.YtnpcakakjhiboaaDoor
