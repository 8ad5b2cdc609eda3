/- What a formula says of a word, in plain Lean; what it becomes says the same. No condition. Laws of what formulas say of a word, in plain Lean. No condition. The example of the law on truth, in plain Lean. No condition. -/
import Derived.Test.YtnpcakakjhiboaaDoorNfP
import Derived.Lib.Bytealg
namespace Go.Proofs.YtnpcakakjhiboaaDoor
open Go.RowKit Go.Lo Go.WideShapes

/-- A point: its moment, and what holds there. -/
structure Pt where
  tm : Int
  props : List (ByteArray × Int)

def meets (v op x : Int) : Bool :=
  if op = 0 then true else if op = 1 then decide (v = x) else if op = 2 then decide (v ≠ x) else if op = 3 then decide (v < x)
  else if op = 4 then decide (v ≤ x) else if op = 5 then decide (x < v) else if op = 6 then decide (x ≤ v) else false

/-- Does an atom hold where there are these propositions? -/
def atomAt (l : List (ByteArray × Int)) (nm : ByteArray) (cmp val : Int) : Bool := l.any fun p => decide (p.1 = nm) && meets p.2 cmp val

def tmOf (w : List Pt) (i : Nat) : Int := match w[i]? with | some p => p.tm | none => 0
def prOf (w : List Pt) (i : Nat) : List (ByteArray × Int) := match w[i]? with | some p => p.props | none => []

/-- Is a point in reach of another one? -/
def inR (w : List Pt) (lo hi : Int) (i j : Nat) : Bool := decide (i ≤ j) && decide (lo ≤ tmOf w j - tmOf w i) && decide (tmOf w j - tmOf w i ≤ hi)

def evT (w : List Pt) (lo hi : Int) (A : Nat → Bool) (i : Nat) : Bool := (List.range w.length).any fun j => inR w lo hi i j && A j
def unT (w : List Pt) (lo hi : Int) (A B : Nat → Bool) (i : Nat) : Bool := (List.range w.length).any fun j => inR w lo hi i j && B j && (List.range j).all fun k => decide (k < i) || A k

/-- Whether a node holds at a place, by its kids'. -/
def tvN (w : List Pt) (n : Nd) (A B : Nat → Bool) (i : Nat) : Bool :=
  if n.op = 1 then true
  else if n.op = 2 then false
  else if n.op = 3 then atomAt (prOf w i) n.nm n.cmp n.val
  else if n.op = 4 then !A i
  else if n.op = 5 then A i && B i
  else if n.op = 6 then A i || B i
  else if n.op = 7 then !A i || B i
  else if n.op = 8 then A i == B i
  else if n.op = 9 then evT w n.lo n.hi A i
  else if n.op = 10 then !evT w n.lo n.hi (fun j => !A j) i
  else if n.op = 11 then unT w n.lo n.hi A B i
  else if n.op = 12 then !unT w n.lo n.hi (fun j => !A j) (fun j => !B j) i
  else false

def noT : Nat → Bool := fun _ => false

/-- Whether a formula holds at a place. -/
def tv (w : List Pt) : Fm → Nat → Bool := Tr.cata fun n ks => tvN w n (ks.headD noT) (ks.tail.headD noT)

theorem tv_nd (w : List Pt) (n : Nd) (ks : List Fm) : tv w (.nd n ks) = tvN w n ((ks.map (tv w)).headD noT) ((ks.map (tv w)).tail.headD noT) := by
  show Tr.cata _ _ = _
  rw [Tr.cata, Tr.cataL_eq]
  rfl

theorem tv_0 (w : List Pt) (n : Nd) : tv w (.nd n []) = tvN w n noT noT := tv_nd w n []
theorem tv_1 (w : List Pt) (n : Nd) (a : Fm) : tv w (.nd n [a]) = tvN w n (tv w a) noT := tv_nd w n [a]
theorem tv_2 (w : List Pt) (n : Nd) (a b : Fm) : tv w (.nd n [a, b]) = tvN w n (tv w a) (tv w b) := tv_nd w n [a, b]

theorem tv_op1 {w : List Pt} {x : Fm} {i : Nat} (h : x.top.op = 1) : tv w x i = true := by
  cases x with | nd n ks => rw [tv_nd]; simp only [Tr.top] at h; simp [tvN, h]
theorem tv_op2 {w : List Pt} {x : Fm} {i : Nat} (h : x.top.op = 2) : tv w x i = false := by
  cases x with | nd n ks => rw [tv_nd]; simp only [Tr.top] at h; simp [tvN, h]

section
variable {w : List Pt} {A B A' B' : Nat → Bool} {i : Nat} {lo hi : Int}

theorem evT_iff : evT w lo hi A i = true ↔ ∃ j, j < w.length ∧ inR w lo hi i j = true ∧ A j = true := by
  simp [evT]

theorem unT_iff : unT w lo hi A B i = true ↔ ∃ j, j < w.length ∧ inR w lo hi i j = true ∧ B j = true ∧ ∀ k, i ≤ k → k < j → A k = true := by
  unfold unT
  simp only [List.any_eq_true, List.mem_range, Bool.and_eq_true, List.all_eq_true, Bool.or_eq_true, decide_eq_true_eq]
  constructor
  · rintro ⟨j, h1, ⟨h2, h3⟩, h4⟩
    exact ⟨j, h1, h2, h3, fun k hk hj => (h4 k hj).resolve_left (by omega)⟩
  · rintro ⟨j, h1, h2, h3, h4⟩
    exact ⟨j, h1, ⟨h2, h3⟩, fun k hk => by
      rcases Nat.lt_or_ge k i with h | h
      · exact .inl h
      · exact .inr (h4 k h hk)⟩

theorem evT_congr (h : ∀ j, j < w.length → A j = A' j) : evT w lo hi A i = evT w lo hi A' i := by
  rw [Bool.eq_iff_iff, evT_iff, evT_iff]
  constructor
  · rintro ⟨j, h1, h2, h3⟩; exact ⟨j, h1, h2, by rw [← h j h1]; exact h3⟩
  · rintro ⟨j, h1, h2, h3⟩; exact ⟨j, h1, h2, by rw [h j h1]; exact h3⟩

theorem unT_congr (h : ∀ j, j < w.length → A j = A' j) (h' : ∀ j, j < w.length → B j = B' j) : unT w lo hi A B i = unT w lo hi A' B' i := by
  rw [Bool.eq_iff_iff, unT_iff, unT_iff]
  constructor
  · rintro ⟨j, h1, h2, h3, h4⟩; exact ⟨j, h1, h2, by rw [← h' j h1]; exact h3, fun k a b => by rw [← h k (by omega)]; exact h4 k a b⟩
  · rintro ⟨j, h1, h2, h3, h4⟩; exact ⟨j, h1, h2, by rw [h' j h1]; exact h3, fun k a b => by rw [h k (by omega)]; exact h4 k a b⟩

theorem tvN_congr (n : Nd) (hi : i < w.length) (h : ∀ j, j < w.length → A j = A' j) (h' : ∀ j, j < w.length → B j = B' j) : tvN w n A B i = tvN w n A' B' i := by
  unfold tvN
  rw [h i hi, h' i hi, evT_congr h, unT_congr h h', evT_congr (A := fun j => !A j) (A' := fun j => !A' j) (fun j hj => by rw [h j hj]),
    unT_congr (A := fun j => !A j) (A' := fun j => !A' j) (B := fun j => !B j) (B' := fun j => !B' j) (fun j hj => by rw [h j hj]) (fun j hj => by rw [h' j hj])]

theorem inR_self (h0 : lo ≤ 0) (h1 : 0 ≤ hi) : inR w lo hi i i = true := by simp [inR, h0, h1]

theorem inR_le {j : Nat} (h : inR w lo hi i j = true) : i ≤ j := by
  simp only [inR, Bool.and_eq_true, decide_eq_true_eq] at h
  exact h.1.1

theorem inR_lo {j : Nat} (h : inR w lo hi i j = true) : lo ≤ tmOf w j - tmOf w i := by
  simp only [inR, Bool.and_eq_true, decide_eq_true_eq] at h
  exact h.1.2

theorem inR_hi {j : Nat} (h : inR w lo hi i j = true) : tmOf w j - tmOf w i ≤ hi := by
  simp only [inR, Bool.and_eq_true, decide_eq_true_eq] at h
  exact h.2

theorem inR_mk {j : Nat} (h1 : i ≤ j) (h2 : lo ≤ tmOf w j - tmOf w i) (h3 : tmOf w j - tmOf w i ≤ hi) : inR w lo hi i j = true := by
  simp [inR, h1, h2, h3]

/-! What is made says the same. -/

theorem tv_not {x : Fm} (h : Nf x) : tv w (nNot x) i = !tv w x i := by
  unfold nNot
  split
  · rename_i h1; rw [tv_op1 h1]; exact tv_op2 rfl
  split
  · rename_i h2; rw [tv_op2 h2]; exact tv_op1 rfl
  split
  · rename_i h4
    rcases x with ⟨x, _ | ⟨a, _ | ⟨b, r⟩⟩⟩
    · have := h.own.2; simp only [okNode] at this; simp only [Tr.top] at h4; omega
    · simp only [Tr.top] at h4
      rw [tv_1, kid0_nd]
      simp [tvN, h4]
    · have := h.own.2
      simp only [Tr.top] at h4
      rcases r with _ | ⟨c, r⟩
      · simp only [okNode] at this; omega
      · exact absurd this (by simp [okNode])
  · rw [nd1, tv_1]; simp [tvN]

theorem tv_and {x y : Fm} : tv w (nAnd x y) i = (tv w x i && tv w y i) := by
  unfold nAnd
  split
  · rename_i h
    have e : tv w (leaf 2) i = false := tv_op2 rfl
    rw [e]
    rcases h with h | h
    · rw [tv_op2 h]; rfl
    · rw [tv_op2 h, Bool.and_false]
  split
  · rename_i h; rw [tv_op1 h, Bool.true_and]
  split
  · rename_i h
    rcases h with h | h
    · rw [tv_op1 h, Bool.and_true]
    · rw [(same_iff _ _).1 h, Bool.and_self]
  · rw [nd2, tv_2]; simp [tvN]

theorem tv_iff {x y : Fm} (hx : Nf x) (hy : Nf y) : tv w (nIff x y) i = (tv w x i == tv w y i) := by
  unfold nIff
  split
  · rename_i h; rw [(same_iff _ _).1 h, tv_op1 (x := leaf 1) rfl]; simp
  split
  · rename_i h; rw [tv_op1 h]; simp
  split
  · rename_i h; rw [tv_op1 h]; simp
  split
  · rename_i h; rw [tv_op2 h, tv_not hy]; simp
  split
  · rename_i h; rw [tv_op2 h, tv_not hx]; simp
  · rw [nd2, tv_2]; simp [tvN]

theorem tv_ev {x : Fm} (_h1 : 0 ≤ lo) (h2 : lo ≤ hi) (hi' : i < w.length) : tv w (nEv lo hi x) i = evT w lo hi (tv w x) i := by
  unfold nEv
  split
  · rename_i h
    rw [tv_op2 (x := leaf 2) rfl]
    symm
    rw [Bool.eq_false_iff, Ne, evT_iff]
    rintro ⟨j, -, -, h3⟩
    rw [tv_op2 h] at h3
    cases h3
  split
  · rename_i h
    rw [tv_op1 (x := leaf 1) rfl]
    symm
    exact evT_iff.2 ⟨i, hi', inR_self (by omega) (by omega), tv_op1 h.1⟩
  · rw [tv_1]; simp [tvN]

theorem tv_un {x y : Fm} (h1 : 0 ≤ lo) (h2 : lo ≤ hi) (hi' : i < w.length) : tv w (nUn lo hi x y) i = unT w lo hi (tv w x) (tv w y) i := by
  unfold nUn
  split
  · rename_i h
    rw [tv_op2 (x := leaf 2) rfl]
    symm
    rw [Bool.eq_false_iff, Ne, unT_iff]
    rintro ⟨j, -, -, h3, -⟩
    rw [tv_op2 h] at h3
    cases h3
  split
  · rename_i h
    rw [Bool.eq_iff_iff, unT_iff]
    constructor
    · intro hy
      exact ⟨i, hi', inR_self (by omega) (by omega), hy, fun k a b => by omega⟩
    · rintro ⟨j, -, h4, h5, h6⟩
      have hij := inR_le h4
      rcases Nat.lt_or_ge i j with hlt | hge
      · have := h6 i (Nat.le_refl _) hlt
        rw [tv_op2 h.1] at this
        cases this
      · obtain rfl : i = j := by omega
        exact h5
  split
  · rename_i h0 h
    rw [tv_op2 (x := leaf 2) rfl]
    symm
    rw [Bool.eq_false_iff, Ne, unT_iff]
    rintro ⟨j, -, h4, h5, h6⟩
    have hij := inR_le h4
    rcases Nat.lt_or_ge i j with hlt | hge
    · have := h6 i (Nat.le_refl _) hlt
      rw [tv_op2 h] at this
      cases this
    · obtain rfl : i = j := by omega
      have := inR_lo h4
      exact h0 ⟨h, by omega⟩
  split
  · rename_i h
    rw [tv_ev h1 h2 hi', Bool.eq_iff_iff, evT_iff, unT_iff]
    constructor
    · rintro ⟨j, a, b, c⟩; exact ⟨j, a, b, c, fun k _ _ => tv_op1 h⟩
    · rintro ⟨j, a, b, c, -⟩; exact ⟨j, a, b, c⟩
  split
  · rename_i h
    rw [tv_op1 (x := leaf 1) rfl]
    symm
    exact unT_iff.2 ⟨i, hi', inR_self (by omega) (by omega), tv_op1 h.1, fun k a b => by omega⟩
  · rw [tv_2]; simp [tvN]

end

/-- What a sound formula becomes holds where it does. -/
theorem tv_made (w : List Pt) (f : Fm) : sound f → ∀ i, i < w.length → tv w (made f) i = tv w f i := by
  induction f using Tr.ind with
  | h x ks ih =>
    intro hs i hi
    have hw := sound_top hs
    obtain ⟨h1, h12, hk, -, -⟩ := wrong_zero hw
    have ih2 : ∀ k, k ∈ ks → ∀ j, j < w.length → tv w (made k) j = tv w k j := fun k hk => ih k hk (sound_kid hs hk)
    have hn : ∀ k, k ∈ ks → Nf (made k) := fun k hk => made_nf k (sound_kid hs hk)
    have hsp := wrong_span hw
    rw [made_nd]
    unfold become
    rcases ks with _ | ⟨a, _ | ⟨b, _ | ⟨c, r⟩⟩⟩
    · have e : kidsOf x.op = 0 := by simpa using hk.symm
      have e3 : x.op = 1 ∨ x.op = 2 ∨ x.op = 3 := by have := kids_0 e; omega
      unfold become2
      rw [if_pos e3, tv_0, tv_0]
      rcases e3 with e3 | e3 | e3 <;> simp [tvN, e3]
    · have ha := hn a (by simp)
      have ea := ih2 a (by simp)
      have e : kidsOf x.op = 1 := by simpa using hk.symm
      have e3 : x.op = 4 ∨ x.op = 9 ∨ x.op = 10 := kids_1 e
      simp only [List.map_cons, List.map_nil, List.headD_cons, List.tail_cons, List.headD_nil]
      rw [tv_1, tvN_congr x hi (fun j hj => (ea j hj).symm) (fun _ _ => rfl)]
      unfold become2
      rcases e3 with e3 | e3 | e3
      · simp only [e3, show ¬ ((4 : Int) = 1 ∨ (4 : Int) = 2 ∨ (4 : Int) = 3) by decide, if_false, if_true]
        rw [tv_not ha]
        simp [tvN, e3]
      · obtain ⟨s1, s2⟩ := hsp (by omega)
        simp [e3, tvN]
        exact tv_ev s1 s2 hi
      · obtain ⟨s1, s2⟩ := hsp (by omega)
        simp [e3, tvN]
        rw [tv_not (ha.not.ev s1 s2), tv_ev s1 s2 hi, evT_congr (fun j _ => tv_not ha)]
    · have ha := hn a (by simp)
      have hb := hn b (by simp)
      have ea := ih2 a (by simp)
      have eb := ih2 b (by simp)
      have e : kidsOf x.op = 2 := by simpa using hk.symm
      have e3 : x.op = 5 ∨ x.op = 6 ∨ x.op = 7 ∨ x.op = 8 ∨ x.op = 11 ∨ x.op = 12 := by have := kids_2 e; omega
      simp only [List.map_cons, List.map_nil, List.headD_cons, List.tail_cons]
      rw [tv_2, tvN_congr x hi (fun j hj => (ea j hj).symm) (fun j hj => (eb j hj).symm)]
      unfold become2
      rcases e3 with e3 | e3 | e3 | e3 | e3 | e3
      · simp [e3, tvN]; exact tv_and
      · simp [e3, tvN]; rw [tv_not (ha.not.and hb.not), tv_and, tv_not ha, tv_not hb]; simp
      · simp [e3, tvN]; rw [tv_not (ha.and hb.not), tv_and, tv_not hb]; simp
      · simp [e3, tvN]; exact tv_iff ha hb
      · obtain ⟨s1, s2⟩ := hsp (by omega)
        simp [e3, tvN]; exact tv_un s1 s2 hi
      · obtain ⟨s1, s2⟩ := hsp (by omega)
        simp [e3, tvN]
        rw [tv_not (ha.not.un hb.not s1 s2), tv_un s1 s2 hi, unT_congr (fun j _ => tv_not ha) (fun j _ => tv_not hb)]
    · exfalso
      have := kids_le2 x.op
      simp at hk
      omega

/-- How two propositions stand. -/
def ordP (p q : ByteArray × Int) : Int :=
  if Lib.compareBytes p.1.data.toList q.1.data.toList ≠ 0 then Lib.compareBytes p.1.data.toList q.1.data.toList
  else if p.2 < q.2 then -1 else if q.2 < p.2 then 1 else 0

/-- Are propositions right, from the one on, behind p? -/
def propsFrom (p : ByteArray × Int) : List (ByteArray × Int) → Bool
  | [] => true
  | q :: r => isName q.1 && decide (ordP p q < 0) && propsFrom q r

def propsOk : List (ByteArray × Int) → Bool
  | [] => true
  | q :: r => isName q.1 && propsFrom q r

def wordFrom (t : Int) : List Pt → Bool
  | [] => true
  | q :: r => decide (t < q.tm) && propsOk q.props && wordFrom q.tm r

/-- Do points make a word? -/
def wordOk (w : List Pt) : Bool := wordFrom (-1) w

/-- A formula's row on a word. -/
def rowF (f : Fm) (w : List Pt) : List Bool := if first f = 0 ∧ wordOk w = true then (List.range w.length).map (tv w f) else []

theorem wordFrom_le {w : List Pt} : ∀ {t : Int}, wordFrom t w = true → ∀ i, i < w.length → t < tmOf w i := by
  induction w with
  | nil => intro t _ i hi; simp at hi
  | cons q r ih =>
    intro t h i hi
    simp only [wordFrom, Bool.and_eq_true, decide_eq_true_eq] at h
    cases i with
    | zero => exact h.1.1
    | succ i =>
      have := ih h.2 i (by simpa using hi)
      have e : tmOf (q :: r) (i + 1) = tmOf r i := by simp [tmOf]
      rw [e]
      omega

theorem wordFrom_rise {w : List Pt} : ∀ {t : Int}, wordFrom t w = true → ∀ i j, i < j → j < w.length → tmOf w i < tmOf w j := by
  induction w with
  | nil => intro t _ i j _ hj; simp at hj
  | cons q r ih =>
    intro t h i j hij hj
    simp only [wordFrom, Bool.and_eq_true, decide_eq_true_eq] at h
    obtain ⟨j, rfl⟩ : ∃ k, j = k + 1 := ⟨j - 1, by omega⟩
    have e : tmOf (q :: r) (j + 1) = tmOf r j := by simp [tmOf]
    rw [e]
    cases i with
    | zero => exact wordFrom_le h.2 j (by simpa using hj)
    | succ i =>
      have e : tmOf (q :: r) (i + 1) = tmOf r i := by simp [tmOf]
      rw [e]
      exact ih h.2 i j (by omega) (by simpa using hj)

theorem wordOk_pos {w : List Pt} (h : wordOk w = true) (i : Nat) : 0 ≤ tmOf w i := by
  rcases Nat.lt_or_ge i w.length with hi | hi
  · have := wordFrom_le h i hi; omega
  · simp [tmOf, List.getElem?_eq_none hi]

theorem wordOk_rise {w : List Pt} (h : wordOk w = true) {i j : Nat} (hij : i < j) (hj : j < w.length) : tmOf w i < tmOf w j := wordFrom_rise h i j hij hj

theorem rowF_length {f : Fm} {w : List Pt} (h : first f = 0) (h2 : wordOk w = true) : (rowF f w).length = w.length := by simp [rowF, h, h2]

theorem rowF_norm {f : Fm} {w : List Pt} (h : sound f) : rowF (normOf f) w = rowF f w := by
  have h1 : first f = 0 := (first_zero f).2 h
  have h2 : first (normOf f) = 0 := (first_zero _).2 (normOf_nf h).sound
  unfold rowF
  simp only [h1, h2, true_and]
  split
  · refine List.map_congr_left fun i hi => ?_
    rw [normOf_sound h]
    exact tv_made w f h i (by simpa using hi)
  · rfl

end Go.Proofs.YtnpcakakjhiboaaDoor

namespace Go.Proofs.YtnpcakakjhiboaaDoor
open Go.RowKit Go.Lo Go.WideShapes

theorem first_node (x : Nd) (ks : List Fm) : first (.nd x ks) = 0 ↔ wrong (.nd x ks) = 0 ∧ ∀ k, k ∈ ks → first k = 0 := by
  rw [first_zero]
  constructor
  · exact fun h => ⟨sound_top h, fun k hk => (first_zero k).2 (sound_kid h hk)⟩
  · exact fun h => sound_mk h.1 (fun k hk => (first_zero k).1 (h.2 k hk))

theorem rowF_eq {f g : Fm} {w : List Pt} (h : first f = 0 ↔ first g = 0) (h2 : first f = 0 → wordOk w = true → ∀ i, i < w.length → tv w f i = tv w g i) : rowF f w = rowF g w := by
  unfold rowF
  by_cases hf : first f = 0
  · have hg := h.1 hf
    by_cases hw : wordOk w = true
    · rw [if_pos ⟨hf, hw⟩, if_pos ⟨hg, hw⟩]
      exact List.map_congr_left fun i hi => h2 hf hw i (by simpa using hi)
    · rw [if_neg (fun e => hw e.2), if_neg (fun e => hw e.2)]
  · rw [if_neg (fun e => hf e.1), if_neg (fun e => hf (h.2 e.1))]

section
variable {w : List Pt} {A B : Nat → Bool} {i : Nat}

theorem inR_zero (hw : wordOk w = true) {j : Nat} (hj : j < w.length) (h : inR w 0 0 i j = true) : i = j := by
  have h1 := inR_le h
  have h2 := inR_hi h
  rcases Nat.lt_or_ge i j with h3 | h3
  · have := wordOk_rise hw h3 hj; omega
  · omega

theorem evT_zero (hw : wordOk w = true) (hi : i < w.length) : evT w 0 0 A i = A i := by
  rw [Bool.eq_iff_iff, evT_iff]
  constructor
  · rintro ⟨j, h1, h2, h3⟩
    rw [inR_zero hw h1 h2]; exact h3
  · exact fun h => ⟨i, hi, inR_self (Int.le_refl _) (Int.le_refl _), h⟩

theorem unT_zero (hw : wordOk w = true) (hi : i < w.length) : unT w 0 0 A B i = B i := by
  rw [Bool.eq_iff_iff, unT_iff]
  constructor
  · rintro ⟨j, h1, h2, h3, -⟩
    rw [inR_zero hw h1 h2]; exact h3
  · exact fun h => ⟨i, hi, inR_self (Int.le_refl _) (Int.le_refl _), h, fun k a b => by omega⟩

theorem unT_true {lo hi : Int} : unT w lo hi (fun _ => true) B i = evT w lo hi B i := by
  rw [Bool.eq_iff_iff, unT_iff, evT_iff]
  constructor
  · rintro ⟨j, a, b, c, -⟩; exact ⟨j, a, b, c⟩
  · rintro ⟨j, a, b, c⟩; exact ⟨j, a, b, c, fun _ _ _ => rfl⟩
end

section
variable {w : List Pt} {f g : Fm} {lo hi : Int}

theorem tv_one (op : Int) : tv w (exOne op lo hi f) = tvN w { z0 with op := op, lo := lo, hi := hi } (tv w f) noT := tv_1 _ _ _
theorem tv_two (op : Int) : tv w (exTwo op lo hi f g) = tvN w { z0 with op := op, lo := lo, hi := hi } (tv w f) (tv w g) := tv_2 _ _ _ _
theorem tv_leaf1 : tv w (leaf 1) = fun _ => true := by funext i; exact tv_op1 rfl
theorem tv_leaf2 : tv w (leaf 2) = fun _ => false := by funext i; exact tv_op2 rfl
theorem tv4 : tv w (exOne 4 lo hi f) = fun i => !tv w f i := by rw [tv_one]; funext i; simp [tvN]
theorem tv9 : tv w (exOne 9 lo hi f) = evT w lo hi (tv w f) := by rw [tv_one]; funext i; simp [tvN]
theorem tv10 : tv w (exOne 10 lo hi f) = fun i => !evT w lo hi (fun j => !tv w f j) i := by rw [tv_one]; funext i; simp [tvN]
theorem tv5 : tv w (exTwo 5 lo hi f g) = fun i => tv w f i && tv w g i := by rw [tv_two]; funext i; simp [tvN]
theorem tv6 : tv w (exTwo 6 lo hi f g) = fun i => tv w f i || tv w g i := by rw [tv_two]; funext i; simp [tvN]
theorem tv7 : tv w (exTwo 7 lo hi f g) = fun i => !tv w f i || tv w g i := by rw [tv_two]; funext i; simp [tvN]
theorem tv8 : tv w (exTwo 8 lo hi f g) = fun i => tv w f i == tv w g i := by rw [tv_two]; funext i; simp [tvN]
theorem tv11 : tv w (exTwo 11 lo hi f g) = unT w lo hi (tv w f) (tv w g) := by rw [tv_two]; funext i; simp [tvN]
theorem tv12 : tv w (exTwo 12 lo hi f g) = fun i => !unT w lo hi (fun j => !tv w f j) (fun j => !tv w g j) i := by rw [tv_two]; funext i; simp [tvN]

theorem both {f g : Fm} (h : sound f) (h' : sound g) : first f = 0 ↔ first g = 0 := ⟨fun _ => (first_zero g).2 h', fun _ => (first_zero f).2 h⟩

theorem row_al (h : sound f) (h1 : 0 ≤ lo) (h2 : lo ≤ hi) : rowF (exOne 10 lo hi f) w = rowF (exOne 4 0 0 (exOne 9 lo hi (exOne 4 0 0 f))) w :=
  rowF_eq (both (sound_one10 h h1 h2) (sound_one4 (sound_one9 (sound_one4 h) h1 h2))) fun _ _ i _ => by rw [tv10, tv4, tv9, tv4]
theorem row_re (h : sound f) (h' : sound g) (h1 : 0 ≤ lo) (h2 : lo ≤ hi) : rowF (exTwo 12 lo hi f g) w = rowF (exOne 4 0 0 (exTwo 11 lo hi (exOne 4 0 0 f) (exOne 4 0 0 g))) w :=
  rowF_eq (both (sound_two_span (.inr rfl) h h' h1 h2) (sound_one4 (sound_two_span (.inl rfl) (sound_one4 h) (sound_one4 h') h1 h2))) fun _ _ i _ => by rw [tv12, tv4, tv11, tv4, tv4]
theorem row_imp (h : sound f) (h' : sound g) : rowF (exTwo 7 0 0 f g) w = rowF (exTwo 6 0 0 (exOne 4 0 0 f) g) w :=
  rowF_eq (both (sound_two (.inr (.inr (.inl rfl))) h h') (sound_two (.inr (.inl rfl)) (sound_one4 h) h')) fun _ _ i _ => by rw [tv7, tv6, tv4]
theorem row_iff (h : sound f) (h' : sound g) : rowF (exTwo 8 0 0 f g) w = rowF (exTwo 5 0 0 (exTwo 7 0 0 f g) (exTwo 7 0 0 g f)) w :=
  rowF_eq (both (sound_two (.inr (.inr (.inr rfl))) h h') (sound_two (.inl rfl) (sound_two (.inr (.inr (.inl rfl))) h h') (sound_two (.inr (.inr (.inl rfl))) h' h))) fun _ _ i _ => by
    rw [tv8, tv5, tv7, tv7]
    show (tv w f i == tv w g i) = ((!tv w f i || tv w g i) && (!tv w g i || tv w f i))
    cases tv w f i <;> cases tv w g i <;> rfl
theorem row_nn (h : sound f) : rowF (exOne 4 0 0 (exOne 4 0 0 f)) w = rowF f w :=
  rowF_eq (both (sound_one4 (sound_one4 h)) h) fun _ _ i _ => by rw [tv4, tv4]; simp

theorem first_one9 (h1 : 0 ≤ lo) (h2 : lo ≤ hi) : first (exOne 9 lo hi f) = 0 ↔ first f = 0 := by
  unfold exOne; rw [first_node]; simp [wrong_span1 (op := 9) (x := f) (.inl rfl) h1 h2]
theorem first_one10 (h1 : 0 ≤ lo) (h2 : lo ≤ hi) : first (exOne 10 lo hi f) = 0 ↔ first f = 0 := by
  unfold exOne; rw [first_node]; simp [wrong_span1 (op := 10) (x := f) (.inr rfl) h1 h2]
theorem first_two11 (h1 : 0 ≤ lo) (h2 : lo ≤ hi) : first (exTwo 11 lo hi f g) = 0 ↔ first f = 0 ∧ first g = 0 := by
  unfold exTwo; rw [first_node]; simp [wrong_span2 (op := 11) (x := f) (y := g) (.inl rfl) h1 h2]
theorem first_two12 (h1 : 0 ≤ lo) (h2 : lo ≤ hi) : first (exTwo 12 lo hi f g) = 0 ↔ first f = 0 ∧ first g = 0 := by
  unfold exTwo; rw [first_node]; simp [wrong_span2 (op := 12) (x := f) (y := g) (.inr rfl) h1 h2]
theorem first_leaf {op : Int} (h : op = 1 ∨ op = 2) : first (leaf op) = 0 := (first_zero _).2 (Nf.leaf h).sound

theorem row_ev0 : rowF (exOne 9 0 0 f) w = rowF f w :=
  rowF_eq (first_one9 (Int.le_refl _) (Int.le_refl _)) fun _ hw i hi => by rw [tv9, evT_zero hw hi]
theorem row_al0 : rowF (exOne 10 0 0 f) w = rowF f w :=
  rowF_eq (first_one10 (Int.le_refl _) (Int.le_refl _)) fun _ hw i hi => by rw [tv10]; show (!evT w 0 0 (fun j => !tv w f j) i) = _; rw [evT_zero hw hi]; simp
theorem row_un0 (h : sound g) : rowF (exTwo 11 0 0 g f) w = rowF f w :=
  rowF_eq (by rw [first_two11 (Int.le_refl _) (Int.le_refl _), (first_zero g).2 h]; simp) fun _ hw i hi => by rw [tv11, unT_zero hw hi]
theorem row_re0 (h : sound g) : rowF (exTwo 12 0 0 g f) w = rowF f w :=
  rowF_eq (by rw [first_two12 (Int.le_refl _) (Int.le_refl _), (first_zero g).2 h]; simp) fun _ hw i hi => by rw [tv12]; show (!unT w 0 0 (fun j => !tv w g j) (fun j => !tv w f j) i) = _; rw [unT_zero hw hi]; simp
theorem row_un1 (h1 : 0 ≤ lo) (h2 : lo ≤ hi) : rowF (exTwo 11 lo hi (leaf 1) f) w = rowF (exOne 9 lo hi f) w :=
  rowF_eq (by rw [first_two11 h1 h2, first_one9 h1 h2, first_leaf (.inl rfl)]; simp) fun _ hw i hi => by rw [tv11, tv9, tv_leaf1, unT_true]
theorem row_re2 (h1 : 0 ≤ lo) (h2 : lo ≤ hi) : rowF (exTwo 12 lo hi (leaf 2) f) w = rowF (exOne 10 lo hi f) w :=
  rowF_eq (by rw [first_two12 h1 h2, first_one10 h1 h2, first_leaf (.inr rfl)]; simp) fun _ hw i hi => by rw [tv12, tv10, tv_leaf2]; simp [unT_true]

/-- Does a formula hold at a place of a word? -/
def holdsF (f : Fm) (w : List Pt) (i : Nat) : Bool := (rowF f w).getD i false

theorem holdsF_iff {i : Nat} : holdsF f w i = true ↔ first f = 0 ∧ wordOk w = true ∧ i < w.length ∧ tv w f i = true := by
  unfold holdsF rowF
  split
  · rename_i h
    rcases Nat.lt_or_ge i w.length with hi | hi
    · simp [List.getD, hi, h.1, h.2]
    · simp [List.getD, Nat.not_lt.2 hi]
  · rename_i h
    simp only [List.getD, List.getElem?_nil, Option.getD_none]
    constructor
    · intro e; cases e
    · rintro ⟨a, b, -⟩; exact absurd ⟨a, b⟩ h

variable {l2 h2 : Int} {i : Nat}

theorem inR_wide (hl : l2 ≤ lo) (hh : hi ≤ h2) {j : Nat} (h : inR w lo hi i j = true) : inR w l2 h2 i j = true :=
  inR_mk (inR_le h) (Int.le_trans hl (inR_lo h)) (Int.le_trans (inR_hi h) hh)

theorem wide_ev (h1 : 0 ≤ lo) (h3 : lo ≤ hi) (hl : l2 ≤ lo) (hh : hi ≤ h2) (hl0 : 0 ≤ l2) (h : holdsF (exOne 9 lo hi g) w i = true) : holdsF (exOne 9 l2 h2 g) w i = true := by
  rw [holdsF_iff, first_one9 h1 h3, tv9, evT_iff] at h
  rw [holdsF_iff, first_one9 hl0 (by omega), tv9, evT_iff]
  obtain ⟨a, b, c, j, d, e, k⟩ := h
  exact ⟨a, b, c, j, d, inR_wide hl hh e, k⟩
theorem wide_un (h1 : 0 ≤ lo) (h3 : lo ≤ hi) (hl : l2 ≤ lo) (hh : hi ≤ h2) (hl0 : 0 ≤ l2) (h : holdsF (exTwo 11 lo hi f g) w i = true) : holdsF (exTwo 11 l2 h2 f g) w i = true := by
  rw [holdsF_iff, first_two11 h1 h3, tv11, unT_iff] at h
  rw [holdsF_iff, first_two11 hl0 (by omega), tv11, unT_iff]
  obtain ⟨a, b, c, j, d, e, k⟩ := h
  exact ⟨a, b, c, j, d, inR_wide hl hh e, k⟩
theorem wide_al (h1 : 0 ≤ lo) (h3 : lo ≤ hi) (hl : l2 ≤ lo) (hh : hi ≤ h2) (hl0 : 0 ≤ l2) (h : holdsF (exOne 10 l2 h2 g) w i = true) : holdsF (exOne 10 lo hi g) w i = true := by
  rw [holdsF_iff, first_one10 hl0 (by omega), tv10] at h
  rw [holdsF_iff, first_one10 h1 h3, tv10]
  obtain ⟨a, b, c, d⟩ := h
  refine ⟨a, b, c, ?_⟩
  simp only [Bool.not_eq_true', Bool.eq_false_iff, Ne, evT_iff] at d ⊢
  exact fun ⟨j, x, y, z⟩ => d ⟨j, x, inR_wide hl hh y, z⟩
theorem un_ev (h1 : 0 ≤ lo) (h3 : lo ≤ hi) (h : holdsF (exTwo 11 lo hi f g) w i = true) : holdsF (exOne 9 lo hi g) w i = true := by
  rw [holdsF_iff, first_two11 h1 h3, tv11, unT_iff] at h
  rw [holdsF_iff, first_one9 h1 h3, tv9, evT_iff]
  obtain ⟨a, b, c, j, d, e, k, -⟩ := h
  exact ⟨a.2, b, c, j, d, e, k⟩
end

end Go.Proofs.YtnpcakakjhiboaaDoor

namespace Go.Proofs.YtnpcakakjhiboaaDoor
open Go.RowKit Go.Lo Go.WideShapes

def exW : List Pt := [⟨0, [(⟨#[97]⟩, 0)]⟩, ⟨2, [(⟨#[97]⟩, 0)]⟩, ⟨5, [(⟨#[98]⟩, 0)]⟩]
theorem exW_ok : wordOk exW = true := by simp [wordOk, wordFrom, exW, propsOk, propsFrom, isName_a, isName_b]
theorem sound_name (b : UInt8) (h : isName ⟨#[b]⟩ = true) : sound (exName b) := sound_mk (wrong_name b h) (by simp)
theorem sound_exU (hi : Int) (h : 0 ≤ hi) : sound (exTwo 11 0 hi (exName 97) (exName 98)) := sound_two_span (.inl rfl) (sound_name 97 isName_a) (sound_name 98 isName_b) (Int.le_refl _) h
theorem sound_exA : sound (exOne 10 0 9 (exName 97)) := sound_one10 (sound_name 97 isName_a) (Int.le_refl _) (by decide)
theorem row_exU5 : rowF (exTwo 11 0 5 (exName 97) (exName 98)) exW = [true, true, true] := by
  unfold rowF
  rw [if_pos ⟨(first_zero _).2 (sound_exU 5 (by decide)), exW_ok⟩]
  kernel_rfl
theorem row_exU4 : rowF (exTwo 11 0 4 (exName 97) (exName 98)) exW = [false, true, true] := by
  unfold rowF
  rw [if_pos ⟨(first_zero _).2 (sound_exU 4 (by decide)), exW_ok⟩]
  kernel_rfl
theorem row_exA : rowF (exOne 10 0 9 (exName 97)) exW = [false, false, false] := by
  unfold rowF
  rw [if_pos ⟨(first_zero _).2 sound_exA, exW_ok⟩]
  kernel_rfl
theorem row_exN : rowF (exName 97) exW = [true, true, false] := by
  unfold rowF
  rw [if_pos ⟨(first_zero _).2 (sound_name 97 isName_a), exW_ok⟩]
  kernel_rfl
theorem holds_exN : holdsF (exName 97) exW 1 = true := by
  unfold holdsF
  rw [row_exN]
  rfl
end Go.Proofs.YtnpcakakjhiboaaDoor
