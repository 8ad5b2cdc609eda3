/- The names in a formula, rising, each once: in plain Lean. No condition. -/
import Derived.Test.YtnpcakakjhiboaaDoorHorP
namespace Go.Proofs.YtnpcakakjhiboaaDoor
open Go

abbrev Nm := List UInt8

theorem u8_tri (a b : UInt8) : a < b ∨ a = b ∨ b < a := by
  by_cases h1 : a < b
  · exact .inl h1
  by_cases h2 : b < a
  · exact .inr (.inr h2)
  exact .inr (.inl (UInt8.le_antisymm (UInt8.not_lt.1 h2) (UInt8.not_lt.1 h1)))

/-- One name ahead of another one. -/
def ltN : Nm → Nm → Bool
  | [], [] => false
  | [], _ :: _ => true
  | _ :: _, [] => false
  | a :: x, b :: y => decide (a < b) || (decide (a = b) && ltN x y)

theorem less_ltN : ∀ a b : Nm, Op.bytesLess a b = ltN a b
  | [], [] => by simp [ltN, Op.bytesLess]
  | [], _ :: _ => by simp [ltN, Op.bytesLess]
  | _ :: _, [] => by simp [ltN, Op.bytesLess]
  | a :: x, b :: y => by
    have := less_ltN x y
    unfold ltN Op.bytesLess
    by_cases h1 : a < b
    · simp [h1]
    · by_cases h2 : b < a
      · have : a ≠ b := fun e => by subst e; exact h1 h2
        simp [h1, this]
      · have e : a = b := by
          rcases u8_tri a b with h | h | h
          · exact absurd h h1
          · exact h
          · exact absurd h h2
        subst e
        simp [h1, this]

theorem ltN_lt : ∀ a b : Nm, ltN a b = decide (a < b)
  | [], [] => by simp [ltN]
  | [], _ :: _ => by simp [ltN]
  | _ :: _, [] => by simp [ltN]
  | a :: x, b :: y => by
    have := ltN_lt x y
    unfold ltN
    rw [Bool.eq_iff_iff]
    simp only [Bool.or_eq_true, Bool.and_eq_true, decide_eq_true_eq, this, List.cons_lt_cons_iff]

theorem ltN_irrefl (a : Nm) : ltN a a = false := by
  induction a with
  | nil => rfl
  | cons x a ih => simp [ltN, ih, UInt8.lt_irrefl]

theorem ltN_trans : ∀ {a b c : Nm}, ltN a b = true → ltN b c = true → ltN a c = true
  | [], [], _, h, _ => by simp [ltN] at h
  | [], _ :: _, [], _, h => by simp [ltN] at h
  | [], _ :: _, _ :: _, _, _ => by simp [ltN]
  | _ :: _, [], _, h, _ => by simp [ltN] at h
  | _ :: _, _ :: _, [], _, h => by simp [ltN] at h
  | a :: x, b :: y, c :: z, h1, h2 => by
    simp only [ltN, Bool.or_eq_true, Bool.and_eq_true, decide_eq_true_eq] at h1 h2 ⊢
    rcases h1 with h1 | ⟨rfl, h1⟩
    · rcases h2 with h2 | ⟨rfl, h2⟩
      · exact .inl (UInt8.lt_trans h1 h2)
      · exact .inl h1
    · rcases h2 with h2 | ⟨rfl, h2⟩
      · exact .inl h2
      · exact .inr ⟨rfl, ltN_trans h1 h2⟩

theorem ltN_tri : ∀ a b : Nm, ltN a b = true ∨ a = b ∨ ltN b a = true
  | [], [] => by simp
  | [], _ :: _ => by simp [ltN]
  | _ :: _, [] => by simp [ltN]
  | a :: x, b :: y => by
    have := ltN_tri x y
    simp only [ltN, Bool.or_eq_true, Bool.and_eq_true, decide_eq_true_eq, List.cons.injEq]
    rcases u8_tri a b with h | rfl | h
    · exact .inl (.inl h)
    · rcases this with h | h | h
      · exact .inl (.inr ⟨rfl, h⟩)
      · exact .inr (.inl ⟨rfl, h⟩)
      · exact .inr (.inr (.inr ⟨rfl, h⟩))
    · exact .inr (.inr (.inl h))

/-- Rising. -/
def Rises (l : List Nm) : Prop := l.Pairwise fun a b => ltN a b = true

/-- A name put where it stands. -/
def insN (x : Nm) : List Nm → List Nm
  | [] => [x]
  | y :: r => if ltN y x = true then y :: insN x r else if y = x then y :: r else x :: y :: r

theorem mem_ins (x : Nm) : ∀ (l : List Nm) (z : Nm), z ∈ insN x l ↔ z = x ∨ z ∈ l
  | [], z => by simp [insN]
  | y :: r, z => by
    unfold insN
    split
    · simp only [List.mem_cons, mem_ins x r]
      constructor
      · rintro (h | h | h)
        · exact .inr (.inl h)
        · exact .inl h
        · exact .inr (.inr h)
      · rintro (h | h | h)
        · exact .inr (.inl h)
        · exact .inl h
        · exact .inr (.inr h)
    · split
      · rename_i h
        subst h
        simp
      · simp

theorem rises_ins (x : Nm) : ∀ l : List Nm, Rises l → Rises (insN x l)
  | [], _ => by simp [insN, Rises]
  | y :: r, h => by
    obtain ⟨h1, h2⟩ := List.pairwise_cons.1 h
    unfold insN
    split
    · rename_i hy
      refine List.pairwise_cons.2 ⟨fun z hz => ?_, rises_ins x r h2⟩
      rcases (mem_ins x r z).1 hz with rfl | hz
      · exact hy
      · exact h1 z hz
    · split
      · exact h
      · rename_i hy hne
        have hxy : ltN x y = true := by
          rcases ltN_tri x y with h' | h' | h'
          · exact h'
          · exact absurd h'.symm hne
          · exact absurd h' hy
        refine List.pairwise_cons.2 ⟨fun z hz => ?_, h⟩
        rcases List.mem_cons.1 hz with rfl | hz
        · exact hxy
        · exact ltN_trans hxy (h1 z hz)

/-- Two rising lists that have the same names are one. -/
theorem rises_ext : ∀ {l m : List Nm}, Rises l → Rises m → (∀ x, x ∈ l ↔ x ∈ m) → l = m
  | [], [], _, _, _ => rfl
  | [], y :: m, _, _, h => by have := (h y).2 (by simp); cases this
  | x :: l, [], _, _, h => by have := (h x).1 (by simp); cases this
  | x :: l, y :: m, hl, hm, h => by
    obtain ⟨l1, l2⟩ := List.pairwise_cons.1 hl
    obtain ⟨m1, m2⟩ := List.pairwise_cons.1 hm
    have hxy : x = y := by
      have a1 := (h x).1 (by simp)
      have a2 := (h y).2 (by simp)
      rcases List.mem_cons.1 a1 with e | a1
      · exact e
      rcases List.mem_cons.1 a2 with e | a2
      · exact e.symm
      have := ltN_trans (m1 x a1) (l1 y a2)
      rw [ltN_irrefl] at this
      cases this
    subst hxy
    congr 1
    refine rises_ext l2 m2 fun z => ?_
    constructor
    · intro hz
      rcases List.mem_cons.1 ((h z).1 (List.mem_cons_of_mem _ hz)) with rfl | hz'
      · have := l1 z hz; rw [ltN_irrefl] at this; cases this
      · exact hz'
    · intro hz
      rcases List.mem_cons.1 ((h z).2 (List.mem_cons_of_mem _ hz)) with rfl | hz'
      · have := m1 z hz; rw [ltN_irrefl] at this; cases this
      · exact hz'

theorem rises_nodup {l : List Nm} (h : Rises l) : l.Nodup := h.imp fun hab e => by subst e; rw [ltN_irrefl] at hab; cases hab

/-- The names of these nodes' atoms. -/
def namesL (l : List Fm) : List Nm := l.foldl (fun out n => if n.top.op = 3 then insN n.top.nm.data.toList out else out) []

def namesOf (f : Fm) : List Nm := if first f = 0 then namesL f.pre else []

theorem namesL_facts (l : List Fm) : ∀ out : List Nm, Rises out → Rises (l.foldl (fun out n => if n.top.op = 3 then insN n.top.nm.data.toList out else out) out) ∧
    ∀ x, x ∈ l.foldl (fun out n => if n.top.op = 3 then insN n.top.nm.data.toList out else out) out ↔ x ∈ out ∨ ∃ n, n ∈ l ∧ n.top.op = 3 ∧ n.top.nm.data.toList = x := by
  induction l with
  | nil => intro out h; exact ⟨h, by simp⟩
  | cons n l ih =>
    intro out h
    simp only [List.foldl_cons]
    by_cases h3 : n.top.op = 3
    · rw [if_pos h3]
      obtain ⟨i1, i2⟩ := ih _ (rises_ins n.top.nm.data.toList out h)
      refine ⟨i1, fun x => ?_⟩
      rw [i2, mem_ins]
      constructor
      · rintro ((rfl | h) | ⟨m, hm, h⟩)
        · exact .inr ⟨n, by simp, h3, rfl⟩
        · exact .inl h
        · exact .inr ⟨m, by simp [hm], h⟩
      · rintro (h | ⟨m, hm, h4, h5⟩)
        · exact .inl (.inr h)
        · rcases List.mem_cons.1 hm with rfl | hm
          · exact .inl (.inl h5.symm)
          · exact .inr ⟨m, hm, h4, h5⟩
    · rw [if_neg h3]
      obtain ⟨i1, i2⟩ := ih _ h
      refine ⟨i1, fun x => ?_⟩
      rw [i2]
      constructor
      · rintro (h | ⟨m, hm, h⟩)
        · exact .inl h
        · exact .inr ⟨m, by simp [hm], h⟩
      · rintro (h | ⟨m, hm, h4, h5⟩)
        · exact .inl h
        · rcases List.mem_cons.1 hm with rfl | hm
          · exact absurd h4 h3
          · exact .inr ⟨m, hm, h4, h5⟩

theorem namesL_rises (l : List Fm) : Rises (namesL l) := (namesL_facts l [] List.Pairwise.nil).1
theorem namesL_mem (l : List Fm) (x : Nm) : x ∈ namesL l ↔ ∃ n, n ∈ l ∧ n.top.op = 3 ∧ n.top.nm.data.toList = x := by
  have := (namesL_facts l [] List.Pairwise.nil).2 x
  simpa [namesL] using this

/-- Is a name one of a formula's atoms? -/
def atomIn (x : Nm) (f : Fm) : Prop := ∃ n, n ∈ f.pre ∧ n.top.op = 3 ∧ n.top.nm.data.toList = x

theorem atomIn_nd {x : Nm} {n : Nd} {ks : List Fm} : atomIn x (.nd n ks) ↔ (n.op = 3 ∧ n.nm.data.toList = x) ∨ ∃ k, k ∈ ks ∧ atomIn x k := by
  unfold atomIn
  constructor
  · rintro ⟨m, hm, h⟩
    rcases pre_nd.1 hm with rfl | ⟨k, hk, hm⟩
    · exact .inl h
    · exact .inr ⟨k, hk, m, hm, h⟩
  · rintro (h | ⟨k, hk, m, hm, h⟩)
    · exact ⟨_, pre_nd.2 (.inl rfl), h⟩
    · exact ⟨m, pre_nd.2 (.inr ⟨k, hk, hm⟩), h⟩

section
variable {s : Nm} {x y : Fm} {lo hi : Int}

theorem at_leaf {op : Int} (h : op = 1 ∨ op = 2) : ¬ atomIn s (leaf op) := by
  unfold leaf
  rw [atomIn_nd]
  rintro (⟨h3, -⟩ | ⟨k, hk, -⟩)
  · simp only at h3; omega
  · simp at hk

theorem at_one {op : Int} (h : op ≠ 3) : atomIn s (.nd { z0 with op := op, lo := lo, hi := hi } [x]) ↔ atomIn s x := by
  rw [atomIn_nd]
  simp [h]

theorem at_two {op : Int} (h : op ≠ 3) : atomIn s (.nd { z0 with op := op, lo := lo, hi := hi } [x, y]) ↔ atomIn s x ∨ atomIn s y := by
  rw [atomIn_nd]
  simp [h]

theorem at_not (h : atomIn s (nNot x)) : atomIn s x := by
  unfold nNot at h
  split at h
  · exact absurd h (at_leaf (.inr rfl))
  split at h
  · exact absurd h (at_leaf (.inl rfl))
  split at h
  · rcases x with ⟨n, _ | ⟨a, r⟩⟩
    · simp only [kid0, Tr.kids, List.headD_nil] at h
      exfalso
      unfold leaf at h
      rw [atomIn_nd] at h
      simp [z0] at h
    · exact atomIn_nd.2 (.inr ⟨a, by simp, h⟩)
  · exact (at_one (lo := 0) (hi := 0) (by decide)).1 h

theorem at_and (h : atomIn s (nAnd x y)) : atomIn s x ∨ atomIn s y := by
  unfold nAnd at h
  split at h
  · exact absurd h (at_leaf (.inr rfl))
  split at h
  · exact .inr h
  split at h
  · exact .inl h
  · exact (at_two (lo := 0) (hi := 0) (by decide)).1 h

theorem at_iff (h : atomIn s (nIff x y)) : atomIn s x ∨ atomIn s y := by
  unfold nIff at h
  split at h
  · exact absurd h (at_leaf (.inl rfl))
  split at h
  · exact .inr h
  split at h
  · exact .inl h
  split at h
  · exact .inr (at_not h)
  split at h
  · exact .inl (at_not h)
  · exact (at_two (lo := 0) (hi := 0) (by decide)).1 h

theorem at_ev (h : atomIn s (nEv lo hi x)) : atomIn s x := by
  unfold nEv at h
  split at h
  · exact absurd h (at_leaf (.inr rfl))
  split at h
  · exact absurd h (at_leaf (.inl rfl))
  · exact (at_one (by decide)).1 h

theorem at_un (h : atomIn s (nUn lo hi x y)) : atomIn s x ∨ atomIn s y := by
  unfold nUn at h
  split at h
  · exact absurd h (at_leaf (.inr rfl))
  split at h
  · exact .inr h
  split at h
  · exact absurd h (at_leaf (.inr rfl))
  split at h
  · exact .inr (at_ev h)
  split at h
  · exact absurd h (at_leaf (.inl rfl))
  · exact (at_two (by decide)).1 h
end

/-- What a formula becomes has no other names. -/
theorem at_made {s : Nm} (f : Fm) : sound f → atomIn s (made f) → atomIn s f := by
  induction f using Tr.ind with
  | h x ks ih =>
    intro hs
    have hw := sound_top hs
    obtain ⟨h1, h12, hk, -, -⟩ := wrong_zero hw
    have ih2 : ∀ k, k ∈ ks → atomIn s (made k) → atomIn s k := fun k hk => ih k hk (sound_kid hs hk)
    rw [made_nd]
    unfold become
    intro h
    rw [atomIn_nd]
    rcases ks with _ | ⟨a, _ | ⟨b, _ | ⟨c, r⟩⟩⟩
    · have e : kidsOf x.op = 0 := by simpa using hk.symm
      have e3 : x.op = 1 ∨ x.op = 2 ∨ x.op = 3 := by have := kids_0 e; omega
      unfold become2 at h
      rw [if_pos e3, atomIn_nd] at h
      simpa using h
    · right
      refine ⟨a, by simp, ih2 a (by simp) ?_⟩
      have e : kidsOf x.op = 1 := by simpa using hk.symm
      have e3 : x.op = 4 ∨ x.op = 9 ∨ x.op = 10 := kids_1 e
      simp only [List.map_cons, List.map_nil, List.headD_cons, List.tail_cons, List.headD_nil] at h
      unfold become2 at h
      rcases e3 with e3 | e3 | e3
      · simp [e3] at h; exact at_not h
      · simp [e3] at h; exact at_ev h
      · simp [e3] at h; exact at_not (at_ev (at_not h))
    · right
      suffices atomIn s (made a) ∨ atomIn s (made b) from by
        rcases this with h | h
        · exact ⟨a, by simp, ih2 a (by simp) h⟩
        · exact ⟨b, by simp, ih2 b (by simp) h⟩
      have e : kidsOf x.op = 2 := by simpa using hk.symm
      have e3 : x.op = 5 ∨ x.op = 6 ∨ x.op = 7 ∨ x.op = 8 ∨ x.op = 11 ∨ x.op = 12 := by have := kids_2 e; omega
      simp only [List.map_cons, List.map_nil, List.headD_cons, List.tail_cons] at h
      unfold become2 at h
      rcases e3 with e3 | e3 | e3 | e3 | e3 | e3
      · simp [e3] at h; exact at_and h
      · simp [e3] at h; exact (at_and (at_not h)).imp at_not at_not
      · simp [e3] at h; exact (at_and (at_not h)).imp id at_not
      · simp [e3] at h; exact at_iff h
      · simp [e3] at h; exact at_un h
      · simp [e3] at h; exact (at_un (at_not h)).imp at_not at_not
    · exfalso
      have := kids_le2 x.op
      simp at hk
      omega

theorem namesOf_mem {f : Fm} (h : sound f) (x : Nm) : x ∈ namesOf f ↔ atomIn x f := by
  unfold namesOf
  rw [if_pos ((first_zero f).2 h), namesL_mem]
  rfl

theorem namesOf_rises (f : Fm) : Rises (namesOf f) := by
  unfold namesOf
  split
  · exact namesL_rises _
  · exact List.Pairwise.nil

theorem names_made {f : Fm} (h : sound f) (x : Nm) (hx : x ∈ namesOf (normOf f)) : x ∈ namesOf f := by
  rw [normOf_sound h] at hx
  rw [namesOf_mem (made_nf f h).sound] at hx
  exact (namesOf_mem h x).2 (at_made f h hx)

/-- One step of finding the one list's names in the other one. -/
theorem seek_step {l m : List Nm} {i k : Nat} {x y : Nm} (hl : Rises l) (hm : Rises m) (h : ∀ z, z ∈ m.drop k → z ∈ l.drop i) (hx : l[i]? = some x) (hy : m[k]? = some y) : ∀ z, z ∈ m.drop (if x = y then k + 1 else k) → z ∈ l.drop (i + 1) := by
  have hi : i < l.length := by
    rcases Nat.lt_or_ge i l.length with h' | h'
    · exact h'
    · rw [List.getElem?_eq_none h'] at hx; cases hx
  have hk : k < m.length := by
    rcases Nat.lt_or_ge k m.length with h' | h'
    · exact h'
    · rw [List.getElem?_eq_none h'] at hy; cases hy
  rw [List.getElem?_eq_getElem hi] at hx
  rw [List.getElem?_eq_getElem hk] at hy
  obtain rfl := Option.some.inj hx
  obtain rfl := Option.some.inj hy
  rw [List.drop_eq_getElem_cons hi, List.drop_eq_getElem_cons hk] at h
  have hm2 : Rises (m.drop k) := List.Pairwise.drop hm
  rw [List.drop_eq_getElem_cons hk] at hm2
  obtain ⟨m1, m2⟩ := List.pairwise_cons.1 hm2
  have hl2 : Rises (l.drop i) := List.Pairwise.drop hl
  rw [List.drop_eq_getElem_cons hi] at hl2
  obtain ⟨l1, l2⟩ := List.pairwise_cons.1 hl2
  split
  · rename_i e
    intro z hz
    have h1 := h z (List.mem_cons_of_mem _ hz)
    rcases List.mem_cons.1 h1 with rfl | h1
    · have := m1 _ hz
      rw [← e, ltN_irrefl] at this
      cases this
    · exact h1
  · rename_i e
    intro z hz
    rw [List.drop_eq_getElem_cons hk] at hz
    have h0 : m[k] ∈ l.drop (i + 1) := by
      rcases List.mem_cons.1 (h m[k] List.mem_cons_self) with h' | h'
      · exact absurd h'.symm e
      · exact h'
    rcases List.mem_cons.1 (h z hz) with rfl | h1
    · exfalso
      have h3 := l1 _ h0
      rcases List.mem_cons.1 hz with h4 | h4
      · exact e h4
      · have := ltN_trans h3 (m1 _ h4)
        rw [ltN_irrefl] at this
        cases this
    · exact h1

end Go.Proofs.YtnpcakakjhiboaaDoor
