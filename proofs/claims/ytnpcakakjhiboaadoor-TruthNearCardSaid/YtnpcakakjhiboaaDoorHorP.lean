/- How far a formula looks ahead, its names, how deep its spans are nested: in plain Lean. No condition. -/
import Derived.Test.YtnpcakakjhiboaaDoorNfP
namespace Go.Proofs.YtnpcakakjhiboaaDoor

def top63 : Int := 9223372036854775807
/-- A sum of numbers from 0 up, cut at the end. -/
def addCut (a b : Int) : Int × Bool := if top63 < a + b then (top63, true) else (a + b, false)

/-- The greatest one, and whether any is cut. -/
def maxCut (l : List (Int × Bool)) : Int × Bool := l.foldl (fun x p => (max x.1 p.1, x.2 || p.2)) (0, false)

def farN (n : Nd) (l : List (Int × Bool)) : Int × Bool := if 9 ≤ n.op then ((addCut (maxCut l).1 n.hi).1, (maxCut l).2 || (addCut (maxCut l).1 n.hi).2) else maxCut l
/-- How far, as it is reckoned. -/
def far : Fm → Int × Bool := Tr.cata farN

theorem far_nd (n : Nd) (ks : List Fm) : far (.nd n ks) = farN n (ks.map far) := by
  show Tr.cata _ _ = _
  rw [Tr.cata, Tr.cataL_eq]
  rfl

def maxI (l : List Int) : Int := l.foldl max 0

/-- How far, whatever it comes to. -/
def hz : Fm → Int := Tr.cata fun n l => if 9 ≤ n.op then maxI l + n.hi else maxI l

theorem hz_nd (n : Nd) (ks : List Fm) : hz (.nd n ks) = if 9 ≤ n.op then maxI (ks.map hz) + n.hi else maxI (ks.map hz) := by
  show Tr.cata _ _ = _
  rw [Tr.cata, Tr.cataL_eq]
  rfl

theorem maxI_0 : maxI [] = 0 := rfl
theorem maxI_1 (a : Int) : maxI [a] = max 0 a := rfl
theorem maxI_2 (a b : Int) : maxI [a, b] = max (max 0 a) b := rfl

theorem foldl_max_le (l : List Int) : ∀ m : Int, m ≤ l.foldl max m ∧ (∀ x, x ∈ l → x ≤ l.foldl max m) := by
  induction l with
  | nil => intro m; simp
  | cons a l ih =>
    intro m
    obtain ⟨h1, h2⟩ := ih (max m a)
    simp only [List.foldl_cons, List.mem_cons]
    refine ⟨by omega, ?_⟩
    rintro x (rfl | hx)
    · omega
    · exact h2 x hx

theorem maxI_nonneg (l : List Int) : 0 ≤ maxI l := (foldl_max_le l 0).1
theorem maxI_le {l : List Int} {x : Int} (h : x ∈ l) : x ≤ maxI l := (foldl_max_le l 0).2 x h

theorem foldl_max_mem (l : List Int) : ∀ m : Int, l.foldl max m = m ∨ l.foldl max m ∈ l := by
  induction l with
  | nil => intro m; simp
  | cons a l ih =>
    intro m
    simp only [List.foldl_cons, List.mem_cons]
    rcases ih (max m a) with h | h
    · rw [h]; omega
    · exact .inr (.inr h)

theorem sound_hi {n : Nd} {ks : List Fm} (h : wrong (.nd n ks) = 0) : 0 ≤ n.hi := by
  by_cases h9 : 9 ≤ n.op
  · have := wrong_span h h9; omega
  · obtain ⟨-, -, -, -, h2⟩ := wrong_zero h
    have := h2 (by omega)
    omega

theorem hz_nonneg (f : Fm) : sound f → 0 ≤ hz f := by
  cases f with
  | nd n ks =>
    intro h
    have h1 := sound_hi (sound_top h)
    have h2 := maxI_nonneg (ks.map hz)
    rw [hz_nd]
    split <;> omega

theorem maxCut_eq (l : List Int) (hl : ∀ x, x ∈ l → 0 ≤ x) : maxCut (l.map fun x => (min x top63, decide (top63 < x))) = (min (maxI l) top63, decide (top63 < maxI l)) := by
  suffices ∀ m : Int, 0 ≤ m → (l.map fun x => (min x top63, decide (top63 < x))).foldl (fun x p => (max x.1 p.1, x.2 || p.2)) (min m top63, decide (top63 < m)) = (min (l.foldl max m) top63, decide (top63 < l.foldl max m)) from by
    have := this 0 (Int.le_refl _)
    have e : (min (0 : Int) top63, decide (top63 < (0 : Int))) = ((0 : Int), false) := by decide
    rw [e] at this
    exact this
  induction l with
  | nil => intro m _; rfl
  | cons a l ih =>
    intro m hm
    have ha := hl a (by simp)
    simp only [List.map_cons, List.foldl_cons]
    have e : (max (min m top63) (min a top63), decide (top63 < m) || decide (top63 < a)) = (min (max m a) top63, decide (top63 < max m a)) := by
      have e1 : max (min m top63) (min a top63) = min (max m a) top63 := by omega
      have e2 : (decide (top63 < m) || decide (top63 < a)) = decide (top63 < max m a) := by
        rw [Bool.eq_iff_iff]
        simp only [Bool.or_eq_true, decide_eq_true_eq]
        omega
      rw [e1, e2]
    rw [e]
    exact ih (fun x hx => hl x (by simp [hx])) _ (by omega)

theorem far_eq (f : Fm) : sound f → far f = (min (hz f) top63, decide (top63 < hz f)) := by
  induction f using Tr.ind with
  | h n ks ih =>
    intro h
    have h1 := sound_hi (sound_top h)
    have e : ks.map far = (ks.map hz).map fun x => (min x top63, decide (top63 < x)) := by
      rw [List.map_map]
      exact List.map_congr_left fun k hk => ih k hk (sound_kid h hk)
    have h2 := maxI_nonneg (ks.map hz)
    rw [far_nd, hz_nd, e]
    unfold farN
    rw [maxCut_eq _ (fun x hx => by obtain ⟨k, hk, rfl⟩ := List.mem_map.1 hx; exact hz_nonneg k (sound_kid h hk))]
    split
    · simp only [addCut]
      generalize maxI (ks.map hz) = m at *
      have t0 : (0 : Int) ≤ top63 := by decide
      by_cases h3 : top63 < m
      · have c1 : min m top63 = top63 := by omega
        have c2 : min (m + n.hi) top63 = top63 := by omega
        have c3 : top63 < m + n.hi := by omega
        rw [c1, c2]
        split <;> simp [h3, c3] <;> omega
      · have c1 : min m top63 = m := by omega
        rw [c1]
        split
        · rename_i c
          simp [h3, c]; omega
        · rename_i c
          simp [h3, c]; omega
    · rfl

/-! What a formula becomes looks no further. -/

theorem hz_leaf (op : Int) (h : op = 1 ∨ op = 2) : hz (leaf op) = 0 := by
  unfold leaf; rw [hz_nd]; rcases h with rfl | rfl <;> simp [maxI]

theorem hz_kid_le {n : Nd} {ks : List Fm} (h : wrong (.nd n ks) = 0) {k : Fm} (hk : k ∈ ks) : hz k ≤ hz (.nd n ks) := by
  have h1 := sound_hi h
  have h2 := maxI_le (List.mem_map_of_mem (f := hz) hk)
  rw [hz_nd]
  split <;> omega

theorem hz_not {x : Fm} (h : Nf x) : hz (nNot x) ≤ hz x := by
  have h0 := hz_nonneg x h.sound
  unfold nNot
  split
  · rw [hz_leaf 2 (.inr rfl)]; exact h0
  split
  · rw [hz_leaf 1 (.inl rfl)]; exact h0
  split
  · rename_i h4
    rcases x with ⟨x, _ | ⟨a, r⟩⟩
    · have := h.own.2; simp only [okNode] at this; simp only [Tr.top] at h4; omega
    · exact hz_kid_le h.own.1 (k := a) (by simp)
  · unfold nd1
    rw [hz_nd]
    simp [maxI]
    omega

theorem hz_and {x y : Fm} (hx : Nf x) (hy : Nf y) : hz (nAnd x y) ≤ max (hz x) (hz y) := by
  have h1 := hz_nonneg x hx.sound
  have h2 := hz_nonneg y hy.sound
  unfold nAnd
  split
  · rw [hz_leaf 2 (.inr rfl)]; omega
  split
  · omega
  split
  · omega
  · unfold nd2
    rw [hz_nd]
    simp [maxI]
    omega

theorem hz_iff {x y : Fm} (hx : Nf x) (hy : Nf y) : hz (nIff x y) ≤ max (hz x) (hz y) := by
  have h1 := hz_nonneg x hx.sound
  have h2 := hz_nonneg y hy.sound
  have h3 := hz_not hx
  have h4 := hz_not hy
  unfold nIff
  split
  · rw [hz_leaf 1 (.inl rfl)]; omega
  split
  · omega
  split
  · omega
  split
  · omega
  split
  · omega
  · unfold nd2
    rw [hz_nd]
    simp [maxI]
    omega

theorem hz_ev {x : Fm} {lo hi : Int} (hx : Nf x) (hh : 0 ≤ hi) : hz (nEv lo hi x) ≤ hz x + hi := by
  have h1 := hz_nonneg x hx.sound
  unfold nEv
  split
  · rw [hz_leaf 2 (.inr rfl)]; omega
  split
  · rw [hz_leaf 1 (.inl rfl)]; omega
  · rw [hz_nd]
    simp [maxI]
    omega

theorem hz_un {x y : Fm} {lo hi : Int} (hx : Nf x) (hy : Nf y) (hh : 0 ≤ hi) : hz (nUn lo hi x y) ≤ max (hz x) (hz y) + hi := by
  have h1 := hz_nonneg x hx.sound
  have h2 := hz_nonneg y hy.sound
  have h3 := hz_ev (lo := lo) hy hh
  unfold nUn
  split
  · rw [hz_leaf 2 (.inr rfl)]; omega
  split
  · omega
  split
  · rw [hz_leaf 2 (.inr rfl)]; omega
  split
  · omega
  split
  · rw [hz_leaf 1 (.inl rfl)]; omega
  · rw [hz_nd]
    simp [maxI]
    omega

theorem hz_made (f : Fm) : sound f → hz (made f) ≤ hz f := by
  induction f using Tr.ind with
  | h x ks ih =>
    intro hs
    have hw := sound_top hs
    obtain ⟨h1, h12, hk, -, -⟩ := wrong_zero hw
    have ih2 : ∀ k, k ∈ ks → hz (made k) ≤ hz k := fun k hk => ih k hk (sound_kid hs hk)
    have hn : ∀ k, k ∈ ks → Nf (made k) := fun k hk => made_nf k (sound_kid hs hk)
    have h0 : ∀ k, k ∈ ks → 0 ≤ hz k := fun k hk => hz_nonneg k (sound_kid hs hk)
    have hsp := wrong_span hw
    have hz0 := hz_nonneg _ hs
    rw [made_nd]
    unfold become
    rcases ks with _ | ⟨a, _ | ⟨b, _ | ⟨c, r⟩⟩⟩
    · have e : kidsOf x.op = 0 := by simpa using hk.symm
      have e3 : x.op = 1 ∨ x.op = 2 ∨ x.op = 3 := by have := kids_0 e; omega
      unfold become2
      rw [if_pos e3, hz_nd]
      simp only [List.map_nil, maxI_0]
      split <;> omega
    · have ha := hn a (by simp)
      have ea := ih2 a (by simp)
      have a0 := h0 a (by simp)
      have e : kidsOf x.op = 1 := by simpa using hk.symm
      have e3 : x.op = 4 ∨ x.op = 9 ∨ x.op = 10 := kids_1 e
      simp only [List.map_cons, List.map_nil, List.headD_cons, List.tail_cons, List.headD_nil]
      rw [hz_nd]
      simp only [List.map_cons, List.map_nil, maxI_1]
      unfold become2
      rcases e3 with e3 | e3 | e3
      · have := hz_not ha
        simp [e3]
        omega
      · obtain ⟨s1, s2⟩ := hsp (by omega)
        have := hz_ev (lo := x.lo) (hi := x.hi) ha (by omega)
        simp [e3]
        omega
      · obtain ⟨s1, s2⟩ := hsp (by omega)
        have q1 := hz_not ha
        have q2 := hz_ev (lo := x.lo) (hi := x.hi) ha.not (by omega)
        have q3 := hz_not (ha.not.ev s1 s2)
        simp [e3]
        omega
    · have ha := hn a (by simp)
      have hb := hn b (by simp)
      have ea := ih2 a (by simp)
      have eb := ih2 b (by simp)
      have a0 := h0 a (by simp)
      have b0 := h0 b (by simp)
      have e : kidsOf x.op = 2 := by simpa using hk.symm
      have e3 : x.op = 5 ∨ x.op = 6 ∨ x.op = 7 ∨ x.op = 8 ∨ x.op = 11 ∨ x.op = 12 := by have := kids_2 e; omega
      simp only [List.map_cons, List.map_nil, List.headD_cons, List.tail_cons]
      rw [hz_nd]
      simp only [List.map_cons, List.map_nil, maxI_2]
      unfold become2
      have q1 := hz_not ha
      have q2 := hz_not hb
      rcases e3 with e3 | e3 | e3 | e3 | e3 | e3
      · have := hz_and ha hb
        simp [e3]; omega
      · have q3 := hz_and ha.not hb.not
        have q4 := hz_not (ha.not.and hb.not)
        simp [e3]; omega
      · have q3 := hz_and ha hb.not
        have q4 := hz_not (ha.and hb.not)
        simp [e3]; omega
      · have := hz_iff ha hb
        simp [e3]; omega
      · obtain ⟨s1, s2⟩ := hsp (by omega)
        have := hz_un (lo := x.lo) (hi := x.hi) ha hb (by omega)
        simp [e3]; omega
      · obtain ⟨s1, s2⟩ := hsp (by omega)
        have q3 := hz_un (lo := x.lo) (hi := x.hi) ha.not hb.not (by omega)
        have q4 := hz_not (ha.not.un hb.not s1 s2)
        simp [e3]; omega
    · exfalso
      have := kids_le2 x.op
      simp at hk
      omega

/-! How deep spans are nested: the same with 1 for each span. -/

/-- A formula whose spans all end at 1. -/
def nested (f : Fm) : Int := hz (Tr.map (fun n => { n with hi := 1 }) f)

theorem nested_nd (n : Nd) (ks : List Fm) : nested (.nd n ks) = if 9 ≤ n.op then maxI (ks.map nested) + 1 else maxI (ks.map nested) := by
  unfold nested
  rw [Tr.map, hz_nd, Tr.mapL_eq, List.map_map]
  rfl

theorem nested_nonneg (f : Fm) : 0 ≤ nested f := by
  cases f with
  | nd n ks =>
    have h2 := maxI_nonneg (ks.map nested)
    rw [nested_nd]
    split <;> omega

theorem ns_leaf (op : Int) (h : op = 1 ∨ op = 2) : nested (leaf op) = 0 := by
  unfold leaf; rw [nested_nd]; rcases h with rfl | rfl <;> simp [maxI]

theorem ns_kid_le {n : Nd} {ks : List Fm} {k : Fm} (hk : k ∈ ks) : nested k ≤ nested (.nd n ks) := by
  have h2 := maxI_le (List.mem_map_of_mem (f := nested) hk)
  rw [nested_nd]
  split <;> omega

theorem ns_not {x : Fm} (h : Nf x) : nested (nNot x) ≤ nested x := by
  have h0 := nested_nonneg x
  unfold nNot
  split
  · rw [ns_leaf 2 (.inr rfl)]; exact h0
  split
  · rw [ns_leaf 1 (.inl rfl)]; exact h0
  split
  · rename_i h4
    rcases x with ⟨x, _ | ⟨a, r⟩⟩
    · have := h.own.2; simp only [okNode] at this; simp only [Tr.top] at h4; omega
    · exact ns_kid_le (k := a) (by simp)
  · unfold nd1
    rw [nested_nd]
    simp [maxI]
    omega

theorem ns_and {x y : Fm} : nested (nAnd x y) ≤ max (nested x) (nested y) := by
  have h1 := nested_nonneg x
  have h2 := nested_nonneg y
  unfold nAnd
  split
  · rw [ns_leaf 2 (.inr rfl)]; omega
  split
  · omega
  split
  · omega
  · unfold nd2
    rw [nested_nd]
    simp [maxI]
    omega

theorem ns_iff {x y : Fm} (hx : Nf x) (hy : Nf y) : nested (nIff x y) ≤ max (nested x) (nested y) := by
  have h1 := nested_nonneg x
  have h2 := nested_nonneg y
  have h3 := ns_not hx
  have h4 := ns_not hy
  unfold nIff
  split
  · rw [ns_leaf 1 (.inl rfl)]; omega
  split
  · omega
  split
  · omega
  split
  · omega
  split
  · omega
  · unfold nd2
    rw [nested_nd]
    simp [maxI]
    omega

theorem ns_ev {x : Fm} {lo hi : Int} : nested (nEv lo hi x) ≤ nested x + 1 := by
  have h1 := nested_nonneg x
  unfold nEv
  split
  · rw [ns_leaf 2 (.inr rfl)]; omega
  split
  · rw [ns_leaf 1 (.inl rfl)]; omega
  · rw [nested_nd]
    simp [maxI]
    omega

theorem ns_un {x y : Fm} {lo hi : Int} : nested (nUn lo hi x y) ≤ max (nested x) (nested y) + 1 := by
  have h1 := nested_nonneg x
  have h2 := nested_nonneg y
  have h3 := ns_ev (lo := lo) (hi := hi) (x := y)
  unfold nUn
  split
  · rw [ns_leaf 2 (.inr rfl)]; omega
  split
  · omega
  split
  · rw [ns_leaf 2 (.inr rfl)]; omega
  split
  · omega
  split
  · rw [ns_leaf 1 (.inl rfl)]; omega
  · rw [nested_nd]
    simp [maxI]
    omega

theorem ns_made (f : Fm) : sound f → nested (made f) ≤ nested f := by
  induction f using Tr.ind with
  | h x ks ih =>
    intro hs
    have hw := sound_top hs
    obtain ⟨h1, h12, hk, -, -⟩ := wrong_zero hw
    have ih2 : ∀ k, k ∈ ks → nested (made k) ≤ nested k := fun k hk => ih k hk (sound_kid hs hk)
    have hn : ∀ k, k ∈ ks → Nf (made k) := fun k hk => made_nf k (sound_kid hs hk)
    have h0 : ∀ k, k ∈ ks → 0 ≤ nested k := fun k _ => nested_nonneg k
    have hz0 := nested_nonneg (.nd x ks)
    have hsp := wrong_span hw
    rw [made_nd]
    unfold become
    rcases ks with _ | ⟨a, _ | ⟨b, _ | ⟨c, r⟩⟩⟩
    · have e : kidsOf x.op = 0 := by simpa using hk.symm
      have e3 : x.op = 1 ∨ x.op = 2 ∨ x.op = 3 := by have := kids_0 e; omega
      unfold become2
      rw [if_pos e3, nested_nd]
      simp only [List.map_nil, maxI_0]
      split <;> omega
    · have ha := hn a (by simp)
      have ea := ih2 a (by simp)
      have a0 := h0 a (by simp)
      have e : kidsOf x.op = 1 := by simpa using hk.symm
      have e3 : x.op = 4 ∨ x.op = 9 ∨ x.op = 10 := kids_1 e
      simp only [List.map_cons, List.map_nil, List.headD_cons, List.tail_cons, List.headD_nil]
      rw [nested_nd]
      simp only [List.map_cons, List.map_nil, maxI_1]
      unfold become2
      rcases e3 with e3 | e3 | e3
      · have := ns_not ha
        simp [e3]
        omega
      · have := ns_ev (lo := x.lo) (hi := x.hi) (x := made a)
        simp [e3]
        omega
      · obtain ⟨s1, s2⟩ := hsp (by omega)
        have q1 := ns_not ha
        have q2 := ns_ev (lo := x.lo) (hi := x.hi) (x := nNot (made a))
        have q3 := ns_not (ha.not.ev s1 s2)
        simp [e3]
        omega
    · have ha := hn a (by simp)
      have hb := hn b (by simp)
      have ea := ih2 a (by simp)
      have eb := ih2 b (by simp)
      have a0 := h0 a (by simp)
      have b0 := h0 b (by simp)
      have e : kidsOf x.op = 2 := by simpa using hk.symm
      have e3 : x.op = 5 ∨ x.op = 6 ∨ x.op = 7 ∨ x.op = 8 ∨ x.op = 11 ∨ x.op = 12 := by have := kids_2 e; omega
      simp only [List.map_cons, List.map_nil, List.headD_cons, List.tail_cons]
      rw [nested_nd]
      simp only [List.map_cons, List.map_nil, maxI_2]
      unfold become2
      have q1 := ns_not ha
      have q2 := ns_not hb
      rcases e3 with e3 | e3 | e3 | e3 | e3 | e3
      · have := ns_and (x := made a) (y := made b)
        simp [e3]; omega
      · have q3 := ns_and (x := nNot (made a)) (y := nNot (made b))
        have q4 := ns_not (ha.not.and hb.not)
        simp [e3]; omega
      · have q3 := ns_and (x := made a) (y := nNot (made b))
        have q4 := ns_not (ha.and hb.not)
        simp [e3]; omega
      · have := ns_iff ha hb
        simp [e3]; omega
      · have := ns_un (lo := x.lo) (hi := x.hi) (x := made a) (y := made b)
        simp [e3]; omega
      · obtain ⟨s1, s2⟩ := hsp (by omega)
        have q3 := ns_un (lo := x.lo) (hi := x.hi) (x := nNot (made a)) (y := nNot (made b))
        have q4 := ns_not (ha.not.un hb.not s1 s2)
        simp [e3]; omega
    · exfalso
      have := kids_le2 x.op
      simp at hk
      omega

end Go.Proofs.YtnpcakakjhiboaaDoor
