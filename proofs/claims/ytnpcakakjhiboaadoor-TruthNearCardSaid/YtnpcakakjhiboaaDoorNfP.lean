/- What a sound formula becomes is of a form that becomes itself. No condition. The law's own example, in plain Lean. No condition. What becomes of nodes that are laid round formulas; and where True and False stand in what was made. No condition. The machine with a stack: it never lacks a kid, and each thing on it is what becomes of a node. No condition. -/
import Derived.Test.YtnpcakakjhiboaaDoorForm
import Derived.Test.YtnpcakakjhiboaaDoorMem
namespace Go.Proofs.YtnpcakakjhiboaaDoor
open Go.RowKit Go.Lo Go.WideShapes

/-- Is a kind one of those that are left? -/
def okOp (op : Int) : Prop := op = 1 ∨ op = 2 ∨ op = 3 ∨ op = 4 ∨ op = 5 ∨ op = 8 ∨ op = 9 ∨ op = 11

/-- A node that may stay, by its kids. -/
def okNode (x : Nd) : List Fm → Prop
  | [] => x.op = 1 ∨ x.op = 2 ∨ x.op = 3
  | [a] => (x.op = 4 ∧ a.top.op ≠ 1 ∧ a.top.op ≠ 2 ∧ a.top.op ≠ 4) ∨ (x.op = 9 ∧ a.top.op ≠ 2 ∧ ¬ (a.top.op = 1 ∧ x.lo = 0))
  | [a, b] => (x.op = 5 ∧ a.top.op ≠ 2 ∧ b.top.op ≠ 2 ∧ a.top.op ≠ 1 ∧ b.top.op ≠ 1 ∧ a ≠ b) ∨ (x.op = 8 ∧ a.top.op ≠ 2 ∧ b.top.op ≠ 2 ∧ a.top.op ≠ 1 ∧ b.top.op ≠ 1 ∧ a ≠ b) ∨
      (x.op = 11 ∧ b.top.op ≠ 2 ∧ a.top.op ≠ 2 ∧ a.top.op ≠ 1 ∧ ¬ (b.top.op = 1 ∧ x.lo = 0))
  | _ => False

/-- Sound, and each node may stay. -/
def Nf (f : Fm) : Prop := ∀ n, n ∈ f.pre → wrong n = 0 ∧ okNode n.top n.kids

theorem pre_nd {n : Fm} {x : Nd} {ks : List Fm} : n ∈ (Tr.nd x ks).pre ↔ n = .nd x ks ∨ ∃ k, k ∈ ks ∧ n ∈ k.pre := by
  simp only [Tr.pre, Tr.preL_eq, List.mem_cons, List.mem_flatMap]

theorem Nf.node {x : Nd} {ks : List Fm} (h : wrong (.nd x ks) = 0) (h2 : okNode x ks) (hk : ∀ k, k ∈ ks → Nf k) : Nf (.nd x ks) := by
  intro n hn
  rcases pre_nd.1 hn with rfl | ⟨k, hk', hn⟩
  · exact ⟨h, h2⟩
  · exact hk k hk' n hn

theorem Nf.kid {x : Nd} {ks : List Fm} (h : Nf (.nd x ks)) {k : Fm} (hk : k ∈ ks) : Nf k := fun n hn => h n (pre_nd.2 (.inr ⟨k, hk, hn⟩))

theorem Nf.own {x : Nd} {ks : List Fm} (h : Nf (.nd x ks)) : wrong (.nd x ks) = 0 ∧ okNode x ks := h _ (pre_nd.2 (.inl rfl))

theorem Nf.sound {f : Fm} (h : Nf f) : sound f := fun n hn => (h n hn).1

theorem bytes_nil : (⟨#[]⟩ : ByteArray).toList = [] := by rw [ByteArray.toList_eq]

theorem leaf_wrong {op : Int} (h : op = 1 ∨ op = 2) : wrong (leaf op) = 0 := by
  rcases h with rfl | rfl <;> simp [wrong, leaf, Tr.top, Tr.kids, kidsOf, z0]

theorem Nf.leaf {op : Int} (h : op = 1 ∨ op = 2) : Nf (leaf op) := Nf.node (leaf_wrong h) (by rcases h with rfl | rfl <;> simp [okNode]) (by simp)

theorem wrong_one {op : Int} {x : Fm} (h : op = 4) : wrong (nd1 op x) = 0 := by subst h; simp [wrong, nd1, Tr.top, Tr.kids, kidsOf, z0]
theorem wrong_two {op : Int} {x y : Fm} (h : op = 5 ∨ op = 6 ∨ op = 7 ∨ op = 8) : wrong (nd2 op x y) = 0 := by
  rcases h with rfl | rfl | rfl | rfl <;> simp [wrong, nd2, Tr.top, Tr.kids, kidsOf, z0]
theorem wrong_span1 {op lo hi : Int} {x : Fm} (h : op = 9 ∨ op = 10) (h1 : 0 ≤ lo) (h2 : lo ≤ hi) : wrong (.nd { z0 with op := op, lo := lo, hi := hi } [x]) = 0 := by
  rcases h with rfl | rfl <;> simp [wrong, Tr.top, Tr.kids, kidsOf, z0, h1, h2]
theorem wrong_span2 {op lo hi : Int} {x y : Fm} (h : op = 11 ∨ op = 12) (h1 : 0 ≤ lo) (h2 : lo ≤ hi) : wrong (.nd { z0 with op := op, lo := lo, hi := hi } [x, y]) = 0 := by
  rcases h with rfl | rfl <;> simp [wrong, Tr.top, Tr.kids, kidsOf, z0, h1, h2]

theorem kid0_nd {x : Nd} {a : Fm} {r : List Fm} : kid0 (.nd x (a :: r)) = a := rfl

theorem Nf.not {x : Fm} (h : Nf x) : Nf (nNot x) := by
  unfold nNot
  split
  · exact Nf.leaf (.inr rfl)
  split
  · exact Nf.leaf (.inl rfl)
  split
  · rename_i h4
    rcases x with ⟨x, _ | ⟨a, r⟩⟩
    · have := h.own.2; simp only [okNode] at this; simp only [Tr.top] at h4; omega
    · exact h.kid (k := a) (by simp)
  · rename_i h1 h2 h4
    exact Nf.node (wrong_one rfl) (.inl ⟨rfl, h1, h2, h4⟩) (by simpa using h)

theorem Nf.and {x y : Fm} (hx : Nf x) (hy : Nf y) : Nf (nAnd x y) := by
  unfold nAnd
  split
  · exact Nf.leaf (.inr rfl)
  split
  · exact hy
  split
  · exact hx
  · rename_i h1 h2 h3
    refine Nf.node (wrong_two (.inl rfl)) (.inl ⟨rfl, fun h => h1 (.inl h), fun h => h1 (.inr h), h2, fun h => h3 (.inl h), fun h => h3 (.inr ?_)⟩) (by intro k hk; simp at hk; rcases hk with rfl | rfl <;> assumption)
    rw [h]; exact same_self _

theorem Nf.iff {x y : Fm} (hx : Nf x) (hy : Nf y) : Nf (nIff x y) := by
  unfold nIff
  split
  · exact Nf.leaf (.inl rfl)
  split
  · exact hy
  split
  · exact hx
  split
  · exact hy.not
  split
  · exact hx.not
  · rename_i h0 h1 h2 h3 h4
    refine Nf.node (wrong_two (.inr (.inr (.inr rfl)))) (.inr (.inl ⟨rfl, h3, h4, h1, h2, fun h => h0 ?_⟩)) (by intro k hk; simp at hk; rcases hk with rfl | rfl <;> assumption)
    rw [h]; exact same_self _

theorem Nf.ev {x : Fm} {lo hi : Int} (hx : Nf x) (h1 : 0 ≤ lo) (h2 : lo ≤ hi) : Nf (nEv lo hi x) := by
  unfold nEv
  split
  · exact Nf.leaf (.inr rfl)
  split
  · exact Nf.leaf (.inl rfl)
  · rename_i h3 h4
    exact Nf.node (wrong_span1 (.inl rfl) h1 h2) (.inr ⟨rfl, h3, h4⟩) (by simpa using hx)

theorem Nf.un {x y : Fm} {lo hi : Int} (hx : Nf x) (hy : Nf y) (h1 : 0 ≤ lo) (h2 : lo ≤ hi) : Nf (nUn lo hi x y) := by
  unfold nUn
  split
  · exact Nf.leaf (.inr rfl)
  split
  · exact hy
  split
  · exact Nf.leaf (.inr rfl)
  split
  · exact hy.ev h1 h2
  split
  · exact Nf.leaf (.inl rfl)
  · rename_i a1 a2 a3 a4 a5
    exact Nf.node (wrong_span2 (.inl rfl) h1 h2) (.inr (.inr ⟨rfl, a1, a3, a4, a5⟩)) (by intro k hk; simp at hk; rcases hk with rfl | rfl <;> assumption)

theorem Nf.atom {x : Nd} (h : wrong (.nd x []) = 0) : Nf (.nd x []) := by
  obtain ⟨h1, h12, hk, -, -⟩ := wrong_zero h
  refine Nf.node h ?_ (by simp)
  have e : kidsOf x.op = 0 := by simpa using hk.symm
  unfold kidsOf at e
  simp only [okNode]
  split at e
  · omega
  · split at e <;> omega

/-- The span of a node that may be. -/
theorem wrong_span {x : Nd} {ks : List Fm} (h : wrong (.nd x ks) = 0) (h9 : 9 ≤ x.op) : 0 ≤ x.lo ∧ x.lo ≤ x.hi := by
  have e : wrong (.nd x ks) = if x.op < 1 ∨ 12 < x.op ∨ ks.length ≠ kidsOf x.op then 1
      else if x.op ≠ 3 ∧ ¬ (x.nm.toList = [] ∧ x.cmp = 0 ∧ x.val = 0) then 1
      else if x.op < 9 ∧ ¬ (x.lo = 0 ∧ x.hi = 0) then 1
      else if x.op = 3 ∧ (x.cmp < 0 ∨ 6 < x.cmp ∨ x.cmp = 0 ∧ x.val ≠ 0) then 1
      else if x.op = 3 ∧ isName x.nm = false then 21
      else if 9 ≤ x.op ∧ ¬ (0 ≤ x.lo ∧ x.lo ≤ x.hi) then 24
      else 0 := rfl
  rw [e] at h
  clear e
  split at h
  · exact absurd h (by decide)
  split at h
  · exact absurd h (by decide)
  split at h
  · exact absurd h (by decide)
  split at h
  · exact absurd h (by decide)
  split at h
  · exact absurd h (by decide)
  split at h
  · exact absurd h (by decide)
  · rename_i h6
    by_cases h7 : 0 ≤ x.lo ∧ x.lo ≤ x.hi
    · exact h7
    · exact absurd ⟨h9, h7⟩ h6

theorem leaf_nd {x : Nd} {ks : List Fm} (h : wrong (.nd x ks) = 0) (h3 : x.op = 1 ∨ x.op = 2 ∨ x.op = 3) : ks = [] ∧ x.lo = 0 ∧ x.hi = 0 := by
  obtain ⟨-, -, hk, -, h9⟩ := wrong_zero h
  have e : kidsOf x.op = 0 := by unfold kidsOf; rw [if_pos (by omega)]
  rw [e] at hk
  exact ⟨List.eq_nil_of_length_eq_zero hk, h9 (by omega)⟩

theorem nm_nil {s : ByteArray} (h : s.toList = []) : s = ⟨#[]⟩ := by
  rw [ByteArray.toList_eq] at h
  cases s with
  | mk d => simp at h; subst h; rfl

/-- A node with nothing but its kind and its span. -/
theorem nd_z0 {x : Nd} {ks : List Fm} (h : wrong (.nd x ks) = 0) (h3 : x.op ≠ 3) : x = { z0 with op := x.op, lo := x.lo, hi := x.hi } := by
  obtain ⟨-, -, -, h4, -⟩ := wrong_zero h
  obtain ⟨a, b, c⟩ := h4 h3
  have := nm_nil a
  cases x
  simp only at this a b c
  subst this b c
  rfl

/-- What a sound one becomes. -/
theorem made_nf (f : Fm) : sound f → Nf (made f) := by
  induction f using Tr.ind with
  | h x ks ih =>
    intro hs
    have hw := sound_top hs
    obtain ⟨h1, h12, hk, -, -⟩ := wrong_zero hw
    have ih2 : ∀ k, k ∈ ks → Nf (made k) := fun k hk => ih k hk (sound_kid hs hk)
    have hsp := wrong_span hw
    rw [made_nd]
    have hA := headD_mem (l := ks.map made) (p := fun m => Nf m ∨ m = leaf 0) (fun m hm => by
      obtain ⟨k, hk, rfl⟩ := List.mem_map.1 hm
      exact .inl (ih2 k hk)) (.inr rfl)
    unfold become
    rcases ks with _ | ⟨a, _ | ⟨b, _ | ⟨c, r⟩⟩⟩
    · have e : kidsOf x.op = 0 := by simpa using hk.symm
      have e3 : x.op = 1 ∨ x.op = 2 ∨ x.op = 3 := by have := kids_0 e; omega
      obtain ⟨-, l1, l2⟩ := leaf_nd hw e3
      unfold become2
      rw [if_pos e3]
      have : { x with lo := 0, hi := 0 } = x := by cases x; simp only at l1 l2; subst l1 l2; rfl
      rw [this]
      exact Nf.atom hw
    · have ha := ih2 a (by simp)
      have e : kidsOf x.op = 1 := by simpa using hk.symm
      have e3 : x.op = 4 ∨ x.op = 9 ∨ x.op = 10 := kids_1 e
      simp only [List.map_cons, List.map_nil, List.headD_cons, List.tail_cons, List.headD_nil]
      unfold become2
      rcases e3 with e3 | e3 | e3
      · simp only [e3, show ¬ ((4 : Int) = 1 ∨ (4 : Int) = 2 ∨ (4 : Int) = 3) by decide, if_false, if_true]
        exact ha.not
      · obtain ⟨s1, s2⟩ := hsp (by omega)
        simp [e3]
        exact ha.ev s1 s2
      · obtain ⟨s1, s2⟩ := hsp (by omega)
        simp [e3]
        exact (ha.not.ev s1 s2).not
    · have ha := ih2 a (by simp)
      have hb := ih2 b (by simp)
      have e : kidsOf x.op = 2 := by simpa using hk.symm
      have e3 : x.op = 5 ∨ x.op = 6 ∨ x.op = 7 ∨ x.op = 8 ∨ x.op = 11 ∨ x.op = 12 := by have := kids_2 e; omega
      simp only [List.map_cons, List.map_nil, List.headD_cons, List.tail_cons]
      unfold become2
      rcases e3 with e3 | e3 | e3 | e3 | e3 | e3
      · simp [e3]; exact ha.and hb
      · simp [e3]; exact (ha.not.and hb.not).not
      · simp [e3]; exact (ha.and hb.not).not
      · simp [e3]; exact ha.iff hb
      · obtain ⟨s1, s2⟩ := hsp (by omega)
        simp [e3]; exact ha.un hb s1 s2
      · obtain ⟨s1, s2⟩ := hsp (by omega)
        simp [e3]; exact (ha.not.un hb.not s1 s2).not
    · exfalso
      have := kids_le2 x.op
      simp at hk
      omega

/-- It becomes itself. -/
theorem Nf.made {f : Fm} : Nf f → made f = f := by
  induction f using Tr.ind with
  | h x ks ih =>
    intro h
    have ih2 : ∀ k, k ∈ ks → Go.Proofs.YtnpcakakjhiboaaDoor.made k = k := fun k hk => ih k hk (h.kid hk)
    have e : ks.map Go.Proofs.YtnpcakakjhiboaaDoor.made = ks := by
      conv => rhs; rw [← List.map_id ks]
      exact List.map_congr_left ih2
    obtain ⟨hw, ho⟩ := h.own
    rw [made_nd, e]
    unfold become
    rcases ks with _ | ⟨a, _ | ⟨b, _ | ⟨c, r⟩⟩⟩
    · obtain ⟨-, l1, l2⟩ := leaf_nd hw ho
      simp only [okNode] at ho
      unfold become2
      rw [if_pos ho]
      have : { x with lo := 0, hi := 0 } = x := by cases x; simp only at l1 l2; subst l1 l2; rfl
      rw [this]
    · simp only [List.headD_cons, List.tail_cons, List.headD_nil]
      simp only [okNode] at ho
      have hz := nd_z0 hw (by omega)
      obtain ⟨-, -, -, -, h9⟩ := wrong_zero hw
      unfold become2
      rcases ho with ⟨h4, k1, k2, k4⟩ | ⟨h4, k1, k2⟩
      · obtain ⟨l1, l2⟩ := h9 (by omega)
        rw [h4, l1, l2] at hz
        simp [h4, nNot, k1, k2, k4, nd1]
        rw [hz]
        rfl
      · rw [h4] at hz
        simp [h4, nEv, k1, k2]
        rw [← hz]
    · simp only [List.headD_cons, List.tail_cons]
      simp only [okNode] at ho
      have hz := nd_z0 hw (by omega)
      obtain ⟨-, -, -, -, h9⟩ := wrong_zero hw
      unfold become2
      rcases ho with ⟨h4, k1, k2, k3, k4, k5⟩ | ⟨h4, k1, k2, k3, k4, k5⟩ | ⟨h4, k1, k2, k3, k4⟩
      · obtain ⟨l1, l2⟩ := h9 (by omega)
        have hs : same b a = false := by rw [Bool.eq_false_iff]; intro hh; exact k5 ((same_iff _ _).1 hh).symm
        rw [h4, l1, l2] at hz
        simp [h4, nAnd, k1, k2, k3, k4, hs, nd2]
        rw [hz]
        rfl
      · obtain ⟨l1, l2⟩ := h9 (by omega)
        have hs : same b a = false := by rw [Bool.eq_false_iff]; intro hh; exact k5 ((same_iff _ _).1 hh).symm
        rw [h4, l1, l2] at hz
        simp [h4, nIff, k1, k2, k3, k4, hs, nd2]
        rw [hz]
        rfl
      · rw [h4] at hz
        simp [h4, nUn, k1, k2, k3, k4]
        rw [← hz]
    · exact absurd ho (by simp [okNode])

theorem normOf_sound {f : Fm} (h : sound f) : normOf f = made f := by unfold normOf; rw [if_pos ((first_zero f).2 h)]

theorem normOf_nf {f : Fm} (h : sound f) : Nf (normOf f) := by rw [normOf_sound h]; exact made_nf f h

theorem normOf_twice {f : Fm} (h : sound f) : normOf (normOf f) = normOf f := by
  have := normOf_nf h
  rw [normOf_sound this.sound, this.made]

theorem Nf.core {f : Fm} (h : Nf f) : core f = true := by
  unfold Go.Proofs.YtnpcakakjhiboaaDoor.core
  rw [normOf_sound h.sound, h.made, same_self, (first_zero f).2 h.sound]
  rfl

/-- Not of not. -/
theorem Nf.nn {f : Fm} (h : Nf f) : nNot (nNot f) = f := by
  rcases f with ⟨x, ks⟩
  obtain ⟨hw, ho⟩ := h.own
  obtain ⟨-, -, -, -, h9⟩ := wrong_zero hw
  by_cases h1 : x.op = 1
  · obtain ⟨rfl, l1, l2⟩ := leaf_nd hw (.inl h1)
    have hz := nd_z0 hw (by omega)
    rw [h1, l1, l2] at hz
    rw [hz]; rfl
  by_cases h2 : x.op = 2
  · obtain ⟨rfl, l1, l2⟩ := leaf_nd hw (.inr (.inl h2))
    have hz := nd_z0 hw (by omega)
    rw [h2, l1, l2] at hz
    rw [hz]; rfl
  by_cases h4 : x.op = 4
  · have hz := nd_z0 hw (by omega)
    obtain ⟨l1, l2⟩ := h9 (by omega)
    rw [h4, l1, l2] at hz
    rcases ks with _ | ⟨a, _ | ⟨b, r⟩⟩
    · simp only [okNode] at ho; omega
    · simp only [okNode] at ho
      have : a.top.op ≠ 1 ∧ a.top.op ≠ 2 ∧ a.top.op ≠ 4 := by omega
      have e : nNot (.nd x [a]) = a := by simp [nNot, Tr.top, h4, kid0, Tr.kids]
      rw [e, nNot, if_neg this.1, if_neg this.2.1, if_neg this.2.2, nd1, hz]
      rfl
    · rcases r with _ | ⟨c, r⟩
      · simp only [okNode] at ho; omega
      · exact absurd ho (by simp [okNode])
  · have e : nNot (.nd x ks) = nd1 4 (.nd x ks) := by simp [nNot, Tr.top, h1, h2, h4]
    rw [e]
    rfl

end Go.Proofs.YtnpcakakjhiboaaDoor

namespace Go.Proofs.YtnpcakakjhiboaaDoor
open Go.RowKit Go.Lo Go.WideShapes

def exName (b : UInt8) : Fm := .nd { z0 with op := 3, nm := ⟨#[b]⟩ } []
def exOne (op lo hi : Int) (f : Fm) : Fm := .nd { z0 with op := op, lo := lo, hi := hi } [f]
def exTwo (op lo hi : Int) (f g : Fm) : Fm := .nd { z0 with op := op, lo := lo, hi := hi } [f, g]
/-- For three moments, b where a. -/
def exF : Fm := exOne 10 0 3 (exTwo 7 0 0 (exName 97) (exName 98))
def exG : Fm := exOne 4 0 0 (exOne 9 0 3 (exTwo 5 0 0 (exName 97) (exOne 4 0 0 (exName 98))))
def exH : Fm := exTwo 11 1 2 (leaf 2) (exName 97)

theorem made_exF : made exF = exG := by kernel_rfl
theorem isName_a : isName ⟨#[97]⟩ = true := by unfold isName; rw [ByteArray.toList_eq]; kernel_rfl
theorem isName_b : isName ⟨#[98]⟩ = true := by unfold isName; rw [ByteArray.toList_eq]; kernel_rfl
theorem wrong_name (b : UInt8) (h2 : isName ⟨#[b]⟩ = true) : wrong (exName b) = 0 := by
  simp [wrong, exName, Tr.top, Tr.kids, kidsOf, z0, h2]
theorem sound_exF : sound exF := by
  intro n hn
  simp only [exF, exOne, exTwo, exName, Tr.pre, Tr.preL, List.append_nil, List.mem_cons, List.not_mem_nil, or_false, List.cons_append, List.nil_append] at hn
  rcases hn with rfl | rfl | rfl | rfl
  · exact wrong_span1 (.inr rfl) (by decide) (by decide)
  · exact wrong_two (.inr (.inr (.inl rfl)))
  · exact wrong_name 97 isName_a
  · exact wrong_name 98 isName_b
theorem ops_exF : ∀ n, n ∈ exF.pre → n.top.op ≠ 0 := fun n hn h => by
  have := sound_exF n hn
  simp [wrong, h] at this
theorem normOf_exF : normOf exF = exG := by rw [normOf_sound sound_exF, made_exF]
theorem nf_exG : Nf exG := by rw [← normOf_exF]; exact normOf_nf sound_exF
theorem core_exG : core exG = true := nf_exG.core
theorem core_exF : core exF = false := by
  unfold core
  rw [normOf_exF, (first_zero _).2 sound_exF]
  rfl
theorem sound_exH : sound exH := by
  intro n hn
  simp only [exH, exTwo, exName, leaf, Tr.pre, Tr.preL, List.append_nil, List.mem_cons, List.not_mem_nil, or_false, List.cons_append, List.nil_append] at hn
  rcases hn with rfl | rfl | rfl
  · exact wrong_span2 (.inl rfl) (by decide) (by decide)
  · exact leaf_wrong (.inr rfl)
  · exact wrong_name 97 isName_a
theorem normOf_exH : normOf exH = leaf 2 := by
  rw [normOf_sound sound_exH]
  kernel_rfl
end Go.Proofs.YtnpcakakjhiboaaDoor

namespace Go.Proofs.YtnpcakakjhiboaaDoor
open Go.RowKit Go.Lo Go.WideShapes

theorem made_one4 (f : Fm) : made (exOne 4 0 0 f) = nNot (made f) := by unfold exOne; rw [made_nd]; simp [become, become2]
theorem made_one9 (lo hi : Int) (f : Fm) : made (exOne 9 lo hi f) = nEv lo hi (made f) := by unfold exOne; rw [made_nd]; simp [become, become2]
theorem made_one10 (lo hi : Int) (f : Fm) : made (exOne 10 lo hi f) = nNot (nEv lo hi (nNot (made f))) := by unfold exOne; rw [made_nd]; simp [become, become2]
theorem made_two8 (f g : Fm) : made (exTwo 8 0 0 f g) = nIff (made f) (made g) := by unfold exTwo; rw [made_nd]; simp [become, become2]
theorem made_two11 (lo hi : Int) (f g : Fm) : made (exTwo 11 lo hi f g) = nUn lo hi (made f) (made g) := by unfold exTwo; rw [made_nd]; simp [become, become2]
theorem made_two12 (lo hi : Int) (f g : Fm) : made (exTwo 12 lo hi f g) = nNot (nUn lo hi (nNot (made f)) (nNot (made g))) := by unfold exTwo; rw [made_nd]; simp [become, become2]

theorem sound_mk {x : Nd} {ks : List Fm} (h : wrong (.nd x ks) = 0) (hk : ∀ k, k ∈ ks → sound k) : sound (.nd x ks) := by
  intro n hn
  rcases pre_nd.1 hn with rfl | ⟨k, hk', hn⟩
  · exact h
  · exact hk k hk' n hn

theorem sound_one4 {f : Fm} (h : sound f) : sound (exOne 4 0 0 f) := sound_mk (wrong_one (op := 4) rfl) (by simpa using h)
theorem sound_one9 {f : Fm} {lo hi : Int} (h : sound f) (h1 : 0 ≤ lo) (h2 : lo ≤ hi) : sound (exOne 9 lo hi f) := sound_mk (wrong_span1 (.inl rfl) h1 h2) (by simpa using h)
theorem sound_one10 {f : Fm} {lo hi : Int} (h : sound f) (h1 : 0 ≤ lo) (h2 : lo ≤ hi) : sound (exOne 10 lo hi f) := sound_mk (wrong_span1 (.inr rfl) h1 h2) (by simpa using h)
theorem sound_two {f g : Fm} {op : Int} (ho : op = 5 ∨ op = 6 ∨ op = 7 ∨ op = 8) (h : sound f) (h' : sound g) : sound (exTwo op 0 0 f g) := sound_mk (wrong_two ho) (by intro k hk; simp at hk; rcases hk with rfl | rfl <;> assumption)
theorem sound_two_span {f g : Fm} {op lo hi : Int} (ho : op = 11 ∨ op = 12) (h : sound f) (h' : sound g) (h1 : 0 ≤ lo) (h2 : lo ≤ hi) : sound (exTwo op lo hi f g) := sound_mk (wrong_span2 ho h1 h2) (by intro k hk; simp at hk; rcases hk with rfl | rfl <;> assumption)

section
variable {f g : Fm} {lo hi : Int}
theorem normOf_nn (h : sound f) : normOf (exOne 4 0 0 (exOne 4 0 0 f)) = normOf f := by
  rw [normOf_sound h, normOf_sound (sound_one4 (sound_one4 h)), made_one4, made_one4, (made_nf f h).nn]
theorem normOf_iff_self (h : sound f) : normOf (exTwo 8 0 0 f f) = leaf 1 := by
  rw [normOf_sound (sound_two (.inr (.inr (.inr rfl))) h h), made_two8, nIff, if_pos (same_self _)]
theorem normOf_al (h : sound f) (h1 : 0 ≤ lo) (h2 : lo ≤ hi) : normOf (exOne 10 lo hi f) = normOf (exOne 4 0 0 (exOne 9 lo hi (exOne 4 0 0 f))) := by
  rw [normOf_sound (sound_one10 h h1 h2), normOf_sound (sound_one4 (sound_one9 (sound_one4 h) h1 h2)), made_one10, made_one4, made_one9, made_one4]
theorem normOf_re (h : sound f) (h' : sound g) (h1 : 0 ≤ lo) (h2 : lo ≤ hi) : normOf (exTwo 12 lo hi f g) = normOf (exOne 4 0 0 (exTwo 11 lo hi (exOne 4 0 0 f) (exOne 4 0 0 g))) := by
  rw [normOf_sound (sound_two_span (.inr rfl) h h' h1 h2), normOf_sound (sound_one4 (sound_two_span (.inl rfl) (sound_one4 h) (sound_one4 h') h1 h2)), made_two12, made_one4, made_two11, made_one4, made_one4]
end

theorem Nf.ops {f : Fm} (h : Nf f) : f.top.op = 1 ∨ f.top.op = 2 ∨ f.top.op = 3 ∨ f.top.op = 4 ∨ f.top.op = 5 ∨ f.top.op = 8 ∨ f.top.op = 9 ∨ f.top.op = 11 := by
  rcases f with ⟨x, _ | ⟨a, _ | ⟨b, _ | ⟨c, r⟩⟩⟩⟩
  · have := h.own.2; simp only [okNode] at this; simp only [Tr.top]; omega
  · have := h.own.2; simp only [okNode] at this; simp only [Tr.top]; omega
  · have := h.own.2; simp only [okNode] at this; simp only [Tr.top]; omega
  · exact absurd h.own.2 (by simp [okNode])

theorem normOf_op0 {f : Fm} (h : sound f) : (normOf f).top.op ≠ 0 := by have := (normOf_nf h).ops; omega

/-- May a kid stand there? -/
def bareK (x : Nd) (k : Fm) (last : Bool) : Bool :=
  !(decide (k.top.op = 2) || (decide (k.top.op = 1) && !(last && (decide (x.op = 9) || decide (x.op = 11)) && decide (0 < x.lo)))) &&
  !(decide (k.top.op = 6) || decide (k.top.op = 7) || decide (k.top.op = 10) || decide (k.top.op = 12) || (decide (k.top.op = 4) && decide (x.op = 4)))

mutual
/-- Is no True or False a node within but where it may be? -/
def bareF : Fm → Bool | .nd x ks => bareL x ks
def bareL (x : Nd) : List Fm → Bool | [] => true | k :: r => bareK x k r.isEmpty && bareF k && bareL x r
end

theorem Nf.bare {f : Fm} : Nf f → bareF f = true := by
  induction f using Tr.ind with
  | h x ks ih =>
    intro h
    obtain ⟨hw, ho⟩ := h.own
    have hsp := wrong_span hw
    have hk : ∀ k, k ∈ ks → bareF k = true := fun k hk => ih k hk (h.kid hk)
    have hop : ∀ k, k ∈ ks → k.top.op = 1 ∨ k.top.op = 2 ∨ k.top.op = 3 ∨ k.top.op = 4 ∨ k.top.op = 5 ∨ k.top.op = 8 ∨ k.top.op = 9 ∨ k.top.op = 11 := fun k hk => (h.kid hk).ops
    rcases ks with _ | ⟨a, _ | ⟨b, _ | ⟨c, r⟩⟩⟩
    · rfl
    · have a1 := hop a (by simp)
      simp only [okNode] at ho
      simp only [bareF, bareL, hk a (by simp), Bool.and_true, bareK, List.isEmpty_nil, Bool.true_and]
      rcases ho with ⟨o1, o2, o3, o4⟩ | ⟨o1, o2, o3⟩
      · have c1 : ¬ a.top.op = 6 ∧ ¬ a.top.op = 7 ∧ ¬ a.top.op = 10 ∧ ¬ a.top.op = 12 := by omega
        simp [c1, o2, o3, o4]
      · have c1 : ¬ a.top.op = 6 ∧ ¬ a.top.op = 7 ∧ ¬ a.top.op = 10 ∧ ¬ a.top.op = 12 := by omega
        have := hsp (by omega)
        by_cases e : a.top.op = 1
        · have : 0 < x.lo := by omega
          simp [e, o1, this]
        · simp [c1, o1, o2, e]
    · have a1 := hop a (by simp)
      have b1 := hop b (by simp)
      simp only [okNode] at ho
      simp only [bareF, bareL, hk a (by simp), hk b (by simp), Bool.and_true, bareK, List.isEmpty_nil, List.isEmpty_cons, Bool.true_and, Bool.false_and, Bool.not_false]
      have c1 : ¬ a.top.op = 6 ∧ ¬ a.top.op = 7 ∧ ¬ a.top.op = 10 ∧ ¬ a.top.op = 12 := by omega
      have c2 : ¬ b.top.op = 6 ∧ ¬ b.top.op = 7 ∧ ¬ b.top.op = 10 ∧ ¬ b.top.op = 12 := by omega
      rcases ho with ⟨o1, o2, o3, o4, o5, o6⟩ | ⟨o1, o2, o3, o4, o5, o6⟩ | ⟨o1, o2, o3, o4, o5⟩
      · simp [c1, c2, o1, o2, o3, o4, o5]
      · simp [c1, c2, o1, o2, o3, o4, o5]
      · have := hsp (by omega)
        by_cases e : b.top.op = 1
        · have : 0 < x.lo := by omega
          simp [e, c1, o1, o3, o4, this]
        · simp [c1, c2, o1, o2, o3, o4, e]
    · exact absurd ho (by simp [okNode])

end Go.Proofs.YtnpcakakjhiboaaDoor

namespace Go.Proofs.YtnpcakakjhiboaaDoor

namespace Tr
variable {α β : Type}

/-- The nodes go through the machine: each finds its kids, and what is put on the stack is as p tells. -/
def runOk (p : β → Prop) (f : α → List β → β) : List β → List (Tr α) → Prop
  | _, [] => True
  | M, n :: r => n.kids.length ≤ M.length ∧ p (f n.top (M.drop (M.length - n.kids.length)).reverse) ∧ runOk p f (stack f M n) r

theorem runOk_append {p : β → Prop} {f : α → List β → β} : ∀ (a b : List (Tr α)) (M : List β), runOk p f M a → runOk p f (a.foldl (stack f) M) b → runOk p f M (a ++ b)
  | [], _, _, _, h => h
  | _ :: a, b, _, h, h2 => ⟨h.1, h.2.1, runOk_append a b _ h.2.2 h2⟩

theorem run_ok {p : β → Prop} (f : α → List β → β) (t : Tr α) : (∀ s, s ∈ t.pre → p (s.cata f)) → ∀ M : List β, runOk p f M t.pre.reverse := by
  induction t using ind with
  | h x ks ih =>
    intro hp M
    have hks : (∀ k, k ∈ ks → ∀ s, s ∈ k.pre → p (s.cata f)) → ∀ M : List β, runOk p f M (preL ks).reverse ∧ (preL ks).reverse.foldl (stack f) M = M ++ (cataL f ks).reverse := by
      clear hp M
      induction ks with
      | nil => intro _ M; exact ⟨trivial, by simp [preL, cataL]⟩
      | cons k ks ih2 =>
        intro hp M
        obtain ⟨h1, h2⟩ := ih2 (fun k hk => ih k (by simp [hk])) (fun k hk => hp k (by simp [hk])) M
        simp only [preL, List.reverse_append, List.foldl_append, cataL, List.reverse_cons]
        refine ⟨runOk_append _ _ _ h1 (ih k (by simp) (hp k (by simp)) _), ?_⟩
        rw [h2, stack_run]
        simp
    obtain ⟨h1, h2⟩ := hks (fun k hk s hs => hp s (by simp only [pre, preL_eq]; exact List.mem_cons_of_mem _ (List.mem_flatMap.2 ⟨k, hk, hs⟩))) M
    simp only [pre, List.reverse_cons]
    refine runOk_append _ _ _ h1 ⟨?_, ?_, trivial⟩
    · rw [h2]; simp [kids, cataL_length]
    · have e : (M ++ (cataL f ks).reverse).length - ks.length = M.length := by simp [cataL_length]
      rw [h2]
      simp only [kids, top, e]
      have := hp (.nd x ks) (by simp [pre])
      simpa [cata] using this

end Tr

/-- A node of a sound formula is sound. -/
theorem sound_node {f : Fm} (h : sound f) {s : Fm} (hs : s ∈ f.pre) : sound s ∧ s.size ≤ f.size := by
  induction f using Tr.ind with
  | h x ks ih =>
    rcases pre_nd.1 hs with rfl | ⟨k, hk, hs⟩
    · exact ⟨h, Nat.le_refl _⟩
    · have := ih k hk (sound_kid h hk) hs
      refine ⟨this.1, ?_⟩
      have h2 := Tr.size_kid hk
      simp only [Tr.size]
      omega

/-- What stands on the machine's stack. -/
def OnStack (K : Nat) (m : Fm) : Prop := Has4 m ∧ m.size ≤ K

theorem made_run {f : Fm} (h : sound f) : Tr.runOk (OnStack (4 * f.size)) become [] f.pre.reverse ∧ f.pre.reverse.foldl (Tr.stack become) [] = [made f] := by
  refine ⟨Tr.run_ok become f (fun s hs => ⟨made_has4 s, ?_⟩) [], by rw [Tr.stack_run]; rfl⟩
  obtain ⟨h1, h2⟩ := sound_node h hs
  have := made_size s h1
  show (made s).size ≤ _
  omega

end Go.Proofs.YtnpcakakjhiboaaDoor
