/- Formulas in plain Lean: trees of nodes, and what the document says of them. No condition. What a node becomes, way by way, in plain Lean. No condition. What becomes of a formula: each Not has its kid; what the model's own cases say. No condition. What a formula becomes has four times as many nodes at most. No condition. -/
namespace Go.Proofs.YtnpcakakjhiboaaDoor

/-- A tree whose nodes bear something. -/
inductive Tr (α : Type) where
  | nd (x : α) (ks : List (Tr α))

namespace Tr
variable {α β : Type}

def top : Tr α → α | .nd x _ => x
def kids : Tr α → List (Tr α) | .nd _ ks => ks

mutual
def size : Tr α → Nat | .nd _ ks => 1 + sizeL ks
def sizeL : List (Tr α) → Nat | [] => 0 | k :: ks => k.size + sizeL ks
end

mutual
/-- The nodes, each ahead of its kids. -/
def pre : Tr α → List (Tr α) | .nd x ks => .nd x ks :: preL ks
def preL : List (Tr α) → List (Tr α) | [] => [] | k :: ks => k.pre ++ preL ks
end

mutual
/-- How many nodes stand one within another at most. -/
def deep : Tr α → Nat | .nd _ ks => deepL ks + 1
def deepL : List (Tr α) → Nat | [] => 0 | k :: ks => max k.deep (deepL ks)
end

mutual
def map (f : α → β) : Tr α → Tr β | .nd x ks => .nd (f x) (mapL f ks)
def mapL (f : α → β) : List (Tr α) → List (Tr β) | [] => [] | k :: ks => k.map f :: mapL f ks
end

theorem mapL_eq (f : α → β) (ks : List (Tr α)) : mapL f ks = ks.map (Tr.map f) := by
  induction ks with
  | nil => rfl
  | cons k ks ih => simp [mapL, ih]

theorem preL_eq (ks : List (Tr α)) : preL ks = ks.flatMap pre := by
  induction ks with
  | nil => rfl
  | cons k ks ih => simp [preL, ih]

theorem sizeL_eq (ks : List (Tr α)) : sizeL ks = (ks.map size).sum := by
  induction ks with
  | nil => rfl
  | cons k ks ih => simp [sizeL, ih]

theorem size_kid {k : Tr α} {ks : List (Tr α)} (h : k ∈ ks) : k.size ≤ sizeL ks := by
  induction ks with
  | nil => cases h
  | cons x ks ih =>
    simp only [sizeL]
    rcases List.mem_cons.1 h with rfl | h
    · omega
    · have := ih h; omega

theorem kids_le (ks : List (Tr α)) : ks.length ≤ sizeL ks := by
  induction ks with
  | nil => simp
  | cons k ks ih => cases k; simp only [sizeL, size, List.length_cons]; omega

/-- A law of each node by its kids' holds of each tree. -/
theorem ind {p : Tr α → Prop} (h : ∀ x ks, (∀ k, k ∈ ks → p k) → p (.nd x ks)) (t : Tr α) : p t := by
  suffices ∀ n (t : Tr α), t.size ≤ n → p t from this t.size t (Nat.le_refl _)
  intro n
  induction n with
  | zero => intro t ht; cases t; simp [size] at ht
  | succ n ih =>
    intro t ht
    cases t with
    | nd x ks =>
      refine h x ks fun k hk => ih k ?_
      have := size_kid hk
      simp only [size] at ht
      omega

theorem pre_length (t : Tr α) : t.pre.length = t.size := by
  induction t using ind with
  | h x ks ih =>
    simp only [pre, size, List.length_cons]
    have : (preL ks).length = sizeL ks := by
      clear x
      induction ks with
      | nil => rfl
      | cons k ks ih2 => simp only [preL, sizeL, List.length_append]; rw [ih k (by simp), ih2 (fun k hk => ih k (by simp [hk]))]
    omega

theorem map_pre (f : α → β) (t : Tr α) : (t.map f).pre = t.pre.map (Tr.map f) := by
  induction t using ind with
  | h x ks ih =>
    simp only [map, pre, List.map_cons, List.cons.injEq, true_and]
    clear x
    induction ks with
    | nil => rfl
    | cons k ks ih2 => simp only [mapL, preL, List.map_append]; rw [ih k (by simp), ih2 (fun k hk => ih k (by simp [hk]))]

theorem map_size (f : α → β) (t : Tr α) : (t.map f).size = t.size := by
  rw [← pre_length, ← pre_length, map_pre, List.length_map]

theorem map_deep (f : α → β) (t : Tr α) : (t.map f).deep = t.deep := by
  induction t using ind with
  | h x ks ih =>
    simp only [map, deep]
    congr 1
    clear x
    induction ks with
    | nil => rfl
    | cons k ks ih2 => simp only [mapL, deepL]; rw [ih k (by simp), ih2 (fun k hk => ih k (by simp [hk]))]

theorem kids_map (f : α → β) (t : Tr α) : (t.map f).kids = t.kids.map (Tr.map f) := by
  cases t; simp [map, kids, mapL_eq]

theorem top_map (f : α → β) (t : Tr α) : (t.map f).top = f t.top := by cases t; rfl

mutual
/-- What comes of a tree, node by node, of its kids'. -/
def cata (f : α → List β → β) : Tr α → β | .nd x ks => f x (cataL f ks)
def cataL (f : α → List β → β) : List (Tr α) → List β | [] => [] | k :: ks => k.cata f :: cataL f ks
end

theorem cataL_length (f : α → List β → β) (ks : List (Tr α)) : (cataL f ks).length = ks.length := by
  induction ks with
  | nil => rfl
  | cons k ks ih => simp [cataL, ih]

theorem cataL_eq (f : α → List β → β) (ks : List (Tr α)) : cataL f ks = ks.map (Tr.cata f) := by
  induction ks with
  | nil => rfl
  | cons k ks ih => simp [cataL, ih]

/-- One step of a machine with a stack: a node takes as many as it has kids, the first one's on top. -/
def stack (f : α → List β → β) (M : List β) (n : Tr α) : List β := M.take (M.length - n.kids.length) ++ [f n.top (M.drop (M.length - n.kids.length)).reverse]

/-- The nodes backwards, through the machine: what comes of the tree is on top. -/
theorem stack_run (f : α → List β → β) (t : Tr α) : ∀ M : List β, t.pre.reverse.foldl (stack f) M = M ++ [t.cata f] := by
  induction t using ind with
  | h x ks ih =>
    intro M
    have hks : ∀ M : List β, (preL ks).reverse.foldl (stack f) M = M ++ (cataL f ks).reverse := by
      clear x M
      induction ks with
      | nil => intro M; simp [preL, cataL]
      | cons k ks ih2 =>
        intro M
        simp only [preL, List.reverse_append, List.foldl_append, cataL, List.reverse_cons]
        rw [ih2 (fun k hk => ih k (by simp [hk])), ih k (by simp)]
        simp
    simp only [pre, List.reverse_cons, List.foldl_append, hks, List.foldl_cons, List.foldl_nil, cata]
    have e : (M ++ (cataL f ks).reverse).length - ks.length = M.length := by simp [cataL_length]
    simp only [stack, kids, top, e]
    simp

end Tr

/-- What a node bears: its kind; its atom's name, comparison and value; its span. -/
structure Nd where
  op : Int
  nm : ByteArray
  cmp : Int
  val : Int
  lo : Int
  hi : Int

/-- A formula. -/
abbrev Fm := Tr Nd

/-- How many kids a kind has. -/
def kidsOf (op : Int) : Nat := if op ≤ 3 then 0 else if op = 4 ∨ op = 9 ∨ op = 10 then 1 else 2

def letter (b : UInt8) : Bool := decide (97 ≤ b.toNat) && decide (b.toNat ≤ 122)
def later (b : UInt8) : Bool := (decide (48 ≤ b.toNat) && decide (b.toNat ≤ 57)) || decide (b.toNat = 95)

/-- The first k bytes are as a name's. -/
def okFrom (s : ByteArray) : Nat → Bool
  | 0 => true
  | k + 1 => okFrom s k && if h : k < s.size then letter s[k] || (decide (k ≠ 0) && later s[k]) else false

theorem okFrom_stop (s : ByteArray) (k : Nat) (h : okFrom s (k + 1) = false) : ∀ n, k < n → okFrom s n = false := by
  intro n hn
  induction n with
  | zero => omega
  | succ n ih =>
    by_cases e : k = n
    · subst e; exact h
    · simp only [okFrom, ih (by omega), Bool.false_and]

/-- Is it a name? -/
def isName (s : ByteArray) : Bool := !s.toList.isEmpty && decide (s.size ≤ 12) && !(s.toList == [116, 114, 117, 101]) && !(s.toList == [102, 97, 108, 115, 101]) && okFrom s s.size

/-- What is wrong with a node alone: 0 is nothing. -/
def wrong (f : Fm) : Int :=
  let n := f.top
  if n.op < 1 ∨ 12 < n.op ∨ f.kids.length ≠ kidsOf n.op then 1
  else if n.op ≠ 3 ∧ ¬ (n.nm.toList = [] ∧ n.cmp = 0 ∧ n.val = 0) then 1
  else if n.op < 9 ∧ ¬ (n.lo = 0 ∧ n.hi = 0) then 1
  else if n.op = 3 ∧ (n.cmp < 0 ∨ 6 < n.cmp ∨ n.cmp = 0 ∧ n.val ≠ 0) then 1
  else if n.op = 3 ∧ isName n.nm = false then 21
  else if 9 ≤ n.op ∧ ¬ (0 ≤ n.lo ∧ n.lo ≤ n.hi) then 24
  else 0

/-- What is wrong with the first of these with which something is. -/
def firstOf : List Fm → Int
  | [] => 0
  | f :: r => if wrong f ≠ 0 then wrong f else firstOf r

def first (f : Fm) : Int := firstOf f.pre

/-- Is nothing wrong with any node? -/
def sound (f : Fm) : Prop := ∀ n, n ∈ f.pre → wrong n = 0

theorem firstOf_zero (l : List Fm) : firstOf l = 0 ↔ ∀ n, n ∈ l → wrong n = 0 := by
  induction l with
  | nil => simp [firstOf]
  | cons f r ih =>
    by_cases h : wrong f = 0
    · simp [firstOf, h, ih]
    · simp [firstOf, h]

theorem first_zero (f : Fm) : first f = 0 ↔ sound f := firstOf_zero _

deriving instance DecidableEq for Nd

mutual
/-- Are two formulas the same? -/
def same : Fm → Fm → Bool | .nd x ks, .nd y ls => decide (x = y) && sameL ks ls
def sameL : List Fm → List Fm → Bool | [], [] => true | k :: ks, l :: ls => same k l && sameL ks ls | [], _ :: _ => false | _ :: _, [] => false
end

theorem same_iff (a : Fm) : ∀ b : Fm, same a b = true ↔ a = b := by
  induction a using Tr.ind with
  | h x ks ih =>
    rintro ⟨y, ls⟩
    have hl : ∀ ls, sameL ks ls = true ↔ ks = ls := by
      clear x y ls
      induction ks with
      | nil => intro ls; cases ls <;> simp [sameL]
      | cons k ks ih2 =>
        intro ls
        cases ls with
        | nil => simp [sameL]
        | cons l ls => simp only [sameL, Bool.and_eq_true, ih k (by simp), ih2 (fun k hk => ih k (by simp [hk])), List.cons.injEq]
    simp only [same, Bool.and_eq_true, decide_eq_true_eq, hl, Tr.nd.injEq]

theorem same_self (a : Fm) : same a a = true := (same_iff a a).2 rfl

theorem same_comm (a b : Fm) : same a b = same b a := by
  cases h : same a b
  · cases h2 : same b a
    · rfl
    · rw [(same_iff b a).1 h2, same_self] at h; cases h
  · rw [(same_iff a b).1 h, same_self]

def z0 : Nd := ⟨0, ⟨#[]⟩, 0, 0, 0, 0⟩
/-- A node of a kind, with nothing else. -/
def leaf (op : Int) : Fm := .nd { z0 with op := op } []
def nd1 (op : Int) (x : Fm) : Fm := .nd { z0 with op := op } [x]
def nd2 (op : Int) (x y : Fm) : Fm := .nd { z0 with op := op } [x, y]
def kid0 (x : Fm) : Fm := x.kids.headD (leaf 0)

def nNot (x : Fm) : Fm := if x.top.op = 1 then leaf 2 else if x.top.op = 2 then leaf 1 else if x.top.op = 4 then kid0 x else nd1 4 x
def nAnd (x y : Fm) : Fm := if x.top.op = 2 ∨ y.top.op = 2 then leaf 2 else if x.top.op = 1 then y else if y.top.op = 1 ∨ same y x = true then x else nd2 5 x y
def nIff (x y : Fm) : Fm := if same y x = true then leaf 1 else if x.top.op = 1 then y else if y.top.op = 1 then x else if x.top.op = 2 then nNot y else if y.top.op = 2 then nNot x else nd2 8 x y
def nEv (lo hi : Int) (x : Fm) : Fm := if x.top.op = 2 then leaf 2 else if x.top.op = 1 ∧ lo = 0 then leaf 1 else .nd { z0 with op := 9, lo := lo, hi := hi } [x]
def nUn (lo hi : Int) (x y : Fm) : Fm :=
  if y.top.op = 2 then leaf 2 else if x.top.op = 2 ∧ lo = 0 then y else if x.top.op = 2 then leaf 2 else if x.top.op = 1 then nEv lo hi y
  else if y.top.op = 1 ∧ lo = 0 then leaf 1 else .nd { z0 with op := 11, lo := lo, hi := hi } [x, y]

/-- What a node becomes, of its kids that were made. -/
def become2 (n : Nd) (x y : Fm) : Fm :=
  if n.op = 1 ∨ n.op = 2 ∨ n.op = 3 then .nd { n with lo := 0, hi := 0 } []
  else if n.op = 4 then nNot x
  else if n.op = 5 then nAnd x y
  else if n.op = 6 then nNot (nAnd (nNot x) (nNot y))
  else if n.op = 7 then nNot (nAnd x (nNot y))
  else if n.op = 8 then nIff x y
  else if n.op = 9 then nEv n.lo n.hi x
  else if n.op = 10 then nNot (nEv n.lo n.hi (nNot x))
  else if n.op = 11 then nUn n.lo n.hi x y
  else if n.op = 12 then nNot (nUn n.lo n.hi (nNot x) (nNot y))
  else leaf 0

def become (n : Nd) (l : List Fm) : Fm := become2 n (l.headD (leaf 0)) (l.tail.headD (leaf 0))

/-- What becomes of a formula with which nothing is wrong. -/
def made : Fm → Fm := Tr.cata become

/-- What becomes of a formula. -/
def normOf (f : Fm) : Fm := if first f = 0 then made f else leaf 0

def core (f : Fm) : Bool := decide (first f = 0) && same f (normOf f)

mutual
/-- How many nodes may still come behind a formula's: 0: too many, or a long name. -/
def leftF : Fm → Int → Int | .nd x ks, n => if n ≤ 0 ∨ 40 < x.nm.size then 0 else leftL ks (n - 1)
def leftL : List Fm → Int → Int | [], m => m | k :: ks, m => if 0 < m then leftL ks (leftF k m) else m
end

theorem leftF_range (t : Fm) : ∀ n, 0 ≤ leftF t n ∧ (0 < n → leftF t n ≤ n - 1) ∧ (0 < leftF t n → leftF t n + t.size = n ∧ ∀ x, x ∈ t.pre → x.top.nm.size ≤ 40) := by
  induction t using Tr.ind with
  | h x ks ih =>
    have hks : ∀ m, 0 ≤ m → 0 ≤ leftL ks m ∧ leftL ks m ≤ m ∧ (0 < leftL ks m → leftL ks m + Tr.sizeL ks = m ∧ ∀ x, x ∈ Tr.preL ks → x.top.nm.size ≤ 40) := by
      clear x
      induction ks with
      | nil => intro m hm; simp [leftL, Tr.sizeL, Tr.preL]; omega
      | cons k ks ih2 =>
        intro m hm
        by_cases h0 : 0 < m
        · have h1 := ih k (by simp) m
          have h2 := ih2 (fun k hk => ih k (by simp [hk])) (leftF k m) h1.1
          simp only [leftL, if_pos h0, Tr.sizeL, Tr.preL]
          refine ⟨h2.1, by have := h1.2.1 h0; omega, fun hp => ?_⟩
          have h3 := h2.2.2 hp
          have h4 := h1.2.2 (by omega)
          refine ⟨by omega, fun x hx => ?_⟩
          rcases List.mem_append.1 hx with hx | hx
          · exact h4.2 x hx
          · exact h3.2 x hx
        · simp only [leftL, if_neg h0]
          exact ⟨hm, Int.le_refl _, fun h => absurd h h0⟩
    intro n
    by_cases hn : n ≤ 0 ∨ 40 < x.nm.size
    · simp only [leftF, if_pos hn]
      exact ⟨Int.le_refl _, fun h => by omega, fun h => absurd h (by omega)⟩
    · have h1 := hks (n - 1) (by omega)
      simp only [leftF, if_neg hn, Tr.size, Tr.pre]
      refine ⟨h1.1, fun _ => h1.2.1, fun hp => ?_⟩
      have h2 := h1.2.2 hp
      refine ⟨by omega, fun y hy => ?_⟩
      rcases List.mem_cons.1 hy with rfl | hy
      · show x.nm.size ≤ 40; omega
      · exact h2.2 y hy

end Go.Proofs.YtnpcakakjhiboaaDoor

namespace Go.Proofs.YtnpcakakjhiboaaDoor

section
variable {x y : Fm} {lo hi : Int}

theorem nNot_1 (h : x.top.op = 1) : nNot x = leaf 2 := by simp [nNot, h]
theorem nNot_2 (h : x.top.op = 2) : nNot x = leaf 1 := by simp [nNot, h]
theorem nNot_4 (h : x.top.op = 4) : nNot x = kid0 x := by simp [nNot, h]
theorem nNot_else (h1 : x.top.op ≠ 1) (h2 : x.top.op ≠ 2) (h4 : x.top.op ≠ 4) : nNot x = nd1 4 x := by simp [nNot, h1, h2, h4]

theorem nAnd_x2 (h : x.top.op = 2) : nAnd x y = leaf 2 := by simp [nAnd, h]
theorem nAnd_y2 (h : y.top.op = 2) : nAnd x y = leaf 2 := by simp [nAnd, h]
theorem nAnd_x1 (_h1 : x.top.op ≠ 2) (h2 : y.top.op ≠ 2) (h : x.top.op = 1) : nAnd x y = y := by simp [nAnd, h2, h]
theorem nAnd_y1 (h1 : x.top.op ≠ 2) (_h2 : y.top.op ≠ 2) (h3 : x.top.op ≠ 1) (h : y.top.op = 1) : nAnd x y = x := by simp [nAnd, h1, h3, h]
theorem nAnd_same (h1 : x.top.op ≠ 2) (h2 : y.top.op ≠ 2) (h3 : x.top.op ≠ 1) (h : same x y = true) : nAnd x y = x := by rw [same_comm] at h; simp [nAnd, h1, h2, h3, h]
theorem nAnd_else (h1 : x.top.op ≠ 2) (h2 : y.top.op ≠ 2) (h3 : x.top.op ≠ 1) (h4 : y.top.op ≠ 1) (h : same x y = false) : nAnd x y = nd2 5 x y := by rw [same_comm] at h; simp [nAnd, h1, h2, h3, h4, h]

theorem nIff_same (h : same x y = true) : nIff x y = leaf 1 := by rw [same_comm] at h; simp [nIff, h]
theorem nIff_x1 (h : same x y = false) (h1 : x.top.op = 1) : nIff x y = y := by rw [same_comm] at h; simp [nIff, h, h1]
theorem nIff_y1 (h : same x y = false) (h1 : x.top.op ≠ 1) (h2 : y.top.op = 1) : nIff x y = x := by rw [same_comm] at h; simp [nIff, h, h1, h2]
theorem nIff_x2 (h : same x y = false) (_h1 : x.top.op ≠ 1) (h2 : y.top.op ≠ 1) (h3 : x.top.op = 2) : nIff x y = nNot y := by rw [same_comm] at h; simp [nIff, h, h2, h3]
theorem nIff_y2 (h : same x y = false) (h1 : x.top.op ≠ 1) (_h2 : y.top.op ≠ 1) (h3 : x.top.op ≠ 2) (h4 : y.top.op = 2) : nIff x y = nNot x := by rw [same_comm] at h; simp [nIff, h, h1, h3, h4]
theorem nIff_else (h : same x y = false) (h1 : x.top.op ≠ 1) (h2 : y.top.op ≠ 1) (h3 : x.top.op ≠ 2) (h4 : y.top.op ≠ 2) : nIff x y = nd2 8 x y := by rw [same_comm] at h; simp [nIff, h, h1, h2, h3, h4]

theorem nEv_2 (h : x.top.op = 2) : nEv lo hi x = leaf 2 := by simp [nEv, h]
theorem nEv_1 (h : x.top.op = 1) (h0 : lo = 0) : nEv lo hi x = leaf 1 := by simp [nEv, h, h0]
theorem nEv_else (h : x.top.op ≠ 2) (h1 : ¬ (x.top.op = 1 ∧ lo = 0)) : nEv lo hi x = .nd { z0 with op := 9, lo := lo, hi := hi } [x] := by simp [nEv, h, h1]

theorem nUn_y2 (h : y.top.op = 2) : nUn lo hi x y = leaf 2 := by simp [nUn, h]
theorem nUn_x20 (h : y.top.op ≠ 2) (h1 : x.top.op = 2) (h0 : lo = 0) : nUn lo hi x y = y := by simp [nUn, h, h1, h0]
theorem nUn_x2 (_h : y.top.op ≠ 2) (h1 : x.top.op = 2) (h0 : lo ≠ 0) : nUn lo hi x y = leaf 2 := by simp [nUn, h1, h0]
theorem nUn_x1 (h : y.top.op ≠ 2) (h1 : x.top.op = 1) : nUn lo hi x y = nEv lo hi y := by simp [nUn, h, h1]
theorem nUn_y1 (_h : y.top.op ≠ 2) (h1 : x.top.op ≠ 2) (h2 : x.top.op ≠ 1) (h3 : y.top.op = 1) (h0 : lo = 0) : nUn lo hi x y = leaf 1 := by simp [nUn, h1, h2, h3, h0]
theorem nUn_else (h : y.top.op ≠ 2) (h1 : x.top.op ≠ 2) (h2 : x.top.op ≠ 1) (h3 : ¬ (y.top.op = 1 ∧ lo = 0)) : nUn lo hi x y = .nd { z0 with op := 11, lo := lo, hi := hi } [x, y] := by simp [nUn, h, h1, h2, h3]
end

end Go.Proofs.YtnpcakakjhiboaaDoor

namespace Go.Proofs.YtnpcakakjhiboaaDoor

/-- Each Not has a kid. -/
def Has4 (f : Fm) : Prop := ∀ n, n ∈ f.pre → n.top.op = 4 → n.kids ≠ []

theorem Has4.node {x : Nd} {ks : List Fm} (h : x.op = 4 → ks ≠ []) (hk : ∀ k, k ∈ ks → Has4 k) : Has4 (.nd x ks) := by
  intro n hn
  simp only [Tr.pre] at hn
  rcases List.mem_cons.1 hn with rfl | hn
  · exact h
  · rw [Tr.preL_eq] at hn
    obtain ⟨k, hk', hn⟩ := List.mem_flatMap.1 hn
    exact hk k hk' n hn

theorem Has4.kid {x : Nd} {ks : List Fm} (h : Has4 (.nd x ks)) {k : Fm} (hk : k ∈ ks) : Has4 k := by
  intro n hn
  refine h n ?_
  simp only [Tr.pre]
  rw [Tr.preL_eq]
  exact List.mem_cons_of_mem _ (List.mem_flatMap.2 ⟨k, hk, hn⟩)

theorem Has4.own {f : Fm} (h : Has4 f) : f.top.op = 4 → f.kids ≠ [] := h f (by cases f; simp [Tr.pre])

theorem Has4.leaf {op : Int} (h : op ≠ 4) : Has4 (leaf op) := Has4.node (fun e => absurd e h) (by simp)

theorem Has4.kid0 {f : Fm} (h : Has4 f) : Has4 (kid0 f) := by
  cases f with
  | nd x ks =>
    cases ks with
    | nil => exact Has4.leaf (by decide)
    | cons k r => exact h.kid (k := k) (by simp)

theorem Has4.not {x : Fm} (h : Has4 x) : Has4 (nNot x) := by
  unfold nNot
  split
  · exact Has4.leaf (by decide)
  split
  · exact Has4.leaf (by decide)
  split
  · exact h.kid0
  · exact Has4.node (by simp) (by simpa using h)

theorem Has4.and {x y : Fm} (hx : Has4 x) (hy : Has4 y) : Has4 (nAnd x y) := by
  unfold nAnd
  split
  · exact Has4.leaf (by decide)
  split
  · exact hy
  split
  · exact hx
  · exact Has4.node (by simp) (by intro k hk; simp at hk; rcases hk with rfl | rfl <;> assumption)

theorem Has4.iff {x y : Fm} (hx : Has4 x) (hy : Has4 y) : Has4 (nIff x y) := by
  unfold nIff
  split
  · exact Has4.leaf (by decide)
  split
  · exact hy
  split
  · exact hx
  split
  · exact hy.not
  split
  · exact hx.not
  · exact Has4.node (by simp) (by intro k hk; simp at hk; rcases hk with rfl | rfl <;> assumption)

theorem Has4.ev {x : Fm} {lo hi : Int} (hx : Has4 x) : Has4 (nEv lo hi x) := by
  unfold nEv
  split
  · exact Has4.leaf (by decide)
  split
  · exact Has4.leaf (by decide)
  · exact Has4.node (by simp) (by simpa using hx)

theorem Has4.un {x y : Fm} {lo hi : Int} (hx : Has4 x) (hy : Has4 y) : Has4 (nUn lo hi x y) := by
  unfold nUn
  split
  · exact Has4.leaf (by decide)
  split
  · exact hy
  split
  · exact Has4.leaf (by decide)
  split
  · exact hy.ev
  split
  · exact Has4.leaf (by decide)
  · exact Has4.node (by simp) (by intro k hk; simp at hk; rcases hk with rfl | rfl <;> assumption)

theorem Has4.become2 {n : Nd} {x y : Fm} (hx : Has4 x) (hy : Has4 y) : Has4 (become2 n x y) := by
  unfold Go.Proofs.YtnpcakakjhiboaaDoor.become2
  split
  · rename_i h
    exact Has4.node (fun e => by simp only at e; omega) (by simp)
  split
  · exact hx.not
  split
  · exact hx.and hy
  split
  · exact (hx.not.and hy.not).not
  split
  · exact (hx.and hy.not).not
  split
  · exact hx.iff hy
  split
  · exact hx.ev
  split
  · exact hx.not.ev.not
  split
  · exact hx.un hy
  split
  · exact (hx.not.un hy.not).not
  · exact Has4.leaf (by decide)

theorem headD_mem {l : List Fm} {p : Fm → Prop} (h : ∀ m, m ∈ l → p m) (hd : p (leaf 0)) : p (l.headD (leaf 0)) ∧ p (l.tail.headD (leaf 0)) := by
  cases l with
  | nil => exact ⟨hd, hd⟩
  | cons a l =>
    refine ⟨h a (by simp), ?_⟩
    cases l with
    | nil => exact hd
    | cons b l => exact h b (by simp)

theorem made_nd (x : Nd) (ks : List Fm) : made (.nd x ks) = become x (ks.map made) := by
  show Tr.cata become _ = _
  rw [Tr.cata, Tr.cataL_eq]
  rfl

theorem made_has4 (f : Fm) : Has4 (made f) := by
  induction f using Tr.ind with
  | h x ks ih =>
    rw [made_nd]
    have := headD_mem (l := ks.map made) (p := Has4) (fun m hm => by
      obtain ⟨k, hk, rfl⟩ := List.mem_map.1 hm
      exact ih k hk) (Has4.leaf (by decide))
    exact Has4.become2 this.1 this.2

/-- Of a sound formula: its node is, and each kid. -/
theorem sound_top {x : Nd} {ks : List Fm} (h : sound (.nd x ks)) : wrong (.nd x ks) = 0 := h _ (by simp [Tr.pre])

theorem sound_kid {x : Nd} {ks : List Fm} (h : sound (.nd x ks)) {k : Fm} (hk : k ∈ ks) : sound k := by
  intro n hn
  refine h n ?_
  simp only [Tr.pre]
  rw [Tr.preL_eq]
  exact List.mem_cons_of_mem _ (List.mem_flatMap.2 ⟨k, hk, hn⟩)

/-- What nothing is wrong with tells. -/
theorem wrong_zero {x : Nd} {ks : List Fm} (h : wrong (.nd x ks) = 0) : 1 ≤ x.op ∧ x.op ≤ 12 ∧ ks.length = kidsOf x.op ∧ (x.op ≠ 3 → x.nm.toList = [] ∧ x.cmp = 0 ∧ x.val = 0) ∧ (x.op < 9 → x.lo = 0 ∧ x.hi = 0) := by
  have e : wrong (.nd x ks) = if x.op < 1 ∨ 12 < x.op ∨ ks.length ≠ kidsOf x.op then 1
      else if x.op ≠ 3 ∧ ¬ (x.nm.toList = [] ∧ x.cmp = 0 ∧ x.val = 0) then 1
      else if x.op < 9 ∧ ¬ (x.lo = 0 ∧ x.hi = 0) then 1
      else if x.op = 3 ∧ (x.cmp < 0 ∨ 6 < x.cmp ∨ x.cmp = 0 ∧ x.val ≠ 0) then 1
      else if x.op = 3 ∧ isName x.nm = false then 21
      else if 9 ≤ x.op ∧ ¬ (0 ≤ x.lo ∧ x.lo ≤ x.hi) then 24
      else 0 := rfl
  rw [e] at h
  clear e
  by_cases h1 : x.op < 1 ∨ 12 < x.op ∨ ks.length ≠ kidsOf x.op
  · rw [if_pos h1] at h; exact absurd h (by decide)
  rw [if_neg h1] at h
  by_cases h2 : x.op ≠ 3 ∧ ¬ (x.nm.toList = [] ∧ x.cmp = 0 ∧ x.val = 0)
  · rw [if_pos h2] at h; exact absurd h (by decide)
  rw [if_neg h2] at h
  by_cases h3 : x.op < 9 ∧ ¬ (x.lo = 0 ∧ x.hi = 0)
  · rw [if_pos h3] at h; exact absurd h (by decide)
  clear h
  refine ⟨by omega, by omega, by omega, fun e => ?_, fun e => ?_⟩
  · by_cases h4 : x.nm.toList = [] ∧ x.cmp = 0 ∧ x.val = 0
    · exact h4
    · exact absurd ⟨e, h4⟩ h2
  · by_cases h4 : x.lo = 0 ∧ x.hi = 0
    · exact h4
    · exact absurd ⟨e, h4⟩ h3

end Go.Proofs.YtnpcakakjhiboaaDoor

namespace Go.Proofs.YtnpcakakjhiboaaDoor

theorem kids_0 {op : Int} (h : kidsOf op = 0) : op ≤ 3 := by
  unfold kidsOf at h
  split at h
  · assumption
  · split at h <;> omega

theorem kids_1 {op : Int} (h : kidsOf op = 1) : op = 4 ∨ op = 9 ∨ op = 10 := by
  unfold kidsOf at h
  split at h
  · omega
  · split at h
    · assumption
    · omega

theorem kids_2 {op : Int} (h : kidsOf op = 2) : ¬ op ≤ 3 ∧ ¬ (op = 4 ∨ op = 9 ∨ op = 10) := by
  unfold kidsOf at h
  split at h
  · omega
  · split at h
    · omega
    · constructor <;> assumption

theorem kids_le2 (op : Int) : kidsOf op ≤ 2 := by
  unfold kidsOf
  split
  · omega
  · split <;> omega

theorem fsize_pos (f : Fm) : 1 ≤ f.size := by cases f; simp only [Tr.size]; omega

theorem kid0_size (f : Fm) : (kid0 f).size ≤ f.size := by
  cases f with
  | nd x ks =>
    cases ks with
    | nil => simp [kid0, Tr.kids, leaf, Tr.size, Tr.sizeL]
    | cons k r => simp only [kid0, Tr.kids, List.headD_cons, Tr.size, Tr.sizeL]; omega

theorem leaf_size (op : Int) : (leaf op).size = 1 := by simp [leaf, Tr.size, Tr.sizeL]
theorem nd1_size (n : Nd) (x : Fm) : (Tr.nd n [x]).size = 1 + x.size := by simp [Tr.size, Tr.sizeL]
theorem nd2_size (n : Nd) (x y : Fm) : (Tr.nd n [x, y]).size = 1 + x.size + y.size := by simp [Tr.size, Tr.sizeL]; omega

theorem nNot_size (x : Fm) : (nNot x).size ≤ x.size + 1 := by
  have h1 := fsize_pos x
  have h2 := kid0_size x
  unfold nNot
  split
  · rw [leaf_size]; omega
  split
  · rw [leaf_size]; omega
  split
  · omega
  · rw [nd1, nd1_size]; omega

theorem nAnd_size (x y : Fm) : (nAnd x y).size ≤ x.size + y.size + 1 := by
  unfold nAnd
  split
  · rw [leaf_size]; omega
  split
  · omega
  split
  · omega
  · rw [nd2, nd2_size]; omega

theorem nIff_size (x y : Fm) : (nIff x y).size ≤ x.size + y.size + 1 := by
  have hx := nNot_size x
  have hy := nNot_size y
  have h1 := fsize_pos x
  have h2 := fsize_pos y
  unfold nIff
  split
  · rw [leaf_size]; omega
  split
  · omega
  split
  · omega
  split
  · omega
  split
  · omega
  · rw [nd2, nd2_size]; omega

theorem nEv_size (lo hi : Int) (x : Fm) : (nEv lo hi x).size ≤ x.size + 1 := by
  unfold nEv
  split
  · rw [leaf_size]; omega
  split
  · rw [leaf_size]; omega
  · rw [nd1_size]; omega

theorem nUn_size (lo hi : Int) (x y : Fm) : (nUn lo hi x y).size ≤ x.size + y.size + 1 := by
  have hy := nEv_size lo hi y
  unfold nUn
  split
  · rw [leaf_size]; omega
  split
  · omega
  split
  · rw [leaf_size]; omega
  split
  · omega
  split
  · rw [leaf_size]; omega
  · rw [nd2_size]; omega

theorem become2_size (n : Nd) (x y : Fm) (k : Nat) (h : n.op = 4 ∨ n.op = 9 ∨ n.op = 10 → x.size ≤ k) (h2 : ¬ (n.op = 1 ∨ n.op = 2 ∨ n.op = 3) → ¬ (n.op = 4 ∨ n.op = 9 ∨ n.op = 10) → x.size + y.size ≤ k) : (become2 n x y).size ≤ k + 4 := by
  have a1 := nNot_size x
  have a2 := nNot_size y
  have a3 := nAnd_size x y
  have a4 := nNot_size (nAnd (nNot x) (nNot y))
  have a5 := nAnd_size (nNot x) (nNot y)
  have a6 := nNot_size (nAnd x (nNot y))
  have a7 := nAnd_size x (nNot y)
  have a8 := nIff_size x y
  have a9 := nEv_size n.lo n.hi x
  have b1 := nNot_size (nEv n.lo n.hi (nNot x))
  have b2 := nEv_size n.lo n.hi (nNot x)
  have b3 := nUn_size n.lo n.hi x y
  have b4 := nNot_size (nUn n.lo n.hi (nNot x) (nNot y))
  have b5 := nUn_size n.lo n.hi (nNot x) (nNot y)
  unfold become2
  split
  · simp [Tr.size, Tr.sizeL]
  rename_i q0
  split
  · rename_i q; have := h (.inl q); omega
  split
  · rename_i q; have := h2 q0 (by omega); omega
  split
  · rename_i q; have := h2 q0 (by omega); omega
  split
  · rename_i q; have := h2 q0 (by omega); omega
  split
  · rename_i q; have := h2 q0 (by omega); omega
  split
  · rename_i q; have := h (.inr (.inl q)); omega
  split
  · rename_i q; have := h (.inr (.inr q)); omega
  split
  · rename_i q; have := h2 q0 (by omega); omega
  split
  · rename_i q; have := h2 q0 (by omega); omega
  · rw [leaf_size]; omega

/-- Of a sound one. -/
theorem made_size (f : Fm) : sound f → (made f).size ≤ 4 * f.size := by
  induction f using Tr.ind with
  | h x ks ih =>
    intro hs
    obtain ⟨h1, h12, hk, -, -⟩ := wrong_zero (sound_top hs)
    have ih2 : ∀ k, k ∈ ks → (made k).size ≤ 4 * k.size := fun k hk => ih k hk (sound_kid hs hk)
    rw [made_nd]
    unfold become
    simp only [Tr.size]
    rcases ks with _ | ⟨a, _ | ⟨b, _ | ⟨c, r⟩⟩⟩
    · have e : kidsOf x.op = 0 := by simpa using hk.symm
      have e3 : x.op ≤ 3 := kids_0 e
      have := become2_size x (leaf 0) (leaf 0) 0 (fun h => by omega) (fun h => by omega)
      simpa [Tr.sizeL] using this
    · have := ih2 a (by simp)
      have e : kidsOf x.op = 1 := by simpa using hk.symm
      have e3 : x.op = 4 ∨ x.op = 9 ∨ x.op = 10 := kids_1 e
      have := become2_size x (made a) (leaf 0) (made a).size (fun h => by omega) (fun _ h => absurd e3 h)
      simp only [List.map_cons, List.map_nil, List.headD_cons, List.tail_cons, List.headD_nil, Tr.sizeL]
      omega
    · have := ih2 a (by simp)
      have := ih2 b (by simp)
      have := become2_size x (made a) (made b) ((made a).size + (made b).size) (fun h => by omega) (fun _ h => by omega)
      simp only [List.map_cons, List.map_nil, List.headD_cons, List.tail_cons, Tr.sizeL]
      omega
    · exfalso
      have := kids_le2 x.op
      simp at hk
      omega

end Go.Proofs.YtnpcakakjhiboaaDoor
