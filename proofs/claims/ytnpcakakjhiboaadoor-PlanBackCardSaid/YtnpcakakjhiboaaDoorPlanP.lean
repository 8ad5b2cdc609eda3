/- The parts of a formula in plain Lean: each once, kids ahead; and the list of steps. No condition. -/
import Derived.Test.YtnpcakakjhiboaaDoorNfP
namespace Go.Proofs.YtnpcakakjhiboaaDoor

instance : DecidableEq Fm := fun a b => decidable_of_iff (same a b = true) (same_iff a b)

namespace Tr
variable {α β : Type}
mutual
/-- The nodes, kids ahead. -/
def post : Tr α → List (Tr α) | .nd x ks => postL ks ++ [.nd x ks]
def postL : List (Tr α) → List (Tr α) | [] => [] | k :: ks => k.post ++ postL ks
end

theorem postL_eq (ks : List (Tr α)) : postL ks = ks.flatMap post := by
  induction ks with
  | nil => rfl
  | cons k ks ih => simp [postL, ih]

theorem post_nd (x : α) (ks : List (Tr α)) : (nd x ks).post = ks.flatMap post ++ [.nd x ks] := by rw [post, postL_eq]

theorem mem_post (t : Tr α) : ∀ s, s ∈ t.post ↔ s ∈ t.pre := by
  induction t using ind with
  | h x ks ih =>
    intro s
    simp only [post_nd, pre, preL_eq, List.mem_append, List.mem_cons, List.mem_flatMap, List.not_mem_nil, or_false]
    constructor
    · rintro (⟨k, hk, h⟩ | h)
      · exact .inr ⟨k, hk, (ih k hk s).1 h⟩
      · exact .inl h
    · rintro (h | ⟨k, hk, h⟩)
      · exact .inr h
      · exact .inl ⟨k, hk, (ih k hk s).2 h⟩

theorem post_length (t : Tr α) : t.post.length = t.size := by
  induction t using ind with
  | h x ks ih =>
    simp only [post, size, List.length_append, List.length_singleton]
    have : (postL ks).length = sizeL ks := by
      clear x
      induction ks with
      | nil => rfl
      | cons k ks ih2 => simp only [postL, sizeL, List.length_append]; rw [ih k (by simp), ih2 (fun k hk => ih k (by simp [hk]))]
    omega

theorem map_post (f : α → β) (t : Tr α) : (t.map f).post = t.post.map (Tr.map f) := by
  induction t using ind with
  | h x ks ih =>
    simp only [map, post, List.map_append, List.map_cons, List.map_nil]
    congr 1
    clear x
    induction ks with
    | nil => rfl
    | cons k ks ih2 => simp only [mapL, postL, List.map_append]; rw [ih k (by simp), ih2 (fun k hk => ih k (by simp [hk]))]

theorem pre_size {t s : Tr α} : s ∈ t.pre → s.size ≤ t.size := by
  induction t using ind with
  | h x ks ih =>
    simp only [pre, preL_eq, List.mem_cons, List.mem_flatMap]
    rintro (rfl | ⟨k, hk, h⟩)
    · exact Nat.le_refl _
    · have := ih k hk h
      have := size_kid hk
      simp only [size]
      omega

/-- A node within is the whole, or a kid of a node within. -/
theorem pre_kid {t : Tr α} : ∀ s, s ∈ t.pre → s = t ∨ ∃ u, u ∈ t.pre ∧ s ∈ u.kids := by
  induction t using ind with
  | h x ks ih =>
    intro s hs
    simp only [pre, preL_eq, List.mem_cons, List.mem_flatMap] at hs
    rcases hs with rfl | ⟨k, hk, h⟩
    · exact .inl rfl
    · right
      rcases ih k hk s h with rfl | ⟨u, hu, hsu⟩
      · exact ⟨.nd x ks, by simp [pre], hk⟩
      · exact ⟨u, by simp only [pre, preL_eq, List.mem_cons, List.mem_flatMap]; exact .inr ⟨k, hk, hu⟩, hsu⟩

/-- The nodes go through a stack of trees: each finds its kids on top. -/
def Goes : List (Tr α) → List (Tr α) → Prop
  | _, [] => True
  | T, n :: r => ∃ T0, T = T0 ++ n.kids ∧ Goes (T0 ++ [n]) r

theorem goes_post (t : Tr α) : ∀ (T r : List (Tr α)), Goes (T ++ [t]) r → Goes T (t.post ++ r) := by
  induction t using ind with
  | h x ks ih =>
    intro T r h
    rw [post, List.append_assoc]
    have hks : ∀ (T r : List (Tr α)), Goes (T ++ ks) r → Goes T (postL ks ++ r) := by
      clear h T r x
      induction ks with
      | nil => intro T r h; simpa [postL] using h
      | cons k ks ih2 =>
        intro T r h
        rw [postL, List.append_assoc]
        refine ih k (by simp) _ _ (ih2 (fun k hk => ih k (by simp [hk])) _ _ ?_)
        simpa using h
    exact hks _ _ ⟨T, rfl, h⟩

end Tr

/-- A list grows by what is not there yet. -/
def addT (U : List Fm) (t : Fm) : List Fm := if t ∈ U then U else U ++ [t]

/-- The unlike nodes, kids ahead. -/
def partsOf (f : Fm) : List Fm := f.post.foldl addT []

/-- Where a formula stands on a list; -1: nowhere. -/
def place (U : List Fm) (t : Fm) : Int := if t ∈ U then (U.idxOf t : Int) else -1

/-- Where a node's kid of that number stands; -1: there is none. -/
def kidAt (U : List Fm) (t : Fm) (i : Nat) : Int := match t.kids[i]? with | none => -1 | some k => place U k

/-- A step: what its node bears, and where its kids stand. -/
structure Stp where
  n : Nd
  a : Int
  b : Int
deriving DecidableEq

def stepOf (U : List Fm) (t : Fm) : Stp := ⟨t.top, kidAt U t 0, kidAt U t 1⟩

/-- The program's list. -/
def planOf (f : Fm) : List Stp := if first f = 0 then (partsOf (normOf f)).map (stepOf (partsOf (normOf f))) else []

theorem place_mem {U : List Fm} {t : Fm} (h : t ∈ U) : place U t = (U.idxOf t : Int) ∧ U.idxOf t < U.length := ⟨if_pos h, List.idxOf_lt_length_of_mem h⟩

theorem place_not {U : List Fm} {t : Fm} (h : t ∉ U) : place U t = -1 := if_neg h

theorem place_range (U : List Fm) (t : Fm) : -1 ≤ place U t ∧ place U t < U.length := by
  by_cases h : t ∈ U
  · obtain ⟨h1, h2⟩ := place_mem h; omega
  · rw [place_not h]; omega

theorem place_get {U : List Fm} {t : Fm} (h : t ∈ U) : U[U.idxOf t]? = some t := by
  have h2 := List.idxOf_lt_length_of_mem h
  rw [List.getElem?_eq_getElem h2, List.getElem_idxOf]

theorem place_inj {U : List Fm} {t s : Fm} (h : t ∈ U) (h2 : s ∈ U) (e : place U t = place U s) : t = s := by
  obtain ⟨h3, -⟩ := place_mem h
  obtain ⟨h4, -⟩ := place_mem h2
  have h5 := place_get h
  have h6 := place_get h2
  have e2 : U.idxOf t = U.idxOf s := by omega
  rw [e2, h6] at h5
  exact (Option.some.inj h5).symm

theorem place_append {U V : List Fm} {t : Fm} (h : t ∈ U) : place (U ++ V) t = place U t := by
  rw [place, if_pos (List.mem_append_left V h), place, if_pos h, List.idxOf_append, if_pos h]

theorem nodup_at {α : Type} {l : List α} (h : l.Nodup) {i j : Nat} {x : α} (hi : l[i]? = some x) (hj : l[j]? = some x) : i = j := by
  have a1 : i < l.length := by
    rcases Nat.lt_or_ge i l.length with h' | h'
    · exact h'
    · rw [List.getElem?_eq_none h'] at hi; cases hi
  have a2 : j < l.length := by
    rcases Nat.lt_or_ge j l.length with h' | h'
    · exact h'
    · rw [List.getElem?_eq_none h'] at hj; cases hj
  rw [List.getElem?_eq_getElem a1] at hi
  rw [List.getElem?_eq_getElem a2] at hj
  have e := (Option.some.inj hi).trans (Option.some.inj hj).symm
  have hp := List.pairwise_iff_getElem.1 h
  rcases Nat.lt_trichotomy i j with h' | h' | h'
  · exact absurd e (hp i j a1 a2 h')
  · exact h'
  · exact absurd e.symm (hp j i a2 a1 h')

/-- No two are alike, and each one's kids stand ahead of it. -/
structure Closed (U : List Fm) : Prop where
  nodup : U.Nodup
  kids : ∀ i t, U[i]? = some t → ∀ k, k ∈ t.kids → k ∈ U.take i

theorem Closed.nil : Closed [] := ⟨List.nodup_nil, by simp⟩

theorem Closed.mem {U : List Fm} (h : Closed U) {t k : Fm} (ht : t ∈ U) (hk : k ∈ t.kids) : k ∈ U := by
  obtain ⟨i, hi⟩ := List.getElem?_of_mem ht
  exact List.mem_of_mem_take (h.kids i t hi k hk)

theorem Closed.ahead {U : List Fm} (h : Closed U) {i : Nat} {t k : Fm} (ht : U[i]? = some t) (hk : k ∈ t.kids) : 0 ≤ place U k ∧ place U k < i := by
  have h1 := h.kids i t ht k hk
  obtain ⟨h2, h3⟩ := place_mem h1
  have h4 : place U k = place (U.take i) k := by
    have := place_append (V := U.drop i) h1
    rwa [List.take_append_drop] at this
  rw [h4, h2]
  rw [List.length_take] at h3
  omega

theorem Closed.add {U : List Fm} (h : Closed U) {t : Fm} (hk : ∀ k, k ∈ t.kids → k ∈ U) : Closed (addT U t) := by
  unfold addT
  split
  · exact h
  · rename_i hn
    refine ⟨List.nodup_append.2 ⟨h.nodup, by simp, fun a ha b hb => by rw [List.mem_singleton.1 hb]; intro e; exact hn (e ▸ ha)⟩, fun i s hs k hks => ?_⟩
    rcases Nat.lt_or_ge i U.length with hi | hi
    · rw [List.getElem?_append_left hi] at hs
      rw [List.take_append_of_le_length (by omega)]
      exact h.kids i s hs k hks
    · rw [List.getElem?_append_right hi] at hs
      have h0 : i = U.length := by
        rcases Nat.lt_or_ge (i - U.length) 1 with h1 | h1
        · omega
        · rw [List.getElem?_eq_none (by simpa using h1)] at hs; cases hs
      subst h0
      obtain rfl : t = s := by simpa using hs
      rw [List.take_left]
      exact hk k hks

theorem addT_sub {U : List Fm} {t : Fm} : ∃ V, addT U t = U ++ V := by
  unfold addT
  split
  · exact ⟨[], by simp⟩
  · exact ⟨_, rfl⟩

theorem addT_mem {U : List Fm} {t s : Fm} : s ∈ addT U t ↔ s ∈ U ∨ s = t := by
  unfold addT
  split
  · rename_i h
    constructor
    · exact .inl
    · rintro (h2 | rfl)
      · exact h2
      · exact h
  · simp

theorem addT_len {U : List Fm} {t : Fm} : (addT U t).length ≤ U.length + 1 := by
  unfold addT
  split <;> simp

theorem foldl_sub (l : List Fm) : ∀ U : List Fm, ∃ V, l.foldl addT U = U ++ V := by
  induction l with
  | nil => intro U; exact ⟨[], by simp⟩
  | cons t l ih =>
    intro U
    obtain ⟨V, hV⟩ := addT_sub (U := U) (t := t)
    obtain ⟨W, hW⟩ := ih (addT U t)
    exact ⟨V ++ W, by rw [List.foldl_cons, hW, hV, List.append_assoc]⟩

theorem foldl_mem (l : List Fm) : ∀ (U : List Fm) (s : Fm), s ∈ l.foldl addT U ↔ s ∈ U ∨ s ∈ l := by
  induction l with
  | nil => intro U s; simp
  | cons t l ih =>
    intro U s
    rw [List.foldl_cons, ih, addT_mem]
    simp only [List.mem_cons, or_assoc]

theorem foldl_len (l : List Fm) : ∀ U : List Fm, (l.foldl addT U).length ≤ U.length + l.length := by
  induction l with
  | nil => intro U; simp
  | cons t l ih =>
    intro U
    have h1 := ih (addT U t)
    have h2 := addT_len (U := U) (t := t)
    simp only [List.foldl_cons, List.length_cons]
    omega

/-- The nodes of a tree keep the list closed. -/
theorem closed_post (f : Fm) : ∀ U : List Fm, Closed U → Closed (f.post.foldl addT U) := by
  induction f using Tr.ind with
  | h x ks ih =>
    intro U hU
    rw [Tr.post, List.foldl_append]
    have hks : ∀ U : List Fm, Closed U → Closed ((Tr.postL ks).foldl addT U) := by
      clear hU U x
      induction ks with
      | nil => intro U hU; exact hU
      | cons k ks ih2 =>
        intro U hU
        rw [Tr.postL, List.foldl_append]
        exact ih2 (fun k hk => ih k (by simp [hk])) _ (ih k (by simp) U hU)
    refine (hks U hU).add fun k hk => (foldl_mem _ _ _).2 (.inr ?_)
    rw [Tr.postL_eq]
    exact List.mem_flatMap.2 ⟨k, hk, (Tr.mem_post k k).2 (by cases k; simp [Tr.pre])⟩

theorem parts_closed (f : Fm) : Closed (partsOf f) := closed_post f [] Closed.nil

theorem parts_mem (f s : Fm) : s ∈ partsOf f ↔ s ∈ f.pre := by
  unfold partsOf
  rw [foldl_mem, Tr.mem_post]
  simp

theorem parts_len (f : Fm) : (partsOf f).length ≤ f.size := by
  have := foldl_len f.post []
  rw [Tr.post_length] at this
  simpa [partsOf] using this

/-- The whole is the last one. -/
theorem parts_last (f : Fm) : ∃ U, partsOf f = U ++ [f] := by
  cases f with
  | nd x ks =>
    refine ⟨(Tr.postL ks).foldl addT [], ?_⟩
    unfold partsOf
    rw [Tr.post, List.foldl_append]
    refine if_neg fun hin => ?_
    rcases (foldl_mem _ _ _).1 hin with h | h
    · cases h
    · rw [Tr.postL_eq] at h
      obtain ⟨k, hk, h⟩ := List.mem_flatMap.1 h
      have h2 := Tr.pre_size ((Tr.mem_post _ _).1 h)
      have h3 := Tr.size_kid hk
      simp only [Tr.size] at h2
      omega

theorem parts_ne (f : Fm) : partsOf f ≠ [] := by obtain ⟨U, h⟩ := parts_last f; rw [h]; simp

theorem parts_at_last (f : Fm) : (partsOf f)[(partsOf f).length - 1]? = some f := by
  obtain ⟨U, h⟩ := parts_last f
  rw [h]; simp

/-- Each part but the last one is a kid of one behind it. -/
theorem parts_named (f : Fm) {i : Nat} {s : Fm} (h : (partsOf f)[i]? = some s) (hi : i + 1 < (partsOf f).length) : ∃ j u, i < j ∧ (partsOf f)[j]? = some u ∧ s ∈ u.kids := by
  have hc := parts_closed f
  have hm := (parts_mem f s).1 (List.mem_of_getElem? h)
  rcases Tr.pre_kid s hm with rfl | ⟨u, hu, hsu⟩
  · exfalso
    have := nodup_at hc.nodup h (parts_at_last s)
    omega
  · obtain ⟨j, hj⟩ := List.getElem?_of_mem ((parts_mem f u).2 hu)
    refine ⟨j, u, ?_, hj, hsu⟩
    have h5 := hc.kids j u hj s hsu
    obtain ⟨k, hk⟩ := List.getElem?_of_mem h5
    have hkj : k < j := by
      rcases Nat.lt_or_ge k j with h' | h'
      · exact h'
      · rw [List.getElem?_take, if_neg (by omega)] at hk; cases hk
    rw [List.getElem?_take, if_pos hkj] at hk
    have := nodup_at hc.nodup h hk
    omega

/-- Kids of these numbers are where they are told. -/
theorem kidAt_some {U : List Fm} {t k : Fm} {i : Nat} (h : t.kids[i]? = some k) : kidAt U t i = place U k := by unfold kidAt; rw [h]
theorem kidAt_none {U : List Fm} {t : Fm} {i : Nat} (h : t.kids.length ≤ i) : kidAt U t i = -1 := by unfold kidAt; rw [List.getElem?_eq_none h]

/-- The steps of unlike nodes are unlike. -/
theorem stepOf_inj {U : List Fm} {t s : Fm} (ht : ∀ k, k ∈ t.kids → k ∈ U) (hs : ∀ k, k ∈ s.kids → k ∈ U) (h1 : t.kids.length = kidsOf t.top.op) (h2 : s.kids.length = kidsOf s.top.op) (e : stepOf U t = stepOf U s) : t = s := by
  obtain ⟨x, ks⟩ := t
  obtain ⟨y, ls⟩ := s
  simp only [stepOf, Stp.mk.injEq, Tr.top] at e
  obtain ⟨rfl, ea, eb⟩ := e
  simp only [Tr.kids, Tr.top] at h1 h2 ht hs
  have hl : ks.length = ls.length := by rw [h1, h2]
  have hk2 : ks.length ≤ 2 := by rw [h1]; exact kids_le2 _
  congr 1
  apply List.ext_getElem?
  intro i
  rcases Nat.lt_or_ge i ks.length with hi | hi
  · have hi2 : i < ls.length := by omega
    have e1 : kidAt U (.nd x ks) i = kidAt U (.nd x ls) i := by
      rcases i with _ | _ | i
      · exact ea
      · exact eb
      · omega
    rw [kidAt_some (k := ks[i]) (by simp [Tr.kids, hi]), kidAt_some (k := ls[i]) (by simp [Tr.kids, hi2])] at e1
    rw [List.getElem?_eq_getElem hi, List.getElem?_eq_getElem hi2, place_inj (ht _ (List.getElem_mem hi)) (hs _ (List.getElem_mem hi2)) e1]
  · rw [List.getElem?_eq_none hi, List.getElem?_eq_none (by omega)]

theorem stepOf_append {U V : List Fm} {t : Fm} (h : ∀ k, k ∈ t.kids → k ∈ U) : stepOf (U ++ V) t = stepOf U t := by
  have e : ∀ i, kidAt (U ++ V) t i = kidAt U t i := fun i => by
    unfold kidAt
    cases hk : t.kids[i]? with
    | none => rfl
    | some k => exact place_append (h k (List.mem_of_getElem? hk))
  unfold stepOf
  rw [e, e]

end Go.Proofs.YtnpcakakjhiboaaDoor
