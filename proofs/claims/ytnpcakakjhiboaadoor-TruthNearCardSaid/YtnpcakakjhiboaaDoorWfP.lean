/- The numbers in what a formula becomes are those of the formula. No condition. -/
import Derived.Test.YtnpcakakjhiboaaDoorOpenF
import Derived.Test.YtnpcakakjhiboaaDoorNfP
namespace Go.Proofs.YtnpcakakjhiboaaDoor
open Go Go.RowKit Go.Lo Go.WideShapes

def Num (x : Nd) : Prop := I64 x.val ∧ I64 x.lo ∧ I64 x.hi
def allNum (f : Fm) : Prop := ∀ n, n ∈ f.pre → Num n.top

theorem allNum_nd {n : Nd} {ks : List Fm} : allNum (.nd n ks) ↔ Num n ∧ ∀ k, k ∈ ks → allNum k := by
  constructor
  · intro h
    exact ⟨h _ (pre_nd.2 (.inl rfl)), fun k hk m hm => h m (pre_nd.2 (.inr ⟨k, hk, hm⟩))⟩
  · rintro ⟨h1, h2⟩ m hm
    rcases pre_nd.1 hm with rfl | ⟨k, hk, hm⟩
    · exact h1
    · exact h2 k hk m hm

theorem i64_0 : I64 0 := by unfold I64; omega
theorem num_z (op : Int) : Num { z0 with op := op } := ⟨i64_0, i64_0, i64_0⟩
theorem an_leaf (op : Int) : allNum (leaf op) := allNum_nd.2 ⟨num_z op, by simp⟩
theorem an_kid0 {x : Fm} (h : allNum x) : allNum (kid0 x) := by
  rcases x with ⟨n, _ | ⟨a, r⟩⟩
  · exact an_leaf 0
  · exact (allNum_nd.1 h).2 a (by simp)
theorem an_not {x : Fm} (h : allNum x) : allNum (nNot x) := by
  unfold nNot
  split
  · exact an_leaf _
  split
  · exact an_leaf _
  split
  · exact an_kid0 h
  · exact allNum_nd.2 ⟨num_z 4, by simpa using h⟩
theorem an_and {x y : Fm} (h : allNum x) (h' : allNum y) : allNum (nAnd x y) := by
  unfold nAnd
  split
  · exact an_leaf _
  split
  · exact h'
  split
  · exact h
  · exact allNum_nd.2 ⟨num_z 5, by simp [h, h']⟩
theorem an_iff {x y : Fm} (h : allNum x) (h' : allNum y) : allNum (nIff x y) := by
  unfold nIff
  split
  · exact an_leaf _
  split
  · exact h'
  split
  · exact h
  split
  · exact an_not h'
  split
  · exact an_not h
  · exact allNum_nd.2 ⟨num_z 8, by simp [h, h']⟩
theorem an_ev {x : Fm} {lo hi : Int} (hl : I64 lo) (hh : I64 hi) (h : allNum x) : allNum (nEv lo hi x) := by
  unfold nEv
  split
  · exact an_leaf _
  split
  · exact an_leaf _
  · exact allNum_nd.2 ⟨⟨i64_0, hl, hh⟩, by simpa using h⟩
theorem an_un {x y : Fm} {lo hi : Int} (hl : I64 lo) (hh : I64 hi) (h : allNum x) (h' : allNum y) : allNum (nUn lo hi x y) := by
  unfold nUn
  split
  · exact an_leaf _
  split
  · exact h'
  split
  · exact an_leaf _
  split
  · exact an_ev hl hh h'
  split
  · exact an_leaf _
  · exact allNum_nd.2 ⟨⟨i64_0, hl, hh⟩, by simp [h, h']⟩

theorem an_become {n : Nd} {x y : Fm} (hn : Num n) (h : allNum x) (h' : allNum y) : allNum (become2 n x y) := by
  obtain ⟨h1, h2, h3⟩ := hn
  unfold become2
  split
  · exact allNum_nd.2 ⟨⟨h1, i64_0, i64_0⟩, by simp⟩
  split
  · exact an_not h
  split
  · exact an_and h h'
  split
  · exact an_not (an_and (an_not h) (an_not h'))
  split
  · exact an_not (an_and h (an_not h'))
  split
  · exact an_iff h h'
  split
  · exact an_ev h2 h3 h
  split
  · exact an_not (an_ev h2 h3 (an_not h))
  split
  · exact an_un h2 h3 h h'
  split
  · exact an_not (an_un h2 h3 (an_not h) (an_not h'))
  · exact an_leaf 0

theorem an_made (f : Fm) : allNum f → allNum (made f) := by
  induction f using Tr.ind with
  | h x ks ih =>
    intro h
    obtain ⟨h1, h2⟩ := allNum_nd.1 h
    rw [made_nd]
    unfold become
    have hk : ∀ m, m ∈ ks.map made → allNum m := fun m hm => by
      obtain ⟨k, hk, rfl⟩ := List.mem_map.1 hm
      exact ih k hk (h2 k hk)
    generalize ks.map made = l at hk
    refine an_become h1 ?_ ?_
    · rcases l with _ | ⟨a, r⟩
      · exact an_leaf 0
      · exact hk a (by simp)
    · rcases l with _ | ⟨a, _ | ⟨b, r⟩⟩
      · exact an_leaf 0
      · exact an_leaf 0
      · exact hk b (by simp)

/-- An atom that may be. -/
theorem wrong_atom {x : Nd} {ks : List Fm} (h : wrong (.nd x ks) = 0) (h3 : x.op = 3) : 0 ≤ x.cmp ∧ x.cmp ≤ 6 ∧ isName x.nm = true := by
  have e : wrong (.nd x ks) = if x.op < 1 ∨ 12 < x.op ∨ ks.length ≠ kidsOf x.op then 1
      else if x.op ≠ 3 ∧ ¬ (x.nm.toList = [] ∧ x.cmp = 0 ∧ x.val = 0) then 1
      else if x.op < 9 ∧ ¬ (x.lo = 0 ∧ x.hi = 0) then 1
      else if x.op = 3 ∧ (x.cmp < 0 ∨ 6 < x.cmp ∨ x.cmp = 0 ∧ x.val ≠ 0) then 1
      else if x.op = 3 ∧ isName x.nm = false then 21
      else if 9 ≤ x.op ∧ ¬ (0 ≤ x.lo ∧ x.lo ≤ x.hi) then 24
      else 0 := rfl
  rw [e] at h
  clear e
  split at h
  · exact absurd h (by decide)
  split at h
  · exact absurd h (by decide)
  split at h
  · exact absurd h (by decide)
  split at h
  · exact absurd h (by decide)
  rename_i h4
  split at h
  · exact absurd h (by decide)
  rename_i h5
  refine ⟨?_, ?_, ?_⟩
  · omega
  · omega
  · cases hn : isName x.nm
    · exact absurd ⟨h3, hn⟩ h5
    · rfl

theorem nd_wf {x : Nd} {ks : List Fm} (h : wrong (.nd x ks) = 0) (hn : Num x) : x.wf := by
  obtain ⟨h1, h12, -, h3, -⟩ := wrong_zero h
  obtain ⟨n1, n2, n3⟩ := hn
  refine ⟨?_, ?_, n1, n2, n3, ?_⟩
  · unfold I64; omega
  · by_cases e : x.op = 3
    · obtain ⟨a, b, -⟩ := wrong_atom h e
      unfold I64; omega
    · obtain ⟨-, b, -⟩ := h3 e
      unfold I64; omega
  · by_cases e : x.op = 3
    · obtain ⟨-, -, c⟩ := wrong_atom h e
      simp only [isName, Bool.and_eq_true, decide_eq_true_eq] at c
      unfold maxLen
      omega
    · obtain ⟨a, -, -⟩ := h3 e
      rw [nm_nil a]
      show (0 : Nat) ≤ _
      omega

theorem norm_wf {f : Fm} (h : sound f) (hw : allNum f) : ∀ n, n ∈ (normOf f).pre → n.top.wf := by
  rw [normOf_sound h]
  intro n hn
  have h1 := (made_nf f h).sound n hn
  have h2 := an_made f hw n hn
  obtain ⟨x, ks⟩ := n
  exact nd_wf h1 h2

end Go.Proofs.YtnpcakakjhiboaaDoor
