/- Whether a formula holds at a point hangs on the points behind it up to its horizon alone: in plain Lean. No condition. -/
import Derived.Test.YtnpcakakjhiboaaDoorHorP
import Derived.Test.YtnpcakakjhiboaaDoorTruP
namespace Go.Proofs.YtnpcakakjhiboaaDoor

section
variable {w v : List Pt} {i m : Nat}

theorem seg_at (hv : v = (w.drop i).take m) {k : Nat} (hk : k < v.length) : v[k]? = w[i + k]? := by
  subst hv
  rw [List.length_take] at hk
  rw [List.getElem?_take, if_pos (by omega), List.getElem?_drop]

theorem seg_tm (hv : v = (w.drop i).take m) {k : Nat} (hk : k < v.length) : tmOf v k = tmOf w (i + k) := by unfold tmOf; rw [seg_at hv hk]
theorem seg_pr (hv : v = (w.drop i).take m) {k : Nat} (hk : k < v.length) : prOf v k = prOf w (i + k) := by unfold prOf; rw [seg_at hv hk]
theorem seg_len (hv : v = (w.drop i).take m) : v.length = min m (w.length - i) := by subst hv; simp

theorem seg_inR (hv : v = (w.drop i).take m) {k j : Nat} {lo hi : Int} (hk : k < v.length) (hj : j < v.length) : inR v lo hi k j = inR w lo hi (i + k) (i + j) := by
  unfold inR
  rw [seg_tm hv hk, seg_tm hv hj]
  congr 2
  rw [Bool.eq_iff_iff]
  simp

/-- Points behind a segment are out of reach. -/
def Past (w : List Pt) (p0 : Nat) (c : Int) : Prop := ∀ p, p0 ≤ p → p < w.length → c < tmOf w p

theorem seg_ev (hv : v = (w.drop i).take m) {k : Nat} {lo hi : Int} {A B : Nat → Bool} (hk : k < v.length) (hp : Past w (i + m) (tmOf w (i + k) + hi)) (h : ∀ j, k ≤ j → j < v.length → tmOf w (i + j) - tmOf w (i + k) ≤ hi → A j = B (i + j)) :
    evT v lo hi A k = evT w lo hi B (i + k) := by
  have hl := seg_len hv
  rw [Bool.eq_iff_iff, evT_iff, evT_iff]
  constructor
  · rintro ⟨j, h1, h2, h3⟩
    rw [seg_inR hv hk h1] at h2
    refine ⟨i + j, by omega, h2, ?_⟩
    rw [← h j (by have := inR_le h2; omega) h1 (inR_hi h2)]
    exact h3
  · rintro ⟨q, h1, h2, h3⟩
    have h4 := inR_le h2
    have h5 := inR_hi h2
    obtain ⟨j, rfl⟩ : ∃ j, q = i + j := ⟨q - i, by omega⟩
    have hj : j < v.length := by
      rcases Nat.lt_or_ge j v.length with h' | h'
      · exact h'
      · have := hp (i + j) (by omega) h1
        omega
    refine ⟨j, hj, by rw [seg_inR hv hk hj]; exact h2, ?_⟩
    rw [h j (by omega) hj h5]
    exact h3

theorem seg_un (hw : wordOk w = true) (hv : v = (w.drop i).take m) {k : Nat} {lo hi : Int} {A B A' B' : Nat → Bool} (hk : k < v.length) (hp : Past w (i + m) (tmOf w (i + k) + hi))
    (h : ∀ j, k ≤ j → j < v.length → tmOf w (i + j) - tmOf w (i + k) ≤ hi → A j = B (i + j)) (h' : ∀ j, k ≤ j → j < v.length → tmOf w (i + j) - tmOf w (i + k) ≤ hi → A' j = B' (i + j)) :
    unT v lo hi A A' k = unT w lo hi B B' (i + k) := by
  have hl := seg_len hv
  rw [Bool.eq_iff_iff, unT_iff, unT_iff]
  constructor
  · rintro ⟨j, h1, h2, h3, h6⟩
    rw [seg_inR hv hk h1] at h2
    have h4 := inR_le h2
    have h5 := inR_hi h2
    refine ⟨i + j, by omega, h2, by rw [← h' j (by omega) h1 h5]; exact h3, fun q a b => ?_⟩
    obtain ⟨p, rfl⟩ : ∃ p, q = i + p := ⟨q - i, by omega⟩
    have := wordOk_rise hw (i := i + p) (j := i + j) (by omega) (by omega)
    rw [← h p (by omega) (by omega) (by omega)]
    exact h6 p (by omega) (by omega)
  · rintro ⟨q, h1, h2, h3, h6⟩
    have h4 := inR_le h2
    have h5 := inR_hi h2
    obtain ⟨j, rfl⟩ : ∃ j, q = i + j := ⟨q - i, by omega⟩
    have hj : j < v.length := by
      rcases Nat.lt_or_ge j v.length with h' | h'
      · exact h'
      · have := hp (i + j) (by omega) h1
        omega
    refine ⟨j, hj, by rw [seg_inR hv hk hj]; exact h2, by rw [h' j (by omega) hj h5]; exact h3, fun p a b => ?_⟩
    have := wordOk_rise hw (i := i + p) (j := i + j) (by omega) (by omega)
    rw [h p (by omega) (by omega) (by omega)]
    exact h6 (i + p) (by omega) (by omega)

/-- A formula on a segment of a word, where what is cut off is past its horizon. -/
theorem tv_seg (hw : wordOk w = true) (hv : v = (w.drop i).take m) (f : Fm) : sound f → ∀ k, k < v.length → Past w (i + m) (tmOf w (i + k) + hz f) → tv v f k = tv w f (i + k) := by
  induction f using Tr.ind with
  | h n ks ih =>
    intro hs k hk hp
    have hwr := sound_top hs
    have hh := sound_hi hwr
    obtain ⟨h1, h12, hkl, -, -⟩ := wrong_zero hwr
    have hl := seg_len hv
    have hz0 : ∀ a, a ∈ ks → 0 ≤ hz a := fun a ha => hz_nonneg a (sound_kid hs ha)
    have same : ∀ a, a ∈ ks → tv v a k = tv w a (i + k) := fun a ha => ih a ha (sound_kid hs ha) k hk fun p p1 p2 => by
      have := hp p p1 p2
      have := hz_kid_le hwr ha
      omega
    have near : 9 ≤ n.op → ∀ a, a ∈ ks → ∀ j, k ≤ j → j < v.length → tmOf w (i + j) - tmOf w (i + k) ≤ n.hi → tv v a j = tv w a (i + j) := fun h9 a ha j hj hjv hjh => ih a ha (sound_kid hs ha) j hjv fun p p1 p2 => by
      have q1 := hp p p1 p2
      rw [hz_nd, if_pos h9] at q1
      have q2 := maxI_le (List.mem_map_of_mem (f := hz) ha)
      omega
    have past : 9 ≤ n.op → Past w (i + m) (tmOf w (i + k) + n.hi) := fun h9 p p1 p2 => by
      have q1 := hp p p1 p2
      rw [hz_nd, if_pos h9] at q1
      have q2 := maxI_nonneg (ks.map hz)
      omega
    rcases ks with _ | ⟨a, _ | ⟨b, _ | ⟨c, r⟩⟩⟩
    · have e : kidsOf n.op = 0 := by simpa using hkl.symm
      have e3 : n.op = 1 ∨ n.op = 2 ∨ n.op = 3 := by have := kids_0 e; omega
      rw [tv_0, tv_0]
      rcases e3 with e3 | e3 | e3
      · simp [tvN, e3]
      · simp [tvN, e3]
      · simp [tvN, e3, seg_pr hv hk]
    · have e : kidsOf n.op = 1 := by simpa using hkl.symm
      have e3 : n.op = 4 ∨ n.op = 9 ∨ n.op = 10 := kids_1 e
      have sa := same a (by simp)
      rw [tv_1, tv_1]
      rcases e3 with e3 | e3 | e3
      · simp [tvN, e3, sa]
      · have na := near (by omega) a (by simp)
        simp [tvN, e3]
        exact seg_ev hv hk (past (by omega)) na
      · have na := near (by omega) a (by simp)
        simp [tvN, e3]
        exact seg_ev hv hk (past (by omega)) (fun j a1 a2 a3 => by rw [na j a1 a2 a3])
    · have e : kidsOf n.op = 2 := by simpa using hkl.symm
      have e3 : n.op = 5 ∨ n.op = 6 ∨ n.op = 7 ∨ n.op = 8 ∨ n.op = 11 ∨ n.op = 12 := by have := kids_2 e; omega
      have sa := same a (by simp)
      have sb := same b (by simp)
      rw [tv_2, tv_2]
      rcases e3 with e3 | e3 | e3 | e3 | e3 | e3
      · simp [tvN, e3, sa, sb]
      · simp [tvN, e3, sa, sb]
      · simp [tvN, e3, sa, sb]
      · simp [tvN, e3, sa, sb]
      · have na := near (by omega) a (by simp)
        have nb := near (by omega) b (by simp)
        simp [tvN, e3]
        exact seg_un hw hv hk (past (by omega)) na nb
      · have na := near (by omega) a (by simp)
        have nb := near (by omega) b (by simp)
        simp [tvN, e3]
        exact seg_un hw hv hk (past (by omega)) (fun j a1 a2 a3 => by rw [na j a1 a2 a3]) (fun j a1 a2 a3 => by rw [nb j a1 a2 a3])
    · exfalso
      have := kids_le2 n.op
      simp at hkl
      omega
end

theorem wordFrom_mono {t t' : Int} (h : t ≤ t') : ∀ {w : List Pt}, wordFrom t' w = true → wordFrom t w = true
  | [], _ => rfl
  | q :: r, hw => by
    simp only [wordFrom, Bool.and_eq_true, decide_eq_true_eq] at hw ⊢
    exact ⟨⟨by omega, hw.1.2⟩, hw.2⟩

theorem wordFrom_take {t : Int} : ∀ {w : List Pt} (m : Nat), wordFrom t w = true → wordFrom t (w.take m) = true
  | [], m, h => by simpa using h
  | q :: r, 0, h => rfl
  | q :: r, m + 1, h => by
    simp only [wordFrom, Bool.and_eq_true, decide_eq_true_eq, List.take_succ_cons] at h ⊢
    exact ⟨h.1, wordFrom_take m h.2⟩

theorem wordFrom_drop : ∀ {t : Int} {w : List Pt} (i : Nat), wordFrom t w = true → wordFrom t (w.drop i) = true
  | t, w, 0, h => by simpa using h
  | t, [], i + 1, h => by simpa using h
  | t, q :: r, i + 1, h => by
    simp only [wordFrom, Bool.and_eq_true, decide_eq_true_eq, List.drop_succ_cons] at h ⊢
    exact wordFrom_mono (by omega) (wordFrom_drop i h.2)

theorem wordOk_seg {w : List Pt} (h : wordOk w = true) (i m : Nat) : wordOk ((w.drop i).take m) = true := wordFrom_take m (wordFrom_drop i h)

/-- Of a rising list the points up to a moment are the first ones. -/
theorem filter_take (c : Int) : ∀ {t : Int} {w : List Pt}, wordFrom t w = true → ∃ m, w.filter (fun p => decide (p.tm ≤ c)) = w.take m ∧ ∀ p, m ≤ p → p < w.length → c < tmOf w p
  | t, [], _ => ⟨0, by simp, by simp⟩
  | t, q :: r, h => by
    have h0 := h
    simp only [wordFrom, Bool.and_eq_true, decide_eq_true_eq] at h
    by_cases hq : q.tm ≤ c
    · obtain ⟨m, h1, h2⟩ := filter_take c h.2
      refine ⟨m + 1, by simp [hq, h1], fun p p1 p2 => ?_⟩
      obtain ⟨p, rfl⟩ : ∃ k, p = k + 1 := ⟨p - 1, by omega⟩
      have e : tmOf (q :: r) (p + 1) = tmOf r p := by simp [tmOf]
      rw [e]
      exact h2 p (by omega) (by simpa using p2)
    · have hall : ∀ p, p < (q :: r).length → c < tmOf (q :: r) p := fun p hp => by
        rcases p with _ | p
        · simp only [tmOf, List.getElem?_cons_zero]; omega
        · have := wordFrom_rise h0 0 (p + 1) (by omega) hp
          simp only [tmOf, List.getElem?_cons_zero] at this ⊢
          omega
      refine ⟨0, ?_, fun p _ p2 => hall p p2⟩
      rw [List.take_zero, List.filter_eq_nil_iff]
      intro x hx
      obtain ⟨k, hk⟩ := List.getElem?_of_mem hx
      have hkl : k < (q :: r).length := by
        rcases Nat.lt_or_ge k (q :: r).length with h' | h'
        · exact h'
        · rw [List.getElem?_eq_none h'] at hk; cases hk
      have := hall k hkl
      simp only [tmOf, hk] at this
      simp; omega

/-- The points from one on, up to a horizon. -/
def nearOf (w : List Pt) (i : Nat) (h : Int) : List Pt := (w.drop i).filter fun p => decide (p.tm - tmOf w i ≤ h)

theorem near_holds {f : Fm} {w : List Pt} {i : Nat} (hs : sound f) (hw : wordOk w = true) (hi : i < w.length) : holdsF f (nearOf w i (hz f)) 0 = holdsF f w i := by
  obtain ⟨m, h1, h2⟩ := filter_take (tmOf w i + hz f) (wordFrom_drop i hw)
  have e : nearOf w i (hz f) = (w.drop i).take m := by
    rw [← h1]
    unfold nearOf
    congr 1
    funext p
    rw [Bool.eq_iff_iff]
    simp
    omega
  have h0 := hz_nonneg f hs
  have hl : 0 < ((w.drop i).take m).length := by
    rw [← h1]
    have hm : w[i] ∈ (w.drop i).filter (fun p => decide (p.tm ≤ tmOf w i + hz f)) := by
      rw [List.mem_filter]
      refine ⟨by rw [List.drop_eq_getElem_cons hi]; exact List.mem_cons_self, ?_⟩
      have e2 : tmOf w i = w[i].tm := by simp [tmOf, hi]
      rw [e2, decide_eq_true_eq]
      omega
    exact List.length_pos_of_mem hm
  have hp : Past w (i + m) (tmOf w (i + 0) + hz f) := fun p p1 p2 => by
    have := h2 (p - i) (by omega) (by rw [List.length_drop]; omega)
    have e2 : tmOf (w.drop i) (p - i) = tmOf w p := by
      unfold tmOf
      rw [List.getElem?_drop, show i + (p - i) = p by omega]
    rw [e2] at this
    simpa using this
  rw [e, Bool.eq_iff_iff, holdsF_iff, holdsF_iff]
  have ht := tv_seg hw rfl f hs 0 hl hp
  rw [Nat.add_zero] at ht
  rw [ht, wordOk_seg hw i m, hw]
  constructor
  · rintro ⟨a, b, -, d⟩
    exact ⟨a, b, hi, d⟩
  · rintro ⟨a, b, -, d⟩
    exact ⟨a, b, hl, d⟩

end Go.Proofs.YtnpcakakjhiboaaDoor
