/- Whose turn it is, in plain Lean: the visits; what holds of each. No condition. -/
namespace Go.Proofs.Ytoebhifnfomkhaa

/-- How it stands: n sources; what a visit brings; the deficits; the source that is visited; whether its visit has begun. -/
structure D where
  n : Nat
  g : Nat → Int
  f : Nat → Int
  p : Nat
  b : Bool

def put (f : Nat → Int) (k : Nat) (v : Int) : Nat → Int := fun i => if i = k then v else f i
theorem put_same (f : Nat → Int) (k : Nat) (v : Int) : put f k v k = v := by simp [put]
theorem put_other (f : Nat → Int) (k : Nat) (v : Int) (i : Nat) (h : i ≠ k) : put f k v i = f i := by simp [put, h]

/-- A cost, cut at 64. -/
def cl (x : Int) : Int := if x < 64 then x else 64

namespace D
def pass (d : D) : D := ⟨d.n, d.g, d.f, (d.p + 1) % d.n, false⟩
def zero (d : D) : D := ⟨d.n, d.g, put d.f d.p 0, d.p, d.b⟩
def start (d : D) : D := if d.b then d else ⟨d.n, d.g, put d.f d.p (d.f d.p + d.g d.p), d.p, true⟩
def spend (d : D) (c : Int) : D := ⟨d.n, d.g, put d.f d.p (d.f d.p - c), d.p, d.b⟩
end D

/-- From d the visits go on till a source is served: then it stands as d'. -/
inductive Runs (c : Nat → Int) : D → D → Nat → Prop
  | skip (d d' : D) (k : Nat) : cl (c d.p) ≤ 0 → Runs c d.zero.pass d' k → Runs c d d' k
  | wait (d d' : D) (k : Nat) : 0 < cl (c d.p) → d.start.f d.p < cl (c d.p) → Runs c d.start.pass d' k → Runs c d d' k
  | serve (d : D) : 0 < cl (c d.p) → cl (c d.p) ≤ d.start.f d.p → Runs c d (d.start.spend (cl (c d.p))) d.p

/-- It goes one way alone. -/
theorem Runs.only {c : Nat → Int} {d d1 d2 : D} {k1 k2 : Nat} (h1 : Runs c d d1 k1) (h2 : Runs c d d2 k2) : d1 = d2 ∧ k1 = k2 := by
  induction h1 with
  | skip d d' k hc _ ih =>
    cases h2 with
    | skip _ _ _ _ h => exact ih h
    | wait _ _ _ h0 _ _ => omega
    | serve _ h0 _ => omega
  | wait d d' k h0 hc _ ih =>
    cases h2 with
    | skip _ _ _ h _ => omega
    | wait _ _ _ _ _ h => exact ih h
    | serve _ _ h => omega
  | serve d h0 hc =>
    cases h2 with
    | skip _ _ _ h _ => omega
    | wait _ _ _ _ h _ => omega
    | serve _ _ _ => exact ⟨rfl, rfl⟩

/-- The bounds: gains from 1 to 1024; deficits 0 or above, below 64 but for the one that is visited, and what its visit brought more. -/
structure D.Ok (d : D) : Prop where
  n1 : 1 ≤ d.n
  n8 : d.n ≤ 8
  g1 : ∀ i, i < d.n → 1 ≤ d.g i
  g2 : ∀ i, i < d.n → d.g i ≤ 1024
  p1 : d.p < d.n
  f0 : ∀ i, i < d.n → 0 ≤ d.f i
  f1 : ∀ i, i < d.n → d.f i ≤ 63 + (if i = d.p ∧ d.b = true then d.g i else 0)

theorem D.start_p (d : D) : d.start.p = d.p := by unfold D.start; split <;> rfl
theorem D.start_n (d : D) : d.start.n = d.n := by unfold D.start; split <;> rfl
theorem D.start_g (d : D) : d.start.g = d.g := by unfold D.start; split <;> rfl
theorem D.start_b (d : D) : d.start.b = true := by unfold D.start; split <;> simp_all

theorem D.Ok.start {d : D} (h : d.Ok) : d.start.Ok := by
  unfold D.start
  by_cases hb : d.b = true
  · rw [if_pos hb]; exact h
  · rw [if_neg hb]
    have hp := h.p1
    refine ⟨h.n1, h.n8, h.g1, h.g2, h.p1, fun i hi => ?_, fun i hi => ?_⟩
    · have := h.f0 i hi; have := h.g1 i hi
      simp only [put]; split
      · rename_i e; subst e; omega
      · omega
    · have h1 := h.f1 i hi
      have hbf : d.b = false := by simpa using hb
      simp only [put, hbf] at h1 ⊢
      by_cases e : i = d.p
      · subst e; simp at h1 ⊢; omega
      · simp [e] at h1 ⊢; omega

theorem D.Ok.pass_of {d : D} (h : d.Ok) (hf : d.f d.p ≤ 63) : d.pass.Ok := by
  refine ⟨h.n1, h.n8, h.g1, h.g2, Nat.mod_lt _ h.n1, h.f0, fun i hi => ?_⟩
  have h1 := h.f1 i hi
  simp only [D.pass]
  by_cases e : i = d.p
  · subst e; simp; omega
  · simp [e] at h1 ⊢; omega

theorem cl_le (x : Int) : cl x ≤ 64 := by unfold cl; split <;> omega

theorem D.Ok.zero {d : D} (h : d.Ok) : d.zero.Ok := by
  refine ⟨h.n1, h.n8, h.g1, h.g2, h.p1, fun i hi => ?_, fun i hi => ?_⟩
  · have := h.f0 i hi
    simp only [D.zero, put]; split <;> omega
  · have := h.f1 i hi; have := h.f0 i hi; have := h.g1 i hi
    simp only [D.zero, put]
    by_cases e : i = d.p
    · subst e; simp; split <;> omega
    · simp [e] at *; omega

theorem D.Ok.spend {d : D} (h : d.Ok) (c : Int) (h0 : 0 < c) (h1 : c ≤ d.f d.p) : (d.spend c).Ok := by
  refine ⟨h.n1, h.n8, h.g1, h.g2, h.p1, fun i hi => ?_, fun i hi => ?_⟩
  · have := h.f0 i hi
    simp only [D.spend, put]; split <;> omega
  · have := h.f1 i hi
    simp only [D.spend, put]
    by_cases e : i = d.p
    · subst e; simp at *; split <;> simp_all <;> omega
    · simp [e] at *; omega

theorem D.Ok.skipped {d : D} (h : d.Ok) : d.zero.pass.Ok := h.zero.pass_of (by simp [D.zero, put_same])
theorem D.Ok.waited {d : D} (h : d.Ok) {c : Nat → Int} (hc : d.start.f d.p < cl (c d.p)) : d.start.pass.Ok :=
  h.start.pass_of (by rw [D.start_p]; have := cl_le (c d.p); omega)

/-- Serving leaves it sound; a source is served at which something waits; the sources and their gains stay. -/
theorem Runs.ok {c : Nat → Int} {d d' : D} {k : Nat} (h : Runs c d d' k) (ok : d.Ok) : d'.Ok ∧ k < d.n ∧ 0 < c k ∧ d'.n = d.n ∧ d'.g = d.g ∧ d'.p = k ∧ d'.b = true := by
  induction h with
  | skip d d' k hc _ ih => exact ih ok.skipped
  | wait d d' k h0 hc _ ih =>
    have := ih (ok.waited hc)
    simpa only [D.pass, D.start_n, D.start_g] using this
  | serve d h0 hc =>
    refine ⟨ok.start.spend _ h0 (by rw [D.start_p]; exact hc), ok.p1, ?_, ?_, ?_, ?_, ?_⟩
    · unfold cl at h0; split at h0 <;> omega
    · simp [D.spend, D.start_n]
    · simp [D.spend, D.start_g]
    · simp [D.spend, D.start_p]
    · simp [D.spend, D.start_b]

/-- How many visits there are at most till source j is served. -/
def left (j : Nat) (d : D) : Nat := (65 - d.f j).toNat * d.n + (j + d.n - d.p) % d.n + (if d.p = j ∧ d.b = true then d.n else 0)

theorem dist_pass (n j p : Nat) (hp : p < n) (hj : j < n) (h : p ≠ j) : (j + n - (p + 1) % n) % n + 1 = (j + n - p) % n := by
  by_cases e : p + 1 = n
  · rw [e, Nat.mod_self, Nat.sub_zero, Nat.add_mod_right, Nat.mod_eq_of_lt hj]
    have : j + n - p = j + 1 := by omega
    rw [this, Nat.mod_eq_of_lt (by omega)]
  · rw [Nat.mod_eq_of_lt (show p + 1 < n by omega)]
    by_cases hjp : p < j
    · have e1 : j + n - (p + 1) = (j - (p + 1)) + n := by omega
      have e2 : j + n - p = (j - p) + n := by omega
      rw [e1, e2, Nat.add_mod_right, Nat.add_mod_right, Nat.mod_eq_of_lt (by omega), Nat.mod_eq_of_lt (by omega)]
      omega
    · rw [Nat.mod_eq_of_lt (show j + n - (p + 1) < n by omega), Nat.mod_eq_of_lt (show j + n - p < n by omega)]
      omega

theorem dist_here (n j : Nat) (hj : j < n) : (j + n - (j + 1) % n) % n = n - 1 ∧ (j + n - j) % n = 0 := by
  constructor
  · by_cases e : j + 1 = n
    · rw [e, Nat.mod_self, Nat.sub_zero, Nat.add_mod_right, Nat.mod_eq_of_lt hj]; omega
    · rw [Nat.mod_eq_of_lt (show j + 1 < n by omega), Nat.mod_eq_of_lt (by omega)]; omega
  · rw [show j + n - j = n by omega, Nat.mod_self]

theorem left_skip (j : Nat) (d : D) (ok : d.Ok) (hj : j < d.n) (h : d.p ≠ j) : left j d.zero.pass < left j d := by
  have := dist_pass d.n j d.p ok.p1 hj h
  unfold left
  simp only [D.zero, D.pass, put_other _ _ _ j (fun e => h e.symm)]
  simp [h]
  omega

theorem left_wait (j : Nat) (d : D) (ok : d.Ok) (hj : j < d.n) (hc : d.start.f d.p < 64) : left j d.start.pass < left j d := by
  unfold left
  simp only [D.pass, D.start_n, D.start_p]
  simp only [Bool.false_eq_true, and_false, if_false, Nat.add_zero]
  by_cases h : d.p = j
  · subst h
    obtain ⟨e1, e2⟩ := dist_here d.n d.p ok.p1
    rw [e1, e2]
    unfold D.start at hc ⊢
    by_cases hb : d.b = true
    · simp [hb]
      have := ok.n1
      omega
    · simp only [if_neg hb, put_same] at hc ⊢
      have := ok.g1 _ ok.p1
      have := ok.f0 _ ok.p1
      have hm : (65 - (d.f d.p + d.g d.p)).toNat + 1 ≤ (65 - d.f d.p).toNat := by omega
      have := Nat.mul_le_mul_right d.n hm
      rw [Nat.add_mul, Nat.one_mul] at this
      have := ok.n1
      simp [hb]
      omega
  · have := dist_pass d.n j d.p ok.p1 hj h
    have e : d.start.f j = d.f j := by unfold D.start; split <;> simp [put, Ne.symm h]
    rw [e]
    simp [h]
    omega

end Go.Proofs.Ytoebhifnfomkhaa
