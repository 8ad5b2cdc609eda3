/- Of two sources at which something waits all the while, each is visited as often as the other one, but for one visit: plain Lean. No condition. -/
import Derived.Test.YtoebhifnfomkhaaClamps
namespace Go.Proofs.Ytoebhifnfomkhaa

/-- Has source a's visit of this round begun? -/
def ind (a p : Nat) (b : Bool) : Int := if a < p ∨ (a = p ∧ b = true) then 1 else 0

theorem ind_pass (a p n : Nat) (b : Bool) (h : a ≠ p ∨ b = true) (ha : a < n) (hp : p < n) (R : Int) :
    R + ind a p b = (if p + 1 = n then R + 1 else R) + ind a ((p + 1) % n) false := by
  unfold ind
  by_cases e : p + 1 = n
  · rw [if_pos e, e, Nat.mod_self, if_pos (show a < p ∨ (a = p ∧ b = true) by
      rcases h with h | h
      · exact .inl (by omega)
      · by_cases e' : a = p
        · exact .inr ⟨e', h⟩
        · exact .inl (by omega)), if_neg (by simp)]
    omega
  · rw [if_neg e, Nat.mod_eq_of_lt (by omega)]
    congr 1
    by_cases h1 : a < p ∨ (a = p ∧ b = true)
    · rw [if_pos h1, if_pos (by omega)]
    · rw [if_neg h1, if_neg]
      rintro (h2 | ⟨_, h2⟩)
      · rcases h with h | h
        · exact h1 (.inl (by omega))
        · by_cases e' : a = p
          · exact h1 (.inr ⟨e', h⟩)
          · exact h1 (.inl (by omega))
      · simp at h2

/-- What source a was served, and what it has left, are what its visits brought. -/
def Paid (a : Nat) (R x : Int) (d : D) : Prop := d.f a = d.g a * (R + ind a d.p d.b) - x

theorem Paid.start {a : Nat} {R x : Int} {d : D} (h : Paid a R x d) : Paid a R x d.start := by
  unfold D.start
  by_cases hb : d.b = true
  · rw [if_pos hb]; exact h
  · rw [if_neg hb]
    unfold Paid ind at *
    simp only at h ⊢
    by_cases e : a = d.p
    · subst e
      rw [put_same]
      have e1 : ¬ (d.p < d.p ∨ (d.p = d.p ∧ d.b = true)) := by simp [hb]
      rw [if_neg e1] at h
      rw [if_pos (by simp), h, Int.mul_add, Int.mul_add]
      omega
    · rw [put_other _ _ _ _ e]
      have : (a < d.p ∨ (a = d.p ∧ d.b = true)) ↔ (a < d.p ∨ (a = d.p ∧ True)) := by simp [e]
      simp only [this] at h
      simpa using h

theorem Paid.pass {a : Nat} {R x : Int} {d : D} (h : Paid a R x d) (hp : a ≠ d.p ∨ d.b = true) (ha : a < d.n) (hn : d.p < d.n) : Paid a (if d.p + 1 = d.n then R + 1 else R) x d.pass := by
  unfold Paid at *
  simp only [D.pass]
  rw [← ind_pass a d.p d.n d.b hp ha hn R]
  exact h

theorem Runs.paid {c : Nat → Int} {a b : Nat} (ca : 0 < c a) (cb : 0 < c b) {d d' : D} {k : Nat} (h : Runs c d d' k) : ∀ (R x y : Int), d.Ok → a < d.n → b < d.n → Paid a R x d → Paid b R y d →
    ∃ R', Paid a R' (x + if k = a then cl (c k) else 0) d' ∧ Paid b R' (y + if k = b then cl (c k) else 0) d' := by
  have low : ∀ i, cl (c i) ≤ 0 → ¬ 0 < c i := fun i hi => by unfold cl at hi; split at hi <;> omega
  induction h with
  | skip d d' k h0 _ ih =>
    intro R x y ok ha hb pa pb
    have na : a ≠ d.p := fun e => low _ (e ▸ h0) ca
    have nb : b ≠ d.p := fun e => low _ (e ▸ h0) cb
    have za : Paid a R x d.zero := by unfold Paid D.zero at *; simp only [put_other _ _ _ _ na]; exact pa
    have zb : Paid b R y d.zero := by unfold Paid D.zero at *; simp only [put_other _ _ _ _ nb]; exact pb
    exact ih _ x y ok.skipped ha hb (za.pass (.inl na) ha ok.p1) (zb.pass (.inl nb) hb ok.p1)
  | wait d d' k h0 h1 _ ih =>
    intro R x y ok ha hb pa pb
    have e := D.start_n d
    refine ih _ x y (ok.waited h1) (by simpa only [D.pass, e] using ha) (by simpa only [D.pass, e] using hb) (pa.start.pass (.inr (D.start_b d)) (by rw [e]; exact ha) ?_) (pb.start.pass (.inr (D.start_b d)) (by rw [e]; exact hb) ?_)
    · rw [e, D.start_p]; exact ok.p1
    · rw [e, D.start_p]; exact ok.p1
  | serve d h0 h1 =>
    intro R x y ok ha hb pa pb
    have spend : ∀ i z, Paid i R z d → Paid i R (z + if d.p = i then cl (c d.p) else 0) (d.start.spend (cl (c d.p))) := by
      intro i z hi
      have hs := hi.start
      unfold Paid D.spend at *
      simp only [D.start_p] at *
      by_cases e : d.p = i
      · subst e; rw [put_same, if_pos rfl, hs]; omega
      · rw [put_other _ _ _ _ (fun h => e h.symm), if_neg e, hs]; omega
    exact ⟨R, spend a x pa, spend b y pb⟩

theorem fair_eq (q wa wb x y R ia ib fa fb : Int) (hx : fa = q * wa * (R + ia) - x) (hy : fb = q * wb * (R + ib) - y) :
    x * wb - y * wa = q * wa * wb * (ia - ib) - fa * wb + fb * wa := by
  grind

theorem fair_bound (q wa wb x y R ia ib fa fb : Int) (hx : fa = q * wa * (R + ia) - x) (hy : fb = q * wb * (R + ib) - y) (hq : 1 ≤ q) (ha : 1 ≤ wa) (hb : 1 ≤ wb)
    (hi : ia - ib ≤ 1) (f0 : 0 ≤ fa) (f1 : fb ≤ 63 + q * wb) : x * wb - y * wa ≤ 2 * q * wa * wb + 63 * wa := by
  have e := fair_eq q wa wb x y R ia ib fa fb hx hy
  have t0 : 0 ≤ q * wa * wb := Int.mul_nonneg (Int.mul_nonneg (by omega) (by omega)) (by omega)
  have t1 : q * wa * wb * (ia - ib) ≤ q * wa * wb * 1 := Int.mul_le_mul_of_nonneg_left hi t0
  have t2 : 0 ≤ fa * wb := Int.mul_nonneg f0 (by omega)
  have t3 : fb * wa ≤ (63 + q * wb) * wa := Int.mul_le_mul_of_nonneg_right f1 (by omega)
  have t4 : (63 + q * wb) * wa = 63 * wa + q * wa * wb := by grind
  have t5 : 2 * q * wa * wb = 2 * (q * wa * wb) := by grind
  omega

theorem ind_le (a p : Nat) (b : Bool) (c p' : Nat) (b' : Bool) : ind a p b - ind c p' b' ≤ 1 := by
  unfold ind; split <;> split <;> omega
end Go.Proofs.Ytoebhifnfomkhaa
