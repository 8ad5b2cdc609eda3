/- Regions that draw their order, of which the last operations come in one forced order: the first ones by what each leaves, whatever the order; then the rest. No condition. -/
import Derived.StillTail
import Derived.Test.YtnpcakakjhiboaaDoorCalm
namespace Go.Lo
open Go Go.RowKit

section
variable {P : Program} {Q : Exit → Act → World → Prop}

/-- Each operation from m on waits for all of the first m. -/
def tailAll (m n : Nat) (B : List (List Nat)) : Bool := (List.range n).all fun i => decide (i < m) || (List.range m).all fun j => (B.getD i []).contains j

/-- What is to be shown of operation i: the frame bears the first m operations' values. -/
def StepT (m : Nat) (P : Program) (ops : Array Oper) (Q : Exit → Act → World → Prop) (B : List (List Nat)) (S : World → Prop) (R : World → World → Prop) (Φ : Nat → Value → World → Prop) (a : Act) (i : Nat) (o : Oper) : Prop :=
  ∀ (u : Nat → Value) (w : World) (K : Act → World → Prop), S w → (∀ j, (B.getD i []).contains j = true → Φ j (u j) w) →
    Shut (∀ v w', S w' → R w w' → Φ i v w' → K ((putsFrom u 0 (ops.toList.take m) a).put o.dst v) w') →
    if Region.wanted o (yielded ops (putsFrom u 0 (ops.toList.take m) a).tmps) = true then o.wp P (putsFrom u 0 (ops.toList.take m) a) w K Q else K ((putsFrom u 0 (ops.toList.take m) a).put o.dst undef) w

/-- The same, by what is wanted. -/
def StepV (m : Nat) (P : Program) (ops : Array Oper) (Q : Exit → Act → World → Prop) (B : List (List Nat)) (S : World → Prop) (L : List Want) (a : Act) (i : Nat) (o : Oper) : Prop :=
  ∀ (u : Nat → Value) (w : World) (K : Act → World → Prop), S w → (∀ j, (B.getD i []).contains j = true → (L.getD j .any).p (u j) w) →
    Shut (∀ v w', Quiet w w' → (L.getD i .any).p v w' → K ((putsFrom u 0 (ops.toList.take m) a).put o.dst v) w') →
    if Region.wanted o (yielded ops (putsFrom u 0 (ops.toList.take m) a).tmps) = true then o.wp P (putsFrom u 0 (ops.toList.take m) a) w K Q else K ((putsFrom u 0 (ops.toList.take m) a).put o.dst undef) w

theorem wp_region_calm_tail {ops : Array Oper} {id : Nat} {a : Act} {w : World} (m : Nat) (hm : P.follows .mixedOrders = true) (hB : belowOk ops.toList (belowOf ops.toList) = true) (hd : dstsOk ops.toList = true)
    (hl : tailAll m ops.size (belowOf ops.toList) = true) (hm0 : m ≤ ops.size) (hq : Region.seqB .any ops (ops.size - m) m (Array.replicate m true ++ Array.replicate (ops.size - m) false) = true) (S : World → Prop) (R : World → World → Prop) (Φ : Nat → Value → World → Prop) (hR : ∀ i v w w', R w w' → Φ i v w → Φ i v w') (h0 : S w.drew)
    (hstep : ∀ i o, ops[i]? = some o → i < m → StepT m P ops Q (belowOf ops.toList) S R Φ a i o) (hend : ∀ u w, S w → (∀ j, j < m → Φ j (u j) w) → wpList P ops Q (ops.toList.drop m) (putsFrom u 0 (ops.toList.take m) a) w) :
    (Code.region id ops true).wp P Q a w := by
  generalize hBe : belowOf ops.toList = B at *
  have hl1 : ∀ i, m ≤ i → i < ops.size → ∀ j, j < m → (B.getD i []).contains j = true := fun i h1 h2 j hj => by
    have := List.all_eq_true.1 hl i (List.mem_range.2 h2)
    simp only [Bool.or_eq_true, decide_eq_true_eq] at this
    rcases this with h | h
    · omega
    · exact List.all_eq_true.1 h j (List.mem_range.2 hj)
  have hB1 : ∀ i o, ops[i]? = some o → (∀ k, k ∈ waits o → k < i) ∧ ∀ j, (B.getD i []).contains j = true → j ∈ waits o ∨ ∃ k, k ∈ waits o ∧ (B.getD k []).contains j = true := by
    intro i o ho
    have hlt : i < ops.toList.length := by simpa using (Array.getElem?_eq_some_iff.1 ho).1
    have := List.all_eq_true.1 hB i (List.mem_range.2 hlt)
    rw [Array.getElem?_toList, ho] at this
    simp only [Bool.and_eq_true, List.all_eq_true, decide_eq_true_eq] at this
    refine ⟨this.1, fun j hj => ?_⟩
    have := this.2 j (by simpa using hj)
    simp only [Bool.or_eq_true, List.any_eq_true] at this
    rcases this with h | ⟨k, hk, h⟩
    · exact .inl (by simpa using h)
    · exact .inr ⟨k, hk, h⟩
  have hd1 : ∀ (i j : Nat) (x y : Oper), ops[i]? = some x → ops[j]? = some y → i ≠ j → ∀ e, x.dst = some e → y.dst ≠ some e := by
    intro i j x y hx hy hij e he
    have h1 : i < ops.toList.length := by simpa using (Array.getElem?_eq_some_iff.1 hx).1
    have h2 : j < ops.toList.length := by simpa using (Array.getElem?_eq_some_iff.1 hy).1
    have := List.all_eq_true.1 (List.all_eq_true.1 hd i (List.mem_range.2 h1)) j (List.mem_range.2 h2)
    rw [Array.getElem?_toList, Array.getElem?_toList, hx, hy] at this
    simp only [he, Bool.or_eq_true, beq_iff_eq, bne_iff_ne] at this
    exact this.resolve_left hij
  have hw : ∀ {i : Nat} {o : Oper} {e : Edge}, ops[i]? = some o → e ∈ o.after → Region.binds .any e = true → e.on ∈ waits o := fun _ he hb => by
    simp only [waits, List.mem_map, List.mem_filter, Array.mem_toList_iff]
    exact ⟨_, ⟨he, hb⟩, rfl⟩
  have hw2 : ∀ {o : Oper} {k : Nat}, k ∈ waits o → ∃ e, e ∈ o.after ∧ Region.binds .any e = true ∧ e.on = k := fun h => by
    simp only [waits, List.mem_map, List.mem_filter, Array.mem_toList_iff] at h
    obtain ⟨e, ⟨h1, h2⟩, h3⟩ := h
    exact ⟨e, h1, h2, h3⟩
  refine wp_region_any hm ?_
  suffices H : ∀ (fuel : Nat) (listed : Array Bool) (u : Nat → Value) (w' : World), listed.size = ops.size → (∀ i o, ops[i]? = some o → listed.getD i false = true → ∀ k, k ∈ waits o → listed.getD k false = true) →
      listed.toList.count false = fuel → (∀ i, listed.getD i false = true → i < m) → S w' → (∀ i, listed.getD i false = true → Φ i (u i) w') → wpAny P .any ops Q fuel listed (putsFrom u 0 (ops.toList.take m) a) w' by
    have := H ops.size (Array.replicate ops.size false) (fun k => match (ops[k]?).bind (·.dst) with | some t => a.tmps.getD t undef | none => undef) w.drew (by simp)
      (fun i o _ h => by simp [Array.getD] at h) (by simp) (fun i h => by simp [Array.getD] at h) h0 (fun i h => by simp [Array.getD] at h)
    have hps : putsFrom (fun k => match (ops[k]?).bind (·.dst) with | some t => a.tmps.getD t undef | none => undef) 0 (ops.toList.take m) a = a := putsFrom_self (fun k => (ops[k]?).bind (·.dst)) (ops.toList.take m) 0 a (fun i o ho => by
      have ho2 : ops.toList[i]? = some o := by
        rw [List.getElem?_take] at ho
        split at ho
        · exact ho
        · cases ho
      rw [Nat.zero_add, ← Array.getElem?_toList, ho2]; rfl)
    rw [hps] at this
    exact this
  have finish : ∀ (fuel : Nat) (listed : Array Bool) (u : Nat → Value) (w' : World), listed.size = ops.size → listed.toList.count false = fuel → (∀ i, listed.getD i false = true → i < m) → (∀ i, i < m → listed.getD i false = true) → S w' → (∀ i, listed.getD i false = true → Φ i (u i) w') →
      wpAny P .any ops Q fuel listed (putsFrom u 0 (ops.toList.take m) a) w' := by
    intro fuel listed u w' hsz hc hlm hml hS hΦ
    have hL : listed = Array.replicate m true ++ Array.replicate (ops.size - m) false := by
      apply Array.ext
      · simp; omega
      · intro i h1 h2
        have hg : listed.getD i false = listed[i] := by simp [Array.getD, h1]
        by_cases him : i < m
        · have := hml i him
          rw [hg] at this
          rw [this, Array.getElem_append_left (by simpa using him)]
          simp
        · have : listed[i] = false := by
            cases h : listed[i]
            · rfl
            · exact absurd (hlm i (by rw [hg]; exact h)) him
          rw [this, Array.getElem_append_right (by simpa using by omega)]
          simp
    have hf : fuel = ops.size - m := by
      rw [← hc, hL]
      simp [List.count_replicate]
    have h2 := wpAny_of_seq (P := P) (md := .any) (ops := ops) (Q' := Q) (ops.toList.drop m) m listed (putsFrom u 0 (ops.toList.take m) a) w' (fun j => by rw [List.getElem?_drop, Array.getElem?_toList]) (by rw [hL, List.length_drop, Array.length_toList]; exact hq) (hend u w' hS (fun j hj => hΦ j (hml j hj)))
    rw [List.length_drop, Array.length_toList, ← hf] at h2
    exact h2
  intro fuel
  induction fuel with
  | zero =>
    intro listed u w' hsz hdown hc hlast hS hΦ
    refine finish 0 listed u w' hsz hc hlast (fun i hi => ?_) hS hΦ
    have hlt : i < listed.size := by omega
    cases hg : listed.getD i false with
    | true => rfl
    | false =>
      have : false ∈ listed.toList := by
        have e : listed[i] = false := by simpa [Array.getD, hlt] using hg
        rw [← e]
        simp
      have := List.one_le_count_iff.2 this
      omega
  | succ fuel ih =>
    intro listed u w' hsz hdown hc hlast hS hΦ
    have get : ∀ i, i < ops.size → listed.getD i true = listed.getD i false := fun i hi => by simp [Array.getD, hsz, hi]
    have reach : ∀ i, (∀ o, ops[i]? = some o → ∀ k, k ∈ waits o → listed.getD k false = true) → i < ops.size → ∀ j, (B.getD i []).contains j = true → listed.getD j false = true := by
      intro i
      induction i using Nat.strongRecOn with
      | ind i ihi =>
        intro hi hlt j hj
        obtain ⟨o, ho⟩ : ∃ o, ops[i]? = some o := ⟨_, Array.getElem?_eq_getElem hlt⟩
        obtain ⟨hb1, hb2⟩ := hB1 i o ho
        rcases hb2 j hj with h | ⟨k, hk, h⟩
        · exact hi o ho j h
        · have hki := hb1 k hk
          exact ihi k hki (fun o' ho' => hdown k o' ho' (hi o ho k hk)) (by omega) j h
    by_cases hall : ∀ i, i < m → listed.getD i false = true
    · exact finish (fuel + 1) listed u w' hsz hc hlast hall hS hΦ
    refine ⟨fun hr => ?_, fun i hi => ?_⟩
    · exfalso
      have all : ∀ i, i < ops.size → listed.getD i false = true := by
        intro i
        induction i using Nat.strongRecOn with
        | ind i ihi =>
          intro hlt
          cases hg : listed.getD i false with
          | true => rfl
          | false =>
            obtain ⟨o, ho⟩ : ∃ o, ops[i]? = some o := ⟨_, Array.getElem?_eq_getElem hlt⟩
            have : i ∈ Region.ready .any ops listed := mem_ready.2 ⟨by rw [get i hlt]; exact hg, o, ho, fun e he hb => by
              have hk := hw ho he hb
              have := (hB1 i o ho).1 _ hk
              exact ihi _ this (by omega)⟩
            rw [hr] at this
            cases this
      exact hall (fun i hi => all i (by omega))
    · obtain ⟨hun, o, ho, hdeps⟩ := mem_ready.1 hi
      have hlt : i < ops.size := (Array.getElem?_eq_some_iff.1 ho).1
      have hun2 : listed.getD i false = false := by rw [← get i hlt]; exact hun
      have hdeps2 : ∀ o', ops[i]? = some o' → ∀ k, k ∈ waits o' → listed.getD k false = true := fun o' ho' k hk => by
        rw [ho] at ho'
        cases ho'
        obtain ⟨e, h1, h2, rfl⟩ := hw2 hk
        exact hdeps e h1 h2
      have hset : i < m → ∀ v, (putsFrom u 0 (ops.toList.take m) a).put o.dst v = putsFrom (fun k => if k = i then v else u k) 0 (ops.toList.take m) a := fun him v => by
        rw [putsFrom_set u v (ops.toList.take m) 0 a i o (by rw [List.getElem?_take, if_pos him, Array.getElem?_toList]; exact ho) (fun j x hj hne e he => hd1 i j o x ho (by
          rw [List.getElem?_take] at hj
          split at hj
          · rw [← Array.getElem?_toList]; exact hj
          · cases hj) (Ne.symm hne) e he)]
        simp only [Nat.zero_add]
      by_cases hl2 : i < m
      · have hk : ∀ v w2, S w2 → R w' w2 → Φ i v w2 → wpAny P .any ops Q fuel (listed.setIfInBounds i true) ((putsFrom u 0 (ops.toList.take m) a).put o.dst v) w2 := fun v w2 hS2 hR2 hΦ2 => by
          rw [hset hl2]
          refine ih _ _ _ (by simpa using hsz) ?_ ?_ ?_ hS2 ?_
          · intro j x hx hj k hk
            by_cases hji : j = i
            · subst hji
              exact getD_set_true (hdeps2 x hx k hk)
            · rw [getD_set_ne false (Ne.symm hji)] at hj
              exact getD_set_true (hdown j x hx hj k hk)
          · rw [Array.toList_setIfInBounds, List.count_set (by simpa using by omega)]
            have e : listed.toList[i]'(by simpa using by omega) = false := by
              have : listed[i]'(by omega) = false := by simpa [Array.getD, hsz, hlt] using hun2
              simpa using this
            simp only [e, beq_self_eq_true, if_true, show (true == false) = false from rfl, Bool.false_eq_true, if_false]
            omega
          · intro j hj
            by_cases hji : j = i
            · omega
            · rw [getD_set_ne false (Ne.symm hji)] at hj
              exact hlast j hj
          · intro j hj
            by_cases hji : j = i
            · subst hji; rw [if_pos rfl]; exact hΦ2
            · rw [if_neg hji]
              rw [getD_set_ne false (Ne.symm hji)] at hj
              exact hR _ _ _ _ hR2 (hΦ j hj)
        have hst := hstep i o ho hl2 u w' (wpAny P .any ops Q fuel (listed.setIfInBounds i true)) hS (fun j hj => hΦ j (reach i hdeps2 hlt j hj)) hk
        unfold wpOp
        simp only [ho]
        split
        · rename_i h1; rw [if_pos h1] at hst; exact .inl hst
        · rename_i h1; rw [if_neg h1] at hst; exact hst
      · exact absurd (fun j hj => reach i hdeps2 hlt j (hl1 i (by omega) hlt j hj)) hall

/-- A drawn region, operation by operation, in the text's order; the last ones, which come in one order, as a plain list. -/
theorem wp_region_tail (m : Nat) {ops : Array Oper} {id : Nat} {a : Act} {w : World} (hm : P.follows .mixedOrders = true) (hB : belowOk ops.toList (belowOf ops.toList) = true) (hd : dstsOk ops.toList = true)
    (hl : tailAll m ops.size (belowOf ops.toList) = true) (hq : Region.seqB .any ops (ops.size - m) m (Array.replicate m true ++ Array.replicate (ops.size - m) false) = true) (S : World → Prop) (hS : ∀ w w', Quiet w w' → S w → S w') (L : List Want) (h0 : S w.drew) (hm0 : m ≤ ops.size)
    (h : Steps (StepV m P ops Q (belowOf ops.toList) S L a) (fun o => StepV m P ops Q (belowOf ops.toList) S L a (m - 1) o) 0 (ops.toList.take m))
    (hend : ∀ u w, S w → (∀ j, j < m → (L.getD j .any).p (u j) w) → wpList P ops Q (ops.toList.drop m) (putsFrom u 0 (ops.toList.take m) a) w) : (Code.region id ops true).wp P Q a w := by
  have hg := Steps.get (ops.toList.take m) 0 h
  refine wp_region_calm_tail m hm hB hd hl hm0 hq S Quiet (fun i v w => (L.getD i .any).p v w) (fun i v w w' hq hp => (L.getD i .any).st v w w' hq hp) h0 (fun i o ho hi => ?_) hend
  have h1 := hg i o (by rw [List.getElem?_take, if_pos hi, Array.getElem?_toList]; exact ho)
  have hlen : (ops.toList.take m).length = m := by simp; omega
  rw [hlen, Nat.zero_add] at h1
  by_cases hi2 : i + 1 < m
  · exact fun u w K hs hf hk => h1.1 hi2 u w K hs hf (fun v w' hq hp => hk v w' (hS _ _ hq hs) hq hp)
  · have e : m - 1 = i := by omega
    rw [e] at h1
    exact fun u w K hs hf hk => h1.2 (by omega) u w K hs hf (fun v w' hq hp => hk v w' (hS _ _ hq hs) hq hp)

end
end Go.Lo
