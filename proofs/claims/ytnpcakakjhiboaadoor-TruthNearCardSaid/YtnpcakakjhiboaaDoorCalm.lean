/- Regions that draw their order and whose operations make memory and leave alone what was there: by what each operation leaves, each once, whatever the order. No condition. -/
import Derived.Deep.RegionHeld
import Derived.Test.YtnpcakakjhiboaaDoorLo
namespace Go.Lo
open Go Go.RowKit

/-- What the operations leave, in their slots. -/
def putsFrom (u : Nat → Value) : Nat → List Oper → Act → Act
  | _, [], a => a
  | i, o :: r, a => putsFrom u (i + 1) r (a.put o.dst (u i))

/-- The operations that o waits for. -/
def waits (o : Oper) : List Nat := (o.after.toList.filter (Region.binds .any)).map (·.on)

/-- For each operation those that came ahead of it. -/
def belowOf (ops : List Oper) : List (List Nat) :=
  ops.foldl (fun B o => B ++ [(waits o).foldl (fun l k => (B.getD k []).foldl (fun l j => if l.contains j then l else l ++ [j]) (if l.contains k then l else l ++ [k])) []]) []

def belowOk (ops : List Oper) (B : List (List Nat)) : Bool :=
  (List.range ops.length).all fun i => match ops[i]? with
    | none => false
    | some o => ((waits o).all fun k => decide (k < i)) && ((B.getD i []).all fun j => (waits o).contains j || (waits o).any fun k => (B.getD k []).contains j)

/-- The slots are different ones. -/
def dstsOk (ops : List Oper) : Bool :=
  (List.range ops.length).all fun i => (List.range ops.length).all fun j => i == j || match ops[i]?, ops[j]? with
    | some x, some y => (match x.dst with | some d => y.dst != some d | none => true)
    | _, _ => true

section
variable {P : Program} {Q : Exit → Act → World → Prop}

theorem putsFrom_congr {u v : Nat → Value} : ∀ (l : List Oper) (n : Nat) (a : Act), (∀ k, n ≤ k → k < n + l.length → u k = v k) → putsFrom u n l a = putsFrom v n l a
  | [], _, _, _ => rfl
  | o :: r, n, a, h => by
    simp only [putsFrom]
    rw [h n (Nat.le_refl _) (by simp), putsFrom_congr r (n + 1) _ (fun k h1 h2 => h k (by omega) (by simp; omega))]

theorem act_put_same (a : Act) (d : Option Tmp) (v u : Value) : (a.put d v).put d u = a.put d u := by
  cases d with
  | none => rfl
  | some d => simp [Act.put, Array.setIfInBounds_setIfInBounds]

theorem putsFrom_put (u : Nat → Value) (d : Option Tmp) (v : Value) : ∀ (l : List Oper) (n : Nat) (a : Act), (∀ o, o ∈ l → ∀ e, d = some e → o.dst ≠ some e) → (putsFrom u n l a).put d v = putsFrom u n l (a.put d v)
  | [], _, _, _ => rfl
  | o :: r, n, a, h => by
    simp only [putsFrom]
    rw [putsFrom_put u d v r (n + 1) _ (fun o ho => h o (by simp [ho])), Act.put_comm a (u n) v (fun e he hd => h o (by simp) e hd he)]

theorem putsFrom_set (u : Nat → Value) (v : Value) : ∀ (l : List Oper) (n : Nat) (a : Act) (i : Nat) (o : Oper), l[i]? = some o → (∀ j x, l[j]? = some x → j ≠ i → ∀ e, o.dst = some e → x.dst ≠ some e) →
    (putsFrom u n l a).put o.dst v = putsFrom (fun k => if k = n + i then v else u k) n l a
  | [], _, _, _, _, h, _ => by simp at h
  | p :: r, n, a, 0, o, h, hd => by
    obtain rfl : p = o := by simpa using h
    simp only [putsFrom]
    rw [putsFrom_put _ _ _ r (n + 1) _ (fun x hx e he => by
      obtain ⟨j, hj⟩ := List.getElem?_of_mem hx
      exact hd (j + 1) x (by simpa using hj) (by omega) e he), act_put_same]
    rw [putsFrom_congr r (n + 1) _ (v := fun k => if k = n + 0 then v else u k) (fun k h1 _ => by rw [if_neg (by omega)])]
    simp
  | p :: r, n, a, i + 1, o, h, hd => by
    simp only [putsFrom]
    rw [putsFrom_set u v r (n + 1) _ i o (by simpa using h) (fun j x hj hne => hd (j + 1) x (by simpa using hj) (by omega))]
    rw [if_neg (by omega)]
    exact putsFrom_congr r (n + 1) _ (fun k _ _ => by simp only [show n + 1 + i = n + (i + 1) by omega])

theorem act_put_self (a : Act) (d : Option Tmp) : a.put d (match d with | some t => a.tmps.getD t undef | none => undef) = a := by
  cases d with
  | none => rfl
  | some t =>
    simp only [Act.put]
    have : a.tmps.setIfInBounds t (a.tmps.getD t undef) = a.tmps := by
      apply Array.ext
      · simp
      · intro i h1 h2
        rw [Array.getElem_setIfInBounds]
        split
        · rename_i e; subst e; simp [h2]
        · rfl
    rw [this]

theorem putsFrom_self (f : Nat → Option Tmp) : ∀ (l : List Oper) (n : Nat) (a : Act), (∀ i o, l[i]? = some o → f (n + i) = o.dst) → putsFrom (fun k => match f k with | some t => a.tmps.getD t undef | none => undef) n l a = a
  | [], _, _, _ => rfl
  | o :: r, n, a, h => by
    simp only [putsFrom]
    have e : f n = o.dst := h 0 o rfl
    rw [e, act_put_self]
    exact putsFrom_self f r (n + 1) a (fun i o ho => by rw [show n + 1 + i = n + (i + 1) by omega]; exact h (i + 1) o (by simpa using ho))

/-- What is to be shown of operation i. -/
def StepOk (P : Program) (ops : Array Oper) (Q : Exit → Act → World → Prop) (B : List (List Nat)) (S : World → Prop) (R : World → World → Prop) (Φ : Nat → Value → World → Prop) (a : Act) (i : Nat) (o : Oper) : Prop :=
  ∀ (u : Nat → Value) (w : World) (K : Act → World → Prop), S w → (∀ j, (B.getD i []).contains j = true → Φ j (u j) w) →
    Shut (∀ v w', S w' → R w w' → Φ i v w' → K ((putsFrom u 0 ops.toList a).put o.dst v) w') →
    if Region.wanted o (yielded ops (putsFrom u 0 ops.toList a).tmps) = true then o.wp P (putsFrom u 0 ops.toList a) w K Q else K ((putsFrom u 0 ops.toList a).put o.dst undef) w

/-- What is to be shown of the last one. -/
def EndOk (P : Program) (ops : Array Oper) (Q : Exit → Act → World → Prop) (S : World → Prop) (Φ : Nat → Value → World → Prop) (a : Act) (o : Oper) : Prop :=
  ∀ (u : Nat → Value) (w : World), S w → (∀ j, j + 1 < ops.size → Φ j (u j) w) →
    if Region.wanted o (yielded ops (putsFrom u 0 ops.toList a).tmps) = true then o.wp P (putsFrom u 0 ops.toList a) w (Q .normal) Q else Q .normal ((putsFrom u 0 ops.toList a).put o.dst undef) w

def coversAll (n : Nat) (B : List (List Nat)) : Bool := (List.range (n - 1)).all fun j => (B.getD (n - 1) []).contains j

theorem wp_region_calm {ops : Array Oper} {id : Nat} {a : Act} {w : World} (hm : P.follows .mixedOrders = true) (hB : belowOk ops.toList (belowOf ops.toList) = true) (hd : dstsOk ops.toList = true)
    (hl : coversAll ops.size (belowOf ops.toList) = true) (hn : 0 < ops.size) (S : World → Prop) (R : World → World → Prop) (Φ : Nat → Value → World → Prop) (hR : ∀ i v w w', R w w' → Φ i v w → Φ i v w') (h0 : S w.drew)
    (hstep : ∀ i o, ops[i]? = some o → i + 1 < ops.size → StepOk P ops Q (belowOf ops.toList) S R Φ a i o) (hend : ∀ o, ops[ops.size - 1]? = some o → EndOk P ops Q S Φ a o) :
    (Code.region id ops true).wp P Q a w := by
  generalize hBe : belowOf ops.toList = B at *
  have hB1 : ∀ i o, ops[i]? = some o → (∀ k, k ∈ waits o → k < i) ∧ ∀ j, (B.getD i []).contains j = true → j ∈ waits o ∨ ∃ k, k ∈ waits o ∧ (B.getD k []).contains j = true := by
    intro i o ho
    have hlt : i < ops.toList.length := by simpa using (Array.getElem?_eq_some_iff.1 ho).1
    have := List.all_eq_true.1 hB i (List.mem_range.2 hlt)
    rw [Array.getElem?_toList, ho] at this
    simp only [Bool.and_eq_true, List.all_eq_true, decide_eq_true_eq] at this
    refine ⟨this.1, fun j hj => ?_⟩
    have := this.2 j (by simpa using hj)
    simp only [Bool.or_eq_true, List.any_eq_true] at this
    rcases this with h | ⟨k, hk, h⟩
    · exact .inl (by simpa using h)
    · exact .inr ⟨k, hk, h⟩
  have hd1 : ∀ (i j : Nat) (x y : Oper), ops[i]? = some x → ops[j]? = some y → i ≠ j → ∀ e, x.dst = some e → y.dst ≠ some e := by
    intro i j x y hx hy hij e he
    have h1 : i < ops.toList.length := by simpa using (Array.getElem?_eq_some_iff.1 hx).1
    have h2 : j < ops.toList.length := by simpa using (Array.getElem?_eq_some_iff.1 hy).1
    have := List.all_eq_true.1 (List.all_eq_true.1 hd i (List.mem_range.2 h1)) j (List.mem_range.2 h2)
    rw [Array.getElem?_toList, Array.getElem?_toList, hx, hy] at this
    simp only [he, Bool.or_eq_true, beq_iff_eq, bne_iff_ne] at this
    exact this.resolve_left hij
  have hw : ∀ {i : Nat} {o : Oper} {e : Edge}, ops[i]? = some o → e ∈ o.after → Region.binds .any e = true → e.on ∈ waits o := fun _ he hb => by
    simp only [waits, List.mem_map, List.mem_filter, Array.mem_toList_iff]
    exact ⟨_, ⟨he, hb⟩, rfl⟩
  have hw2 : ∀ {o : Oper} {k : Nat}, k ∈ waits o → ∃ e, e ∈ o.after ∧ Region.binds .any e = true ∧ e.on = k := fun h => by
    simp only [waits, List.mem_map, List.mem_filter, Array.mem_toList_iff] at h
    obtain ⟨e, ⟨h1, h2⟩, h3⟩ := h
    exact ⟨e, h1, h2, h3⟩
  refine wp_region_any hm ?_
  suffices H : ∀ (fuel : Nat) (listed : Array Bool) (u : Nat → Value) (w' : World), listed.size = ops.size → (∀ i o, ops[i]? = some o → listed.getD i false = true → ∀ k, k ∈ waits o → listed.getD k false = true) →
      listed.toList.count false = fuel → listed.getD (ops.size - 1) false = false → S w' → (∀ i, listed.getD i false = true → Φ i (u i) w') → wpAny P .any ops Q fuel listed (putsFrom u 0 ops.toList a) w' by
    have := H ops.size (Array.replicate ops.size false) (fun k => match (ops[k]?).bind (·.dst) with | some t => a.tmps.getD t undef | none => undef) w.drew (by simp)
      (fun i o _ h => by simp [Array.getD] at h) (by simp) (by simp [Array.getD]) h0 (fun i h => by simp [Array.getD] at h)
    rw [putsFrom_self (fun k => (ops[k]?).bind (·.dst)) ops.toList 0 a (fun i o ho => by rw [Nat.zero_add, ← Array.getElem?_toList, ho]; rfl)] at this
    exact this
  intro fuel
  induction fuel with
  | zero =>
    intro listed u w' hsz _ hc hlast
    have : false ∈ listed.toList := by
      have hlt : ops.size - 1 < listed.size := by omega
      have e : listed[ops.size - 1] = false := by simpa [Array.getD, hlt] using hlast
      rw [← e]
      simp
    have := List.one_le_count_iff.2 this
    omega
  | succ fuel ih =>
    intro listed u w' hsz hdown hc hlast hS hΦ
    have get : ∀ i, i < ops.size → listed.getD i true = listed.getD i false := fun i hi => by simp [Array.getD, hsz, hi]
    have reach : ∀ i, (∀ o, ops[i]? = some o → ∀ k, k ∈ waits o → listed.getD k false = true) → i < ops.size → ∀ j, (B.getD i []).contains j = true → listed.getD j false = true := by
      intro i
      induction i using Nat.strongRecOn with
      | ind i ihi =>
        intro hi hlt j hj
        obtain ⟨o, ho⟩ : ∃ o, ops[i]? = some o := ⟨_, Array.getElem?_eq_getElem hlt⟩
        obtain ⟨hb1, hb2⟩ := hB1 i o ho
        rcases hb2 j hj with h | ⟨k, hk, h⟩
        · exact hi o ho j h
        · have hki := hb1 k hk
          exact ihi k hki (fun o' ho' => hdown k o' ho' (hi o ho k hk)) (by omega) j h
    refine ⟨fun hr => ?_, fun i hi => ?_⟩
    · exfalso
      have all : ∀ i, i < ops.size → listed.getD i false = true := by
        intro i
        induction i using Nat.strongRecOn with
        | ind i ihi =>
          intro hlt
          cases hg : listed.getD i false with
          | true => rfl
          | false =>
            obtain ⟨o, ho⟩ : ∃ o, ops[i]? = some o := ⟨_, Array.getElem?_eq_getElem hlt⟩
            have : i ∈ Region.ready .any ops listed := mem_ready.2 ⟨by rw [get i hlt]; exact hg, o, ho, fun e he hb => by
              have hk := hw ho he hb
              have := (hB1 i o ho).1 _ hk
              exact ihi _ this (by omega)⟩
            rw [hr] at this
            cases this
      have := all (ops.size - 1) (by omega)
      rw [hlast] at this
      cases this
    · obtain ⟨hun, o, ho, hdeps⟩ := mem_ready.1 hi
      have hlt : i < ops.size := (Array.getElem?_eq_some_iff.1 ho).1
      have hun2 : listed.getD i false = false := by rw [← get i hlt]; exact hun
      have hdeps2 : ∀ o', ops[i]? = some o' → ∀ k, k ∈ waits o' → listed.getD k false = true := fun o' ho' k hk => by
        rw [ho] at ho'
        cases ho'
        obtain ⟨e, h1, h2, rfl⟩ := hw2 hk
        exact hdeps e h1 h2
      have hset : ∀ v, (putsFrom u 0 ops.toList a).put o.dst v = putsFrom (fun k => if k = i then v else u k) 0 ops.toList a := fun v => by
        rw [putsFrom_set u v ops.toList 0 a i o (by rw [Array.getElem?_toList]; exact ho) (fun j x hj hne e he => hd1 i j o x ho (by rw [← Array.getElem?_toList]; exact hj) (Ne.symm hne) e he)]
        simp only [Nat.zero_add]
      by_cases hl2 : i + 1 < ops.size
      · have hk : ∀ v w2, S w2 → R w' w2 → Φ i v w2 → wpAny P .any ops Q fuel (listed.setIfInBounds i true) ((putsFrom u 0 ops.toList a).put o.dst v) w2 := fun v w2 hS2 hR2 hΦ2 => by
          rw [hset]
          refine ih _ _ _ (by simpa using hsz) ?_ ?_ ?_ hS2 ?_
          · intro j x hx hj k hk
            by_cases hji : j = i
            · subst hji
              exact getD_set_true (hdeps2 x hx k hk)
            · rw [getD_set_ne false (Ne.symm hji)] at hj
              exact getD_set_true (hdown j x hx hj k hk)
          · rw [Array.toList_setIfInBounds, List.count_set (by simpa using by omega)]
            have e : listed.toList[i]'(by simpa using by omega) = false := by
              have : listed[i]'(by omega) = false := by simpa [Array.getD, hsz, hlt] using hun2
              simpa using this
            simp only [e, beq_self_eq_true, if_true, show (true == false) = false from rfl, Bool.false_eq_true, if_false]
            omega
          · rw [getD_set_ne false (by omega)]; exact hlast
          · intro j hj
            by_cases hji : j = i
            · subst hji; rw [if_pos rfl]; exact hΦ2
            · rw [if_neg hji]
              rw [getD_set_ne false (Ne.symm hji)] at hj
              exact hR _ _ _ _ hR2 (hΦ j hj)
        have hst := hstep i o ho hl2 u w' (wpAny P .any ops Q fuel (listed.setIfInBounds i true)) hS (fun j hj => hΦ j (reach i hdeps2 hlt j hj)) hk
        unfold wpOp
        simp only [ho]
        split
        · rename_i h1; rw [if_pos h1] at hst; exact .inl hst
        · rename_i h1; rw [if_neg h1] at hst; exact hst
      · obtain rfl : i = ops.size - 1 := by omega
        have hall : ∀ j, j + 1 < ops.size → listed.getD j false = true := fun j hj => reach _ hdeps2 hlt j (List.all_eq_true.1 hl j (List.mem_range.2 (by omega)))
        have hst := hend o ho u w' hS (fun j hj => hΦ j (hall j hj))
        have hr0 : Region.ready .any ops (listed.setIfInBounds (ops.size - 1) true) = [] := by
          rw [List.eq_nil_iff_forall_not_mem]
          intro j hj
          obtain ⟨h1, x, hx, -⟩ := mem_ready.1 hj
          have hjl : j < ops.size := (Array.getElem?_eq_some_iff.1 hx).1
          by_cases hji : j = ops.size - 1
          · subst hji
            simp [Array.getD, hsz, hlt] at h1
          · rw [getD_set_ne true (Ne.symm hji), get j hjl, hall j (by omega)] at h1
            cases h1
        have fin : ∀ a2 w2, Q .normal a2 w2 → wpAny P .any ops Q fuel (listed.setIfInBounds (ops.size - 1) true) a2 w2 := fun a2 w2 hq => by
          cases fuel with
          | zero => exact ⟨hr0, hq⟩
          | succ n => exact ⟨fun _ => hq, fun j hj => by rw [hr0] at hj; cases hj⟩
        unfold wpOp
        simp only [ho]
        split
        · rename_i h1; rw [if_pos h1] at hst; exact .inl (Oper.wp_mono fin hst)
        · rename_i h1; rw [if_neg h1] at hst; exact fin _ _ hst

/-- What may be said of an operation's value: it stays so while nothing that was there is touched. -/
structure Want where
  p : Value → World → Prop
  st : ∀ v w w', Quiet w w' → p v w → p v w'

def Want.any : Want := ⟨fun _ _ => True, fun _ _ _ _ _ => trivial⟩
def Want.is (x : Value) : Want := ⟨fun v _ => v = x, fun _ _ _ _ h => h⟩
/-- A new block, from n on. -/
def Want.box (n : Nat) (xs : Array Value) (t : TypeId) : Want := ⟨fun v w => ∃ b, v = .pointer (some ⟨b, 0, none⟩) ∧ n ≤ b ∧ Blk w b xs t, fun _ _ _ hq ⟨b, h1, h2, h3⟩ => ⟨b, h1, h2, hq.blk h3 (fun h => h)⟩⟩

def StepW (P : Program) (ops : Array Oper) (Q : Exit → Act → World → Prop) (B : List (List Nat)) (S : World → Prop) (L : List Want) (a : Act) (i : Nat) (o : Oper) : Prop :=
  ∀ (u : Nat → Value) (w : World) (K : Act → World → Prop), S w → (∀ j, (B.getD i []).contains j = true → (L.getD j .any).p (u j) w) →
    Shut (∀ v w', Quiet w w' → (L.getD i .any).p v w' → K ((putsFrom u 0 ops.toList a).put o.dst v) w') →
    if Region.wanted o (yielded ops (putsFrom u 0 ops.toList a).tmps) = true then o.wp P (putsFrom u 0 ops.toList a) w K Q else K ((putsFrom u 0 ops.toList a).put o.dst undef) w

def EndW (P : Program) (ops : Array Oper) (Q : Exit → Act → World → Prop) (S : World → Prop) (L : List Want) (a : Act) (o : Oper) : Prop :=
  ∀ (u : Nat → Value) (w : World), S w → (∀ j, j + 1 < ops.size → (L.getD j .any).p (u j) w) →
    if Region.wanted o (yielded ops (putsFrom u 0 ops.toList a).tmps) = true then o.wp P (putsFrom u 0 ops.toList a) w (Q .normal) Q else Q .normal ((putsFrom u 0 ops.toList a).put o.dst undef) w

/-- Each operation, and the last one. -/
def Steps (p : Nat → Oper → Prop) (e : Oper → Prop) : Nat → List Oper → Prop
  | _, [] => True
  | _, [o] => e o
  | n, o :: o2 :: r => p n o ∧ Steps p e (n + 1) (o2 :: r)

theorem Steps.cons {p : Nat → Oper → Prop} {e : Oper → Prop} {n : Nat} {o o2 : Oper} {r : List Oper} (h : p n o) (h2 : Steps p e (n + 1) (o2 :: r)) : Steps p e n (o :: o2 :: r) := ⟨h, h2⟩
theorem Steps.last {p : Nat → Oper → Prop} {e : Oper → Prop} {n : Nat} {o : Oper} (h : e o) : Steps p e n [o] := h

theorem Steps.get {p : Nat → Oper → Prop} {e : Oper → Prop} : ∀ (l : List Oper) (n : Nat), Steps p e n l → ∀ (i : Nat) (o : Oper), l[i]? = some o → (i + 1 < l.length → p (n + i) o) ∧ (i + 1 = l.length → e o)
  | [], _, _, _, _, h => by simp at h
  | [x], n, hs, 0, o, h => by
    obtain rfl : x = o := by simpa using h
    exact ⟨fun hl => by simp at hl, fun _ => hs⟩
  | [_], _, _, _ + 1, _, h => by simp at h
  | x :: y :: r, n, hs, 0, o, h => by
    obtain rfl : x = o := by simpa using h
    exact ⟨fun _ => hs.1, fun hl => by simp at hl⟩
  | x :: y :: r, n, hs, i + 1, o, h => by
    have := Steps.get (y :: r) (n + 1) hs.2 i o (by simpa using h)
    refine ⟨fun hl => ?_, fun hl => this.2 (by simpa using hl)⟩
    have h2 := this.1 (by simpa using hl)
    rw [show n + (i + 1) = n + 1 + i by omega]
    exact h2

/-- A drawn region, operation by operation, in the text's order. S: what stays while nothing that was there is touched; L: what is to be said of each operation's value. -/
theorem wp_region_wants {ops : Array Oper} {id : Nat} {a : Act} {w : World} (hm : P.follows .mixedOrders = true) (hB : belowOk ops.toList (belowOf ops.toList) = true) (hd : dstsOk ops.toList = true)
    (hl : coversAll ops.size (belowOf ops.toList) = true) (S : World → Prop) (hS : ∀ w w', Quiet w w' → S w → S w') (L : List Want) (h0 : S w.drew) (hn : 0 < ops.size)
    (h : Steps (StepW P ops Q (belowOf ops.toList) S L a) (EndW P ops Q S L a) 0 ops.toList) : (Code.region id ops true).wp P Q a w := by
  have hg := Steps.get ops.toList 0 h
  refine wp_region_calm hm hB hd hl hn S Quiet (fun i v w => (L.getD i .any).p v w) (fun i v w w' hq hp => (L.getD i .any).st v w w' hq hp) h0 (fun i o ho hi => ?_) (fun o ho => ?_)
  · have := (hg i o (by rw [Array.getElem?_toList]; exact ho)).1 (by simpa using hi)
    rw [Nat.zero_add] at this
    exact fun u w K hs hf hk => this u w K hs hf (fun v w' hq hp => hk v w' (hS _ _ hq hs) hq hp)
  · exact (hg _ o (by rw [Array.getElem?_toList]; exact ho)).2 (by simp; omega)

end
end Go.Lo
