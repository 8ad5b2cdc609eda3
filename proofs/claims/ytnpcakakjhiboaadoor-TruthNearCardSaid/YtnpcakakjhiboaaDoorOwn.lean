/- Rows of cells that a call owns: appended to, written whole, and where they lie behind that. No condition. -/
import Derived.Laws.AppendOwn
import Derived.OwnWalk
import Derived.Laws.IdiomCopy
import Derived.Maps.AppendAt
import Derived.Maps.OwnIn
import Derived.OwnWalkIn
import Derived.Test.YtnpcakakjhiboaaDoorLo
namespace Go.Lo
open Go.RowKit

/-- Behind an append a row lies where it lay, or in new memory. -/
def Near (w : World) (v v' : Value) : Prop := ∀ k, v'.ownBlock = some k → v.ownBlock = some k ∨ w.heap.size ≤ k

section
variable {P : Program}

theorem append_near (w : World) (t ty e : TypeId) (i : TypeInfo) (z : Value) (ht : P.underlying t = some (.slice e)) (hi : P.info? e = some i) (hz : i.zero = some z) (hzs : z.cells.size = i.size) (hsz : 0 < i.size)
    (v : Value) (n : Nat) (xs : List Value) (hown : w.ownsRow 0 e i.size v n xs) (a : Addr) (m c : Nat) (news : List Value) (hl : news.length = m * i.size) (hnews : ∀ j u, news[j]? = some u → w.cell? (a.add j) = some u) (h1 : ∀ u ∈ news, u.oneCell' = true)
    (h63 : n + m ≤ maxLen) (hbytes : (n + m) * i.bytes ≤ 140737488355328) (v' : Value) (w' : World) (hr : (Builtin.append_ #[t, t] ty #[v, .slice (some a) m c]).run P w = .ok v' w') : Near w v v' := by
  have h63' : n + m ≤ 9223372036854775807 := by simp only [maxLen] at h63; omega
  rcases hown.2 with ⟨rfl, rfl⟩ | ⟨g, cap, cur, rfl, -, hg, hnc, hcm, hcs, -⟩
  · obtain ⟨v2, w2, h2, ho, -, -⟩ := run_append_own (P := P) w w.heap.size t ty e i z i.size i.bytes ht hi hz rfl rfl hzs hsz (.slice none 0 0) 0 [] (World.ownsRow_nil w _ e _) a m c news hl hnews h1 h63 hbytes (Nat.le_refl _)
    rw [hr] at h2
    obtain ⟨rfl, rfl⟩ : v' = v2 ∧ w' = w2 := by injection h2 with e1 e2; exact ⟨e1, e2⟩
    exact fun k hk => .inr (ho.lt k hk).1
  · by_cases hroom : n + m ≤ cap
    · have hfit : n * i.size + news.length ≤ cur.size := by rw [hl, hcs, ← Nat.add_mul]; exact Nat.mul_le_mul_right _ hroom
      have h2 := run_append_room (P := P) w t ty e i ht hi g n cap cur hg a m c news hl hnews h1 hroom hfit
      rw [hr] at h2
      injection h2 with e1 e2
      subst e1
      exact fun k hk => .inl hk
    · have h2 := run_append_grow (P := P) w t ty e i z ht hi hz ⟨g, 0, none⟩ n cap xs hown.1 (hown.cells (g := g) rfl) a m c news hl hnews (by omega) (by omega) (growslice_fits (by omega) hbytes)
      rw [hr] at h2
      injection h2 with e1 e2
      subst e1
      intro k hk
      right
      simp [Value.ownBlock] at hk
      omega

/-- The append of a walk: as the kit's own law; and the new row lies where the elder one lay, or in new memory. -/
theorem wpList_append_near (w : World) {ops : Array Oper} {rest : List Oper} {o : Oper} {a : Act} {Q : Exit → Act → World → Prop} (hgd : o.guard = none) (s x : Operand) (t : TypeId)
    (ho : o.op = .call { callee := .builtin .append, args := #[s, x], argTypes := #[t, t] })
    (e : TypeId) (i : TypeInfo) (z : Value) (size bytes : Nat) (ht : P.underlying t = some (.slice e)) (hi : P.info? e = some i) (hz : i.zero = some z)
    (hsize : i.size = size) (hby : i.bytes = bytes) (hzs : z.cells.size = size) (hsz : 0 < size)
    (v : Value) (n : Nat) (xs : List Value) (hs : a.eval s = v) (hown : w.ownsRow 0 e size v n xs)
    (ad : Addr) (m c : Nat) (news : List Value) (hx : a.eval x = .slice (some ad) m c) (hl : news.length = m * size) (hnews : ∀ j u, news[j]? = some u → w.cell? (ad.add j) = some u) (h1 : ∀ u ∈ news, u.oneCell' = true)
    (h63 : n + m ≤ maxLen) (hbytes : (n + m) * bytes ≤ 140737488355328)
    (h : ∀ v' w', w'.ownsRow 0 e size v' (n + m) (xs ++ news) → w.grownBy w' v.ownBlock → Near w v v' → (v' = .slice none 0 0 ↔ v = .slice none 0 0 ∧ m = 0) → wpList P ops Q rest (a.put o.dst v') w') : wpList P ops Q (o :: rest) a w := by
  subst hsize
  subst hby
  refine wpList_plain hgd fun K hK => ?_
  obtain ⟨v', w', hr, h2, h3, h4⟩ := run_append_own (P := P) w 0 t o.type e i z i.size i.bytes ht hi hz rfl rfl hzs hsz v n xs hown ad m c news hl hnews h1 h63 hbytes (Nat.zero_le _)
  have hn := append_near w t o.type e i z ht hi hz hzs hsz v n xs hown ad m c news hl hnews h1 h63 hbytes v' w' hr
  unfold Oper.wp execOp
  simp only [ho, resolve, invoke, builtin, Sem.run_bind, Sem.run_pure, Result.andThen_ok, List.map_toArray, List.map_cons, List.map_nil, hs, hx, hr]
  exact hK _ _ (h v' w' h2 h3 hn h4)

/-- A slice of n elements at A reads as these cells; of none nothing is asked. -/
def Reads (w : World) (A : Option Addr) (size n : Nat) (xs : List Value) : Prop :=
  xs.length = n * size ∧ (0 < n → ∃ ad, A = some ad ∧ ∀ j u, xs[j]? = some u → w.cell? (ad.add j) = some u)

theorem run_append_none (w : World) (base : Nat) (t ty e : TypeId) (i : TypeInfo) (ht : P.underlying t = some (.slice e)) (hi : P.info? e = some i) (v : Value) (n : Nat) (xs : List Value) (hown : w.ownsRow base e i.size v n xs) (c : Nat) :
    (Builtin.append_ #[t, t] ty #[v, .slice none 0 c]).run P w = .ok v w := by
  rcases hown.2 with ⟨rfl, rfl⟩ | ⟨g, cap, cur, rfl, _, _, hle, _⟩
  · simp [Builtin.append_, run_underlying ht, sizeOf, typeInfo, hi, Builtin.lenOf, Builtin.firstCells]
  · simp [Builtin.append_, run_underlying ht, sizeOf, typeInfo, hi, Builtin.lenOf, Builtin.firstCells, hle, storeCells]

theorem run_append_reads (w : World) (base : Nat) (t ty e : TypeId) (i : TypeInfo) (z : Value) (size bytes : Nat) (ht : P.underlying t = some (.slice e)) (hi : P.info? e = some i) (hz : i.zero = some z)
    (hsize : i.size = size) (hby : i.bytes = bytes) (hzs : z.cells.size = size) (hsz : 0 < size) (v : Value) (n : Nat) (xs : List Value) (hown : w.ownsRow base e size v n xs)
    (A : Option Addr) (m c : Nat) (news : List Value) (hr : Reads w A size m news) (h1 : ∀ u ∈ news, u.oneCell' = true) (h63 : n + m ≤ maxLen) (hbytes : (n + m) * bytes ≤ 140737488355328) (hbase : base ≤ w.heap.size) :
    ∃ v' w', (Builtin.append_ #[t, t] ty #[v, .slice A m c]).run P w = .ok v' w' ∧ w'.ownsRow base e size v' (n + m) (xs ++ news) ∧ w.grownBy w' v.ownBlock ∧ (v'.ownBlock = v.ownBlock ∨ v'.ownBlock = some w.heap.size) := by
  subst hsize
  cases A with
  | none =>
    obtain rfl : m = 0 := by
      rcases Nat.eq_zero_or_pos m with h | h
      · exact h
      · obtain ⟨_, e, _⟩ := hr.2 h
        cases e
    obtain rfl : news = [] := List.eq_nil_of_length_eq_zero (by simpa using hr.1)
    exact ⟨v, w, run_append_none w base t ty e i ht hi v n xs hown c, by simpa using hown, ⟨rfl, rfl, rfl, Nat.le_refl _, fun _ _ _ => rfl⟩, .inl rfl⟩
  | some ad =>
    have hnews : ∀ j u, news[j]? = some u → w.cell? (ad.add j) = some u := by
      rcases Nat.eq_zero_or_pos m with h | h
      · subst h
        obtain rfl : news = [] := List.eq_nil_of_length_eq_zero (by simpa using hr.1)
        simp
      · obtain ⟨_, e, h⟩ := hr.2 h
        cases e
        exact h
    obtain ⟨v', w', h1, h2, h3, _, h5⟩ := run_append_own_at (P := P) w base t ty e i z i.size bytes ht hi hz rfl hby hzs hsz v n xs hown ad m c news hr.1 hnews h1 h63 hbytes hbase
    exact ⟨v', w', h1, h2, h3, h5⟩

/-- The append of a walk, the source nil or not. -/
theorem wpList_append_reads (w : World) {ops : Array Oper} {rest : List Oper} {o : Oper} {a : Act} {Q : Exit → Act → World → Prop} (hgd : o.guard = none) (s x : Operand) (t : TypeId)
    (ho : o.op = .call { callee := .builtin .append, args := #[s, x], argTypes := #[t, t] })
    (base : Nat) (e : TypeId) (i : TypeInfo) (z : Value) (size bytes : Nat) (ht : P.underlying t = some (.slice e)) (hi : P.info? e = some i) (hz : i.zero = some z)
    (hsize : i.size = size) (hby : i.bytes = bytes) (hzs : z.cells.size = size) (hsz : 0 < size)
    (v : Value) (n : Nat) (xs : List Value) (hs : a.eval s = v) (hown : w.ownsRow base e size v n xs)
    (A : Option Addr) (m c : Nat) (news : List Value) (hx : a.eval x = .slice A m c) (hr : Reads w A size m news) (h1 : ∀ u ∈ news, u.oneCell' = true)
    (h63 : n + m ≤ maxLen) (hbytes : (n + m) * bytes ≤ 140737488355328) (hbase : base ≤ w.heap.size)
    (h : ∀ v' w', w'.ownsRow base e size v' (n + m) (xs ++ news) → w.grownBy w' v.ownBlock → (v'.ownBlock = v.ownBlock ∨ v'.ownBlock = some w.heap.size) → wpList P ops Q rest (a.put o.dst v') w') : wpList P ops Q (o :: rest) a w := by
  refine wpList_plain hgd fun K hK => ?_
  obtain ⟨v', w', hrun, h2, h3, h4⟩ := run_append_reads (P := P) w base t o.type e i z size bytes ht hi hz hsize hby hzs hsz v n xs hown A m c news hr h1 h63 hbytes hbase
  unfold Oper.wp execOp
  simp only [ho, resolve, invoke, builtin, Sem.run_bind, Sem.run_pure, Result.andThen_ok, List.map_toArray, List.map_cons, List.map_nil, hs, hx, hrun]
  exact hK _ _ (h v' w' h2 h3 h4)

theorem wpListIn_append_reads {F : Fence} {nf : Nat} (w : World) {ops : Array Oper} {rest : List Oper} {o : Oper} {a : Act} {Q : Exit → Act → World → Prop} (hgd : o.guard = none) (s x : Operand) (t : TypeId)
    (ho : o.op = .call { callee := .builtin .append, args := #[s, x], argTypes := #[t, t] })
    (base : Nat) (e : TypeId) (i : TypeInfo) (z : Value) (size bytes : Nat) (ht : P.underlying t = some (.slice e)) (hi : P.info? e = some i) (hz : i.zero = some z)
    (hsize : i.size = size) (hby : i.bytes = bytes) (hzs : z.cells.size = size) (hsz : 0 < size)
    (v : Value) (n : Nat) (xs : List Value) (hs : a.eval s = v) (hown : w.ownsRow base e size v n xs)
    (A : Option Addr) (m c : Nat) (news : List Value) (hx : a.eval x = .slice A m c) (hr : Reads w A size m news) (h1 : ∀ u ∈ news, u.oneCell' = true)
    (h63 : n + m ≤ maxLen) (hbytes : (n + m) * bytes ≤ 140737488355328) (hbase : base ≤ w.heap.size)
    (h : ∀ v' w', w'.ownsRow base e size v' (n + m) (xs ++ news) → w.grownBy w' v.ownBlock → (v'.ownBlock = v.ownBlock ∨ v'.ownBlock = some w.heap.size) → wpListIn F nf P ops Q rest (a.put o.dst v') w') : wpListIn F nf P ops Q (o :: rest) a w := by
  refine wpListIn_plain hgd fun K hK => ?_
  obtain ⟨v', w', hrun, h2, h3, h4⟩ := run_append_reads (P := P) w base t o.type e i z size bytes ht hi hz hsize hby hzs hsz v n xs hown A m c news hr h1 h63 hbytes hbase
  unfold Oper.wpIn
  refine ⟨by simp [Oper.about, ho, resolve, Target.leads, Sem.run_pure], ?_⟩
  rw [Oper.semAt_plain F _ _ (by rw [ho]; intro c hc'; cases hc')]
  simp [execOp, ho, resolve, invoke, builtin, hs, hx, hrun, Result.andThen]
  exact hK _ _ (h v' w' h2 h3 h4)

end

theorem Reads.keep {w w' : World} {p : Nat → Prop} {A : Option Addr} {size n : Nat} {xs : List Value} (h : Reads w A size n xs) (hA : Alters p w w') (hp : ∀ ad, A = some ad → 0 < n → ¬ p ad.block) : Reads w' A size n xs :=
  ⟨h.1, fun hn => by
    obtain ⟨ad, rfl, hc⟩ := h.2 hn
    have hb : ∀ j, (ad.add j).block = ad.block := fun j => by unfold Addr.add; split <;> rfl
    exact ⟨ad, rfl, fun j u hu => hA.cell (hc j u hu) (by rw [hb]; exact hp ad rfl hn)⟩⟩

theorem Reads.quiet {w w' : World} {A : Option Addr} {size n : Nat} {xs : List Value} (h : Reads w A size n xs) (hA : Quiet w w') : Reads w' A size n xs := h.keep hA (by simp)

theorem Reads.nil {w : World} {A : Option Addr} {size : Nat} : Reads w A size 0 [] := ⟨by simp, fun h => absurd h (by omega)⟩

theorem Reads.of_row {w : World} {base : Nat} {e : TypeId} {size n c : Nat} {A : Option Addr} {xs : List Value} (h : w.ownsRow base e size (.slice A n c) n xs) : Reads w A size n xs :=
  ⟨h.1, fun hn => by
    rcases h.2 with ⟨_, h0⟩ | ⟨g, cap, cur, hv, _⟩
    · omega
    · obtain ⟨rfl, _⟩ : A = some ⟨g, 0, none⟩ ∧ c = cap := by simpa using hv
      exact ⟨_, rfl, h.cells (g := g) rfl⟩⟩

/-- Where the slice lies, element by element. -/
theorem Reads.at {w : World} {A : Option Addr} {n k : Nat} {xs : List Value} {u : Value} (h : Reads w A 1 n xs) (hk : xs[k]? = some u) : ∃ ad, A = some ad ∧ w.cell? (ad.add k) = some u := by
  have hl : k < xs.length := by
    rcases Nat.lt_or_ge k xs.length with h | h
    · exact h
    · rw [List.getElem?_eq_none h] at hk; cases hk
  have h1 := h.1
  obtain ⟨ad, rfl, hc⟩ := h.2 (by omega)
  exact ⟨ad, rfl, hc k u hk⟩

theorem row_keep {w w' : World} {p : Nat → Prop} {base : Nat} {e : TypeId} {size n : Nat} {v : Value} {xs : List Value} (h : w.ownsRow base e size v n xs) (hA : Alters p w w') (hv : ∀ k, v.ownBlock = some k → ¬ p k) : w'.ownsRow base e size v n xs := by
  rcases h with ⟨hl, h | ⟨g, cap, cur, rfl, h0, hg, h1⟩⟩
  · exact ⟨hl, .inl h⟩
  · exact ⟨hl, .inr ⟨g, cap, cur, rfl, h0, (hA.block g (lt_of_block hg) (hv g rfl)).trans hg, h1⟩⟩

/-- The one goes ahead, the other behind it: what the other one touches that the first did not see is new. -/
theorem Alters.then {p q : Nat → Prop} {a b c : World} (h : Alters p a b) (k : Alters q b c) (hq : ∀ i, i < a.heap.size → q i → p i) : Alters p a c :=
  ⟨k.os.trans h.os, k.tape.trans h.tape, k.output.trans h.output, Nat.le_trans h.size k.size, fun i hi hp => (k.block i (Nat.lt_of_lt_of_le hi h.size) (fun hh => hp (hq i hi hh))).trans (h.block i hi hp)⟩

/-- Cells of a block are written, one behind the other. -/
theorem Blk.setCells {b : Nat} {t : TypeId} : ∀ (vs : List Value) (o : Nat) {w : World} {cur : Array Value}, Blk w b cur t → o + vs.length ≤ cur.size →
    Blk (w.setCells b o vs) b (cur.toList.take o ++ vs ++ cur.toList.drop (o + vs.length)).toArray t
  | [], o, w, cur, h, _ => by
    have e : (cur.toList.take o ++ [] ++ cur.toList.drop (o + ([] : List Value).length)).toArray = cur := by simp
    rw [e]; exact h
  | v :: r, o, w, cur, h, hz => by
    have hz' : o + (r.length + 1) ≤ cur.size := hz
    have h2 := Blk.setCells r (o + 1) (h.set o v) (by simp; omega)
    rw [World.setCells]
    have e : ((cur.setIfInBounds o v).toList.take (o + 1) ++ r ++ (cur.setIfInBounds o v).toList.drop (o + 1 + r.length)).toArray = (cur.toList.take o ++ (v :: r) ++ cur.toList.drop (o + (v :: r).length)).toArray := by
      congr 1
      rw [Array.toList_setIfInBounds, List.take_add_one, List.drop_set_of_lt (by omega), List.take_set_of_le (Nat.le_refl _)]
      simp [show o < cur.size by omega, Nat.add_assoc, Nat.add_comm 1]
    rw [← e]
    exact h2

theorem Alters.setCells {p : Nat → Prop} {a : World} {b : Nat} (hb : b < a.heap.size → p b) : ∀ (vs : List Value) (o : Nat) {w : World}, Alters p a w → Alters p a (w.setCells b o vs)
  | [], _, _, h => h
  | v :: r, o, _, h => Alters.setCells hb r (o + 1) (h.set (q := ⟨b, o, none⟩) hb v)

end Go.Lo
