/- Formulas as they lie in memory. No condition. Formulas that are made of formulas, in memory. No condition. -/
import Derived.Test.YtnpcakakjhiboaaDoorForm
import Derived.Test.YtnpcakakjhiboaaDoorRows
import Derived.Test.YtnpcakakjhiboaaDoorLo
import Derived.Test.YtnpcakakjhiboaaDoorOwn
namespace Go.Proofs.YtnpcakakjhiboaaDoor
open Go.RowKit Go.Lo Go.WideShapes

/-- A node as it lies in memory: what it bears, and where its kids lie. -/
structure Hd where
  n : Nd
  a : Option Addr
  cap : Nat

/-- A formula as it lies in memory. -/
abbrev Ft := Tr Hd

namespace Ft
def pl (t : Ft) : Fm := Tr.map Hd.n t
def cells (t : Ft) : List Value := [.int .i64 t.top.n.op, .string t.top.n.nm, .int .i64 t.top.n.cmp, .int .i64 t.top.n.val, .int .i64 t.top.n.lo, .int .i64 t.top.n.hi, .slice t.top.a t.kids.length t.top.cap]
def val (t : Ft) : Value := .agg #[.int .i64 t.top.n.op, .string t.top.n.nm, .int .i64 t.top.n.cmp, .int .i64 t.top.n.val, .int .i64 t.top.n.lo, .int .i64 t.top.n.hi, .slice t.top.a t.kids.length t.top.cap]
end Ft

/-- At an address lie the cells of a formula. -/
def AtP (w : World) (b o : Nat) (t : Ft) : Prop := ∀ j u, (Ft.cells t)[j]? = some u → w.cell? ⟨b, o + j, none⟩ = some u

/-- Formulas lie one behind the other, in a block of which D tells. -/
def FsAt (D : Nat → Prop) (w : World) (a : Option Addr) (L : List Ft) : Prop :=
  L ≠ [] → ∃ b o, a = some ⟨b, o, none⟩ ∧ D b ∧ ∀ i t, L[i]? = some t → AtP w b (o + i * 7) t

/-- A formula's kids, and theirs, lie in blocks of which D tells. -/
inductive In (D : Nat → Prop) (w : World) : Ft → Prop
  | nd (h : Hd) (ks : List Ft) : ks.length ≤ maxLen ∧ ks.length ≤ h.cap → FsAt D w h.a ks → (∀ k, k ∈ ks → In D w k) → In D w (.nd h ks)

/-- A call returns this and touches nothing that was there. -/
def Said (v : Value) (w : World) (e : Ending) (w' : World) : Prop := e = .returned v ∧ Quiet w w'

theorem AtP.seven {w : World} {b o : Nat} {t : Ft} (h : AtP w b o t) :
    w.cell? ⟨b, o, none⟩ = some (.int .i64 t.top.n.op) ∧ w.cell? ⟨b, o + 1, none⟩ = some (.string t.top.n.nm) ∧ w.cell? ⟨b, o + 2, none⟩ = some (.int .i64 t.top.n.cmp) ∧ w.cell? ⟨b, o + 3, none⟩ = some (.int .i64 t.top.n.val) ∧
      w.cell? ⟨b, o + 4, none⟩ = some (.int .i64 t.top.n.lo) ∧ w.cell? ⟨b, o + 5, none⟩ = some (.int .i64 t.top.n.hi) ∧ w.cell? ⟨b, o + 6, none⟩ = some (.slice t.top.a t.kids.length t.top.cap) :=
  ⟨h 0 _ rfl, h 1 _ rfl, h 2 _ rfl, h 3 _ rfl, h 4 _ rfl, h 5 _ rfl, h 6 _ rfl⟩

theorem AtP.keep {p : Nat → Prop} {w w' : World} {b o : Nat} {t : Ft} (h : AtP w b o t) (hA : Alters p w w') (hp : ¬ p b) : AtP w' b o t := fun j u hu => hA.cell (h j u hu) hp

theorem AtP.lt {w : World} {b o : Nat} {t : Ft} (h : AtP w b o t) : b < w.heap.size := block_lt_of_cell (h 0 _ rfl)

theorem FsAt.keep {D p : Nat → Prop} {w w' : World} {a : Option Addr} {L : List Ft} (h : FsAt D w a L) (hA : Alters p w w') (hp : ∀ k, D k → k < w.heap.size → ¬ p k) : FsAt D w' a L := fun hn => by
  obtain ⟨b, o, e, hD, hc⟩ := h hn
  refine ⟨b, o, e, hD, fun i t ht => (hc i t ht).keep hA (hp b hD ?_)⟩
  exact (hc i t ht).lt

theorem FsAt.mono {D D' : Nat → Prop} {w : World} {a : Option Addr} {L : List Ft} (h : FsAt D w a L) (hd : ∀ k, k < w.heap.size → D k → D' k) : FsAt D' w a L := fun hn => by
  obtain ⟨b, o, e, hD, hc⟩ := h hn
  refine ⟨b, o, e, hd b ?_ hD, hc⟩
  cases L with
  | nil => exact absurd rfl hn
  | cons t r => exact (hc 0 t rfl).lt

theorem In.keep {D p : Nat → Prop} {w w' : World} {t : Ft} (h : In D w t) (hA : Alters p w w') (hp : ∀ k, D k → k < w.heap.size → ¬ p k) : In D w' t := by
  induction h with
  | nd h ks hl hf _ ih => exact .nd h ks hl (hf.keep hA hp) ih

theorem In.mono {D D' : Nat → Prop} {w : World} {t : Ft} (h : In D w t) (hd : ∀ k, k < w.heap.size → D k → D' k) : In D' w t := by
  induction h with
  | nd h ks hl hf _ ih => exact .nd h ks hl (hf.mono hd) ih

theorem In.quiet {D : Nat → Prop} {w w' : World} {t : Ft} (h : In D w t) (hA : Quiet w w') : In D w' t := h.keep hA (fun _ _ _ h => h)

theorem In.fs {D : Nat → Prop} {w : World} {t : Ft} (h : In D w t) : FsAt D w t.top.a t.kids := by cases h; assumption
theorem In.kid {D : Nat → Prop} {w : World} {t k : Ft} (h : In D w t) (hk : k ∈ t.kids) : In D w k := by cases h with | nd h ks hl hf hh => exact hh k hk
theorem In.len {D : Nat → Prop} {w : World} {t : Ft} (h : In D w t) : t.kids.length ≤ maxLen := by cases h with | nd h ks hl hf hh => exact hl.1
theorem In.room {D : Nat → Prop} {w : World} {t : Ft} (h : In D w t) : t.kids.length ≤ t.top.cap := by cases h with | nd h ks hl hf hh => exact hl.2

theorem cells_length (t : Ft) : (Ft.cells t).length = 7 := rfl

theorem flat_length (T : List Ft) : (T.flatMap Ft.cells).length = T.length * 7 := by
  induction T with
  | nil => rfl
  | cons t T ih => simp only [List.flatMap_cons, List.length_append, ih, cells_length, List.length_cons]; omega

theorem flat_at (T : List Ft) : ∀ (i : Nat) (t : Ft) (j : Nat) (u : Value), T[i]? = some t → (Ft.cells t)[j]? = some u → (T.flatMap Ft.cells)[i * 7 + j]? = some u := by
  induction T with
  | nil => intro i t j u h; simp at h
  | cons x T ih =>
    intro i t j u h hu
    rw [List.flatMap_cons]
    cases i with
    | zero =>
      simp at h
      subst h
      have hj : j < 7 := by
        rcases Nat.lt_or_ge j 7 with h | h
        · exact h
        · rw [List.getElem?_eq_none (by rw [cells_length]; exact h)] at hu; cases hu
      rw [List.getElem?_append_left (by rw [cells_length]; omega), Nat.zero_mul, Nat.zero_add]
      exact hu
    | succ i =>
      rw [List.getElem?_append_right (by rw [cells_length]; omega), cells_length, show (i + 1) * 7 + j - 7 = i * 7 + j by omega]
      exact ih i t j u (by simpa using h) hu

theorem cells_one (t : Ft) : ∀ u, u ∈ Ft.cells t → u.oneCell' = true := by
  intro u hu
  simp [Ft.cells] at hu
  rcases hu with rfl | rfl | rfl | rfl | rfl | rfl | rfl <;> rfl

/-- A row of formulas that a call owns; they, and theirs, lie in blocks of which E tells, and in none that the row itself lies in. -/
def FRow (E : Nat → Prop) (w : World) (lo : Nat) (ty : TypeId) (v : Value) (T : List Ft) : Prop :=
  w.ownsRow lo ty 7 v T.length (T.flatMap Ft.cells) ∧ ∀ t, t ∈ T → In (fun j => E j ∧ v.ownBlock ≠ some j) w t

theorem FRow.nil (E : Nat → Prop) (w : World) (lo : Nat) (ty : TypeId) : FRow E w lo ty (.slice none 0 0) [] := ⟨World.ownsRow_nil _ _ _ _, by simp⟩

theorem FRow.keep {E p : Nat → Prop} {w w' : World} {lo : Nat} {ty : TypeId} {v : Value} {T : List Ft} (h : FRow E w lo ty v T) (hA : Alters p w w') (h1 : ∀ k, v.ownBlock = some k → ¬ p k) (h2 : ∀ k, E k → k < w.heap.size → v.ownBlock ≠ some k → ¬ p k) : FRow E w' lo ty v T :=
  ⟨row_keep h.1 hA h1, fun t ht => (h.2 t ht).keep hA (fun k hk hl => h2 k hk.1 hl hk.2)⟩

theorem FRow.quiet {E : Nat → Prop} {w w' : World} {lo : Nat} {ty : TypeId} {v : Value} {T : List Ft} (h : FRow E w lo ty v T) (hA : Quiet w w') : FRow E w' lo ty v T := h.keep hA (by simp) (by simp)

theorem FRow.fs {E : Nat → Prop} {w : World} {lo n cap : Nat} {ty : TypeId} {a : Option Addr} {T : List Ft} (h : FRow E w lo ty (.slice a n cap) T) : FsAt (fun j => (Value.slice a n cap).ownBlock = some j) w a T := fun hne => by
  rcases h.1.2 with ⟨_, h0⟩ | ⟨g, c, cur, hv, _⟩
  · exact absurd (List.eq_nil_of_length_eq_zero h0) hne
  · obtain ⟨rfl, rfl, rfl⟩ : a = some ⟨g, 0, none⟩ ∧ n = T.length ∧ cap = c := by simpa using hv
    refine ⟨g, 0, rfl, rfl, fun i t ht j u hu => ?_⟩
    have := h.1.cells (g := g) rfl (i * 7 + j) u (flat_at T i t j u ht hu)
    rw [add_plain, Nat.zero_add] at this
    rw [Nat.zero_add]
    exact this

theorem FRow.form {E : Nat → Prop} {w : World} {lo : Nat} {ty : TypeId} {v : Value} {T : List Ft} (h : FRow E w lo ty v T) : ∃ A c, v = .slice A T.length c := by
  rcases h.1.2 with ⟨rfl, h0⟩ | ⟨g, c, cur, hv, _⟩
  · exact ⟨none, 0, by rw [h0]⟩
  · exact ⟨_, c, hv⟩

/-- Behind an append of one. -/
theorem FRow.push {E : Nat → Prop} {w w' : World} {lo : Nat} {ty : TypeId} {v : Value} {T : List Ft} {t : Ft} {g cap : Nat} (h : FRow E w lo ty v T) (hown : w'.ownsRow lo ty 7 (.slice (some ⟨g, 0, none⟩) (T.length + 1) cap) (T.length + 1) (T.flatMap Ft.cells ++ Ft.cells t))
    (hgrow : w.grownBy w' v.ownBlock) (hat : v.ownBlock = some g ∨ w.heap.size ≤ g) (ht : In (fun j => E j ∧ v.ownBlock ≠ some j) w t) : FRow E w' lo ty (.slice (some ⟨g, 0, none⟩) (T.length + 1) cap) (T ++ [t]) := by
  have hA : Alters (fun k => v.ownBlock = some k) w w' := (Alters.refl _).grown hgrow (fun k e _ => e)
  refine ⟨by simpa using hown, fun x hx => ?_⟩
  have hin : In (fun j => E j ∧ v.ownBlock ≠ some j) w x := by
    rcases List.mem_append.1 hx with hx | hx
    · exact h.2 x hx
    · obtain rfl : x = t := by simpa using hx
      exact ht
  have h2 := hin.mono (D' := fun j => (E j ∧ v.ownBlock ≠ some j) ∧ j < w.heap.size) (fun k hk hd => ⟨hd, hk⟩)
  refine (h2.keep hA (fun k hk _ => hk.1.2)).mono (fun k _ hk => ⟨hk.1.1, ?_⟩)
  simp only [Value.ownBlock]
  intro e
  simp at e
  subst e
  rcases hat with h | h
  · exact hk.1.2 h
  · have := hk.2; omega

theorem set7 (w : World) (b : Nat) (x0 x1 x2 x3 x4 x5 x6 : Value) : Alters (fun k => k = b) w (((((((w.setCell ⟨b, 0, none⟩ x0).setCell ⟨b, 1, none⟩ x1).setCell ⟨b, 2, none⟩ x2).setCell ⟨b, 3, none⟩ x3).setCell ⟨b, 4, none⟩ x4).setCell ⟨b, 5, none⟩ x5).setCell ⟨b, 6, none⟩ x6) :=
  (((((((Alters.refl (p := fun k => k = b) w).set (q := ⟨b, 0, none⟩) (fun _ => rfl) x0).set (q := ⟨b, 1, none⟩) (fun _ => rfl) x1).set (q := ⟨b, 2, none⟩) (fun _ => rfl) x2).set (q := ⟨b, 3, none⟩) (fun _ => rfl) x3).set (q := ⟨b, 4, none⟩) (fun _ => rfl) x4).set (q := ⟨b, 5, none⟩) (fun _ => rfl) x5).set (q := ⟨b, 6, none⟩) (fun _ => rfl) x6

/-- A row that a call owns becomes a formula's kids. -/
theorem FRow.node {E D : Nat → Prop} {w : World} {lo cap : Nat} {ty : TypeId} {a : Option Addr} {T : List Ft} (h : FRow E w lo ty (.slice a T.length cap) T) (n : Nd) (hl : T.length ≤ maxLen) (hE : ∀ k, E k → D k) (hD : ∀ k, lo ≤ k → D k) : In D w (.nd ⟨n, a, cap⟩ T) := by
  have hr : T.length ≤ cap := by
    rcases h.1.2 with ⟨hv, h0⟩ | ⟨g, c, cur, hv, _, _, hle, _⟩
    · omega
    · obtain ⟨-, -, rfl⟩ : a = some ⟨g, 0, none⟩ ∧ T.length = T.length ∧ cap = c := by simpa using hv
      exact hle
  refine .nd _ _ ⟨hl, hr⟩ (h.fs.mono (fun k _ hk => hD k (h.1.lt k hk).1)) (fun t ht => (h.2 t ht).mono (fun k _ hk => hE k hk.1))

/-- Where a call has built a formula: in new memory. -/
def Built (f : Fm) (w : World) (e : Ending) (w' : World) : Prop := ∃ t, e = .returned (Ft.val t) ∧ Ft.pl t = f ∧ In (fun k => w.heap.size ≤ k) w' t ∧ Quiet w w'

end Go.Proofs.YtnpcakakjhiboaaDoor

namespace Go.Proofs.YtnpcakakjhiboaaDoor
open Go.RowKit Go.Lo Go.WideShapes

/-- A call makes a formula of formulas of which D tells where they lie: of those, and of new memory. -/
def Makes (D : Nat → Prop) (f : Fm) (w : World) (e : Ending) (w' : World) : Prop := ∃ t, e = .returned (Ft.val t) ∧ Ft.pl t = f ∧ In (fun k => D k ∨ w.heap.size ≤ k) w' t ∧ Quiet w w'

theorem fs_block {w : World} {b : Nat} {ty : TypeId} {T : List Ft} (h : Blk w b (T.flatMap Ft.cells).toArray ty) : FsAt (fun k => k = b) w (some ⟨b, 0, none⟩) T := fun _ => by
  refine ⟨b, 0, rfl, rfl, fun i t ht j u hu => ?_⟩
  rw [Nat.zero_add]
  exact h.cell _ (by simpa using flat_at T i t j u ht hu)

theorem In.made {D : Nat → Prop} {w W : World} {b c : Nat} {ty : TypeId} {n : Nd} {T : List Ft} (hb : Blk W b (T.flatMap Ft.cells).toArray ty) (hl : T.length ≤ maxLen ∧ T.length ≤ c) (hT : ∀ t, t ∈ T → In D w t) (hq : Quiet w W) (hB : w.heap.size ≤ b) : In (fun k => D k ∨ w.heap.size ≤ k) W (.nd ⟨n, some ⟨b, 0, none⟩, c⟩ T) :=
  .nd _ _ hl ((fs_block hb).mono (fun k _ e => .inr (by omega))) (fun k hk => ((hT k hk).quiet hq).mono (fun _ _ h => .inl h))

theorem In.leaf {D : Nat → Prop} {W : World} (n : Nd) (a : Option Addr) (c : Nat) : In D W (.nd ⟨n, a, c⟩ []) := .nd _ _ (by simp) (fun h => absurd rfl h) (by simp)

theorem In.also {D : Nat → Prop} {w W : World} {t : Ft} (h : In D w t) (hq : Quiet w W) : In (fun k => D k ∨ w.heap.size ≤ k) W t := (h.quiet hq).mono (fun _ _ h => .inl h)

theorem pl_nd (n : Nd) (a : Option Addr) (c : Nat) (ks : List Ft) : Ft.pl (.nd ⟨n, a, c⟩ ks) = .nd n (ks.map Ft.pl) := by simp only [Ft.pl, Tr.map, Tr.mapL_eq]; rfl

theorem pl_op (t : Ft) : (Ft.pl t).top = t.top.n := Tr.top_map _ _

theorem pl_op2 (t : Ft) : (Ft.pl t).top.op = t.top.n.op := congrArg Nd.op (pl_op t)

theorem pl_kids (t : Ft) : (Ft.pl t).kids = t.kids.map Ft.pl := Tr.kids_map _ _

theorem blk7 {w : World} {b : Nat} {z0 z1 z2 z3 z4 z5 z6 : Value} {t : TypeId} (h : Blk w b #[z0, z1, z2, z3, z4, z5, z6] t) (x0 x1 x2 x3 x4 x5 x6 : Value) :
    Blk (((((((w.setCell ⟨b, 0, none⟩ x0).setCell ⟨b, 1, none⟩ x1).setCell ⟨b, 2, none⟩ x2).setCell ⟨b, 3, none⟩ x3).setCell ⟨b, 4, none⟩ x4).setCell ⟨b, 5, none⟩ x5).setCell ⟨b, 6, none⟩ x6) b #[x0, x1, x2, x3, x4, x5, x6] t := by
  have h0 : Blk (w.setCell ⟨b, 0, none⟩ x0) b #[x0, z1, z2, z3, z4, z5, z6] t := h.set 0 x0
  have h1 : Blk ((w.setCell ⟨b, 0, none⟩ x0).setCell ⟨b, 1, none⟩ x1) b #[x0, x1, z2, z3, z4, z5, z6] t := h0.set 1 x1
  have h2 : Blk (((w.setCell ⟨b, 0, none⟩ x0).setCell ⟨b, 1, none⟩ x1).setCell ⟨b, 2, none⟩ x2) b #[x0, x1, x2, z3, z4, z5, z6] t := h1.set 2 x2
  have h3 : Blk ((((w.setCell ⟨b, 0, none⟩ x0).setCell ⟨b, 1, none⟩ x1).setCell ⟨b, 2, none⟩ x2).setCell ⟨b, 3, none⟩ x3) b #[x0, x1, x2, x3, z4, z5, z6] t := h2.set 3 x3
  have h4 : Blk (((((w.setCell ⟨b, 0, none⟩ x0).setCell ⟨b, 1, none⟩ x1).setCell ⟨b, 2, none⟩ x2).setCell ⟨b, 3, none⟩ x3).setCell ⟨b, 4, none⟩ x4) b #[x0, x1, x2, x3, x4, z5, z6] t := h3.set 4 x4
  have h5 : Blk ((((((w.setCell ⟨b, 0, none⟩ x0).setCell ⟨b, 1, none⟩ x1).setCell ⟨b, 2, none⟩ x2).setCell ⟨b, 3, none⟩ x3).setCell ⟨b, 4, none⟩ x4).setCell ⟨b, 5, none⟩ x5) b #[x0, x1, x2, x3, x4, x5, z6] t := h4.set 5 x5
  have h6 : Blk (((((((w.setCell ⟨b, 0, none⟩ x0).setCell ⟨b, 1, none⟩ x1).setCell ⟨b, 2, none⟩ x2).setCell ⟨b, 3, none⟩ x3).setCell ⟨b, 4, none⟩ x4).setCell ⟨b, 5, none⟩ x5).setCell ⟨b, 6, none⟩ x6) b #[x0, x1, x2, x3, x4, x5, x6] t := h5.set 6 x6
  exact h6

end Go.Proofs.YtnpcakakjhiboaaDoor
