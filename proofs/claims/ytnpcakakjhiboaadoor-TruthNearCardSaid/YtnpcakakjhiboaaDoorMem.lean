/- Formulas as they lie in memory. No condition. Formulas that are made of formulas, in memory. No condition. How many nodes a formula has, as the law counts them. No condition. The nodes of a formula in memory, each ahead of its kids: where each lies, and how deep it stands. No condition. Rows that a call owns: cut shorter; made of one block. No condition. A value that is a formula; no kids' row lies in a box that is still empty. No condition. -/
import Derived.Test.YtnpcakakjhiboaaDoorForm
import Derived.Test.YtnpcakakjhiboaaDoorRows
import Derived.Test.YtnpcakakjhiboaaDoorLo
import Derived.Test.YtnpcakakjhiboaaDoorOwn
import Derived.Outline
import Derived.Deep.QuietTactic
import Derived.BigQuiet
import Derived.Lib.Hide
import Derived.RegionTactic
import Derived.ChangeAlike
import Derived.Deep.DeepCutAuto
import Derived.Deep.LoopGhost
import Derived.Laws.OwnMore
import Derived.Test.YtnpcakakjhiboaaDoorCalm
namespace Go.Proofs.YtnpcakakjhiboaaDoor
open Go.RowKit Go.Lo Go.WideShapes

/-- A node as it lies in memory: what it bears, and where its kids lie. -/
structure Hd where
  n : Nd
  a : Option Addr
  cap : Nat

/-- A formula as it lies in memory. -/
abbrev Ft := Tr Hd

namespace Ft
def pl (t : Ft) : Fm := Tr.map Hd.n t
def cells (t : Ft) : List Value := [.int .i64 t.top.n.op, .string t.top.n.nm, .int .i64 t.top.n.cmp, .int .i64 t.top.n.val, .int .i64 t.top.n.lo, .int .i64 t.top.n.hi, .slice t.top.a t.kids.length t.top.cap]
def val (t : Ft) : Value := .agg #[.int .i64 t.top.n.op, .string t.top.n.nm, .int .i64 t.top.n.cmp, .int .i64 t.top.n.val, .int .i64 t.top.n.lo, .int .i64 t.top.n.hi, .slice t.top.a t.kids.length t.top.cap]
end Ft

/-- At an address lie the cells of a formula. -/
def AtP (w : World) (b o : Nat) (t : Ft) : Prop := ∀ j u, (Ft.cells t)[j]? = some u → w.cell? ⟨b, o + j, none⟩ = some u

/-- Formulas lie one behind the other, in a block of which D tells. -/
def FsAt (D : Nat → Prop) (w : World) (a : Option Addr) (L : List Ft) : Prop :=
  L ≠ [] → ∃ b o, a = some ⟨b, o, none⟩ ∧ D b ∧ ∀ i t, L[i]? = some t → AtP w b (o + i * 7) t

/-- A formula's kids, and theirs, lie in blocks of which D tells. -/
inductive In (D : Nat → Prop) (w : World) : Ft → Prop
  | nd (h : Hd) (ks : List Ft) : ks.length ≤ maxLen ∧ ks.length ≤ h.cap → FsAt D w h.a ks → (∀ k, k ∈ ks → In D w k) → In D w (.nd h ks)

/-- A call returns this and touches nothing that was there. -/
def Said (v : Value) (w : World) (e : Ending) (w' : World) : Prop := e = .returned v ∧ Quiet w w'

theorem AtP.seven {w : World} {b o : Nat} {t : Ft} (h : AtP w b o t) :
    w.cell? ⟨b, o, none⟩ = some (.int .i64 t.top.n.op) ∧ w.cell? ⟨b, o + 1, none⟩ = some (.string t.top.n.nm) ∧ w.cell? ⟨b, o + 2, none⟩ = some (.int .i64 t.top.n.cmp) ∧ w.cell? ⟨b, o + 3, none⟩ = some (.int .i64 t.top.n.val) ∧
      w.cell? ⟨b, o + 4, none⟩ = some (.int .i64 t.top.n.lo) ∧ w.cell? ⟨b, o + 5, none⟩ = some (.int .i64 t.top.n.hi) ∧ w.cell? ⟨b, o + 6, none⟩ = some (.slice t.top.a t.kids.length t.top.cap) :=
  ⟨h 0 _ rfl, h 1 _ rfl, h 2 _ rfl, h 3 _ rfl, h 4 _ rfl, h 5 _ rfl, h 6 _ rfl⟩

theorem AtP.keep {p : Nat → Prop} {w w' : World} {b o : Nat} {t : Ft} (h : AtP w b o t) (hA : Alters p w w') (hp : ¬ p b) : AtP w' b o t := fun j u hu => hA.cell (h j u hu) hp

theorem AtP.lt {w : World} {b o : Nat} {t : Ft} (h : AtP w b o t) : b < w.heap.size := block_lt_of_cell (h 0 _ rfl)

theorem FsAt.keep {D p : Nat → Prop} {w w' : World} {a : Option Addr} {L : List Ft} (h : FsAt D w a L) (hA : Alters p w w') (hp : ∀ k, D k → k < w.heap.size → ¬ p k) : FsAt D w' a L := fun hn => by
  obtain ⟨b, o, e, hD, hc⟩ := h hn
  refine ⟨b, o, e, hD, fun i t ht => (hc i t ht).keep hA (hp b hD ?_)⟩
  exact (hc i t ht).lt

theorem FsAt.mono {D D' : Nat → Prop} {w : World} {a : Option Addr} {L : List Ft} (h : FsAt D w a L) (hd : ∀ k, k < w.heap.size → D k → D' k) : FsAt D' w a L := fun hn => by
  obtain ⟨b, o, e, hD, hc⟩ := h hn
  refine ⟨b, o, e, hd b ?_ hD, hc⟩
  cases L with
  | nil => exact absurd rfl hn
  | cons t r => exact (hc 0 t rfl).lt

theorem In.keep {D p : Nat → Prop} {w w' : World} {t : Ft} (h : In D w t) (hA : Alters p w w') (hp : ∀ k, D k → k < w.heap.size → ¬ p k) : In D w' t := by
  induction h with
  | nd h ks hl hf _ ih => exact .nd h ks hl (hf.keep hA hp) ih

theorem In.mono {D D' : Nat → Prop} {w : World} {t : Ft} (h : In D w t) (hd : ∀ k, k < w.heap.size → D k → D' k) : In D' w t := by
  induction h with
  | nd h ks hl hf _ ih => exact .nd h ks hl (hf.mono hd) ih

theorem In.quiet {D : Nat → Prop} {w w' : World} {t : Ft} (h : In D w t) (hA : Quiet w w') : In D w' t := h.keep hA (fun _ _ _ h => h)

theorem In.fs {D : Nat → Prop} {w : World} {t : Ft} (h : In D w t) : FsAt D w t.top.a t.kids := by cases h; assumption
theorem In.kid {D : Nat → Prop} {w : World} {t k : Ft} (h : In D w t) (hk : k ∈ t.kids) : In D w k := by cases h with | nd h ks hl hf hh => exact hh k hk
theorem In.len {D : Nat → Prop} {w : World} {t : Ft} (h : In D w t) : t.kids.length ≤ maxLen := by cases h with | nd h ks hl hf hh => exact hl.1
theorem In.room {D : Nat → Prop} {w : World} {t : Ft} (h : In D w t) : t.kids.length ≤ t.top.cap := by cases h with | nd h ks hl hf hh => exact hl.2

theorem cells_length (t : Ft) : (Ft.cells t).length = 7 := rfl

theorem flat_length (T : List Ft) : (T.flatMap Ft.cells).length = T.length * 7 := by
  induction T with
  | nil => rfl
  | cons t T ih => simp only [List.flatMap_cons, List.length_append, ih, cells_length, List.length_cons]; omega

theorem flat_at (T : List Ft) : ∀ (i : Nat) (t : Ft) (j : Nat) (u : Value), T[i]? = some t → (Ft.cells t)[j]? = some u → (T.flatMap Ft.cells)[i * 7 + j]? = some u := by
  induction T with
  | nil => intro i t j u h; simp at h
  | cons x T ih =>
    intro i t j u h hu
    rw [List.flatMap_cons]
    cases i with
    | zero =>
      simp at h
      subst h
      have hj : j < 7 := by
        rcases Nat.lt_or_ge j 7 with h | h
        · exact h
        · rw [List.getElem?_eq_none (by rw [cells_length]; exact h)] at hu; cases hu
      rw [List.getElem?_append_left (by rw [cells_length]; omega), Nat.zero_mul, Nat.zero_add]
      exact hu
    | succ i =>
      rw [List.getElem?_append_right (by rw [cells_length]; omega), cells_length, show (i + 1) * 7 + j - 7 = i * 7 + j by omega]
      exact ih i t j u (by simpa using h) hu

theorem cells_one (t : Ft) : ∀ u, u ∈ Ft.cells t → u.oneCell' = true := by
  intro u hu
  simp [Ft.cells] at hu
  rcases hu with rfl | rfl | rfl | rfl | rfl | rfl | rfl <;> rfl

/-- A row of formulas that a call owns; they, and theirs, lie in blocks of which E tells, and in none that the row itself lies in. -/
def FRow (E : Nat → Prop) (w : World) (lo : Nat) (ty : TypeId) (v : Value) (T : List Ft) : Prop :=
  w.ownsRow lo ty 7 v T.length (T.flatMap Ft.cells) ∧ ∀ t, t ∈ T → In (fun j => E j ∧ v.ownBlock ≠ some j) w t

theorem FRow.nil (E : Nat → Prop) (w : World) (lo : Nat) (ty : TypeId) : FRow E w lo ty (.slice none 0 0) [] := ⟨World.ownsRow_nil _ _ _ _, by simp⟩

theorem FRow.keep {E p : Nat → Prop} {w w' : World} {lo : Nat} {ty : TypeId} {v : Value} {T : List Ft} (h : FRow E w lo ty v T) (hA : Alters p w w') (h1 : ∀ k, v.ownBlock = some k → ¬ p k) (h2 : ∀ k, E k → k < w.heap.size → v.ownBlock ≠ some k → ¬ p k) : FRow E w' lo ty v T :=
  ⟨row_keep h.1 hA h1, fun t ht => (h.2 t ht).keep hA (fun k hk hl => h2 k hk.1 hl hk.2)⟩

theorem FRow.quiet {E : Nat → Prop} {w w' : World} {lo : Nat} {ty : TypeId} {v : Value} {T : List Ft} (h : FRow E w lo ty v T) (hA : Quiet w w') : FRow E w' lo ty v T := h.keep hA (by simp) (by simp)

theorem FRow.fs {E : Nat → Prop} {w : World} {lo n cap : Nat} {ty : TypeId} {a : Option Addr} {T : List Ft} (h : FRow E w lo ty (.slice a n cap) T) : FsAt (fun j => (Value.slice a n cap).ownBlock = some j) w a T := fun hne => by
  rcases h.1.2 with ⟨_, h0⟩ | ⟨g, c, cur, hv, _⟩
  · exact absurd (List.eq_nil_of_length_eq_zero h0) hne
  · obtain ⟨rfl, rfl, rfl⟩ : a = some ⟨g, 0, none⟩ ∧ n = T.length ∧ cap = c := by simpa using hv
    refine ⟨g, 0, rfl, rfl, fun i t ht j u hu => ?_⟩
    have := h.1.cells (g := g) rfl (i * 7 + j) u (flat_at T i t j u ht hu)
    rw [add_plain, Nat.zero_add] at this
    rw [Nat.zero_add]
    exact this

theorem FRow.form {E : Nat → Prop} {w : World} {lo : Nat} {ty : TypeId} {v : Value} {T : List Ft} (h : FRow E w lo ty v T) : ∃ A c, v = .slice A T.length c := by
  rcases h.1.2 with ⟨rfl, h0⟩ | ⟨g, c, cur, hv, _⟩
  · exact ⟨none, 0, by rw [h0]⟩
  · exact ⟨_, c, hv⟩

/-- Behind an append of one. -/
theorem FRow.push {E : Nat → Prop} {w w' : World} {lo : Nat} {ty : TypeId} {v : Value} {T : List Ft} {t : Ft} {g cap : Nat} (h : FRow E w lo ty v T) (hown : w'.ownsRow lo ty 7 (.slice (some ⟨g, 0, none⟩) (T.length + 1) cap) (T.length + 1) (T.flatMap Ft.cells ++ Ft.cells t))
    (hgrow : w.grownBy w' v.ownBlock) (hat : v.ownBlock = some g ∨ w.heap.size ≤ g) (ht : In (fun j => E j ∧ v.ownBlock ≠ some j) w t) : FRow E w' lo ty (.slice (some ⟨g, 0, none⟩) (T.length + 1) cap) (T ++ [t]) := by
  have hA : Alters (fun k => v.ownBlock = some k) w w' := (Alters.refl _).grown hgrow (fun k e _ => e)
  refine ⟨by simpa using hown, fun x hx => ?_⟩
  have hin : In (fun j => E j ∧ v.ownBlock ≠ some j) w x := by
    rcases List.mem_append.1 hx with hx | hx
    · exact h.2 x hx
    · obtain rfl : x = t := by simpa using hx
      exact ht
  have h2 := hin.mono (D' := fun j => (E j ∧ v.ownBlock ≠ some j) ∧ j < w.heap.size) (fun k hk hd => ⟨hd, hk⟩)
  refine (h2.keep hA (fun k hk _ => hk.1.2)).mono (fun k _ hk => ⟨hk.1.1, ?_⟩)
  simp only [Value.ownBlock]
  intro e
  simp at e
  subst e
  rcases hat with h | h
  · exact hk.1.2 h
  · have := hk.2; omega

theorem set7 (w : World) (b : Nat) (x0 x1 x2 x3 x4 x5 x6 : Value) : Alters (fun k => k = b) w (((((((w.setCell ⟨b, 0, none⟩ x0).setCell ⟨b, 1, none⟩ x1).setCell ⟨b, 2, none⟩ x2).setCell ⟨b, 3, none⟩ x3).setCell ⟨b, 4, none⟩ x4).setCell ⟨b, 5, none⟩ x5).setCell ⟨b, 6, none⟩ x6) :=
  (((((((Alters.refl (p := fun k => k = b) w).set (q := ⟨b, 0, none⟩) (fun _ => rfl) x0).set (q := ⟨b, 1, none⟩) (fun _ => rfl) x1).set (q := ⟨b, 2, none⟩) (fun _ => rfl) x2).set (q := ⟨b, 3, none⟩) (fun _ => rfl) x3).set (q := ⟨b, 4, none⟩) (fun _ => rfl) x4).set (q := ⟨b, 5, none⟩) (fun _ => rfl) x5).set (q := ⟨b, 6, none⟩) (fun _ => rfl) x6

/-- A row that a call owns becomes a formula's kids. -/
theorem FRow.node {E D : Nat → Prop} {w : World} {lo cap : Nat} {ty : TypeId} {a : Option Addr} {T : List Ft} (h : FRow E w lo ty (.slice a T.length cap) T) (n : Nd) (hl : T.length ≤ maxLen) (hE : ∀ k, E k → D k) (hD : ∀ k, lo ≤ k → D k) : In D w (.nd ⟨n, a, cap⟩ T) := by
  have hr : T.length ≤ cap := by
    rcases h.1.2 with ⟨hv, h0⟩ | ⟨g, c, cur, hv, _, _, hle, _⟩
    · omega
    · obtain ⟨-, -, rfl⟩ : a = some ⟨g, 0, none⟩ ∧ T.length = T.length ∧ cap = c := by simpa using hv
      exact hle
  refine .nd _ _ ⟨hl, hr⟩ (h.fs.mono (fun k _ hk => hD k (h.1.lt k hk).1)) (fun t ht => (h.2 t ht).mono (fun k _ hk => hE k hk.1))

/-- Where a call has built a formula: in new memory. -/
def Built (f : Fm) (w : World) (e : Ending) (w' : World) : Prop := ∃ t, e = .returned (Ft.val t) ∧ Ft.pl t = f ∧ In (fun k => w.heap.size ≤ k) w' t ∧ Quiet w w'

end Go.Proofs.YtnpcakakjhiboaaDoor

namespace Go.Proofs.YtnpcakakjhiboaaDoor
open Go.RowKit Go.Lo Go.WideShapes

/-- A call makes a formula of formulas of which D tells where they lie: of those, and of new memory. -/
def Makes (D : Nat → Prop) (f : Fm) (w : World) (e : Ending) (w' : World) : Prop := ∃ t, e = .returned (Ft.val t) ∧ Ft.pl t = f ∧ In (fun k => D k ∨ w.heap.size ≤ k) w' t ∧ Quiet w w'

theorem fs_block {w : World} {b : Nat} {ty : TypeId} {T : List Ft} (h : Blk w b (T.flatMap Ft.cells).toArray ty) : FsAt (fun k => k = b) w (some ⟨b, 0, none⟩) T := fun _ => by
  refine ⟨b, 0, rfl, rfl, fun i t ht j u hu => ?_⟩
  rw [Nat.zero_add]
  exact h.cell _ (by simpa using flat_at T i t j u ht hu)

theorem In.made {D : Nat → Prop} {w W : World} {b c : Nat} {ty : TypeId} {n : Nd} {T : List Ft} (hb : Blk W b (T.flatMap Ft.cells).toArray ty) (hl : T.length ≤ maxLen ∧ T.length ≤ c) (hT : ∀ t, t ∈ T → In D w t) (hq : Quiet w W) (hB : w.heap.size ≤ b) : In (fun k => D k ∨ w.heap.size ≤ k) W (.nd ⟨n, some ⟨b, 0, none⟩, c⟩ T) :=
  .nd _ _ hl ((fs_block hb).mono (fun k _ e => .inr (by omega))) (fun k hk => ((hT k hk).quiet hq).mono (fun _ _ h => .inl h))

theorem In.leaf {D : Nat → Prop} {W : World} (n : Nd) (a : Option Addr) (c : Nat) : In D W (.nd ⟨n, a, c⟩ []) := .nd _ _ (by simp) (fun h => absurd rfl h) (by simp)

theorem In.also {D : Nat → Prop} {w W : World} {t : Ft} (h : In D w t) (hq : Quiet w W) : In (fun k => D k ∨ w.heap.size ≤ k) W t := (h.quiet hq).mono (fun _ _ h => .inl h)

theorem pl_nd (n : Nd) (a : Option Addr) (c : Nat) (ks : List Ft) : Ft.pl (.nd ⟨n, a, c⟩ ks) = .nd n (ks.map Ft.pl) := by simp only [Ft.pl, Tr.map, Tr.mapL_eq]; rfl

theorem pl_op (t : Ft) : (Ft.pl t).top = t.top.n := Tr.top_map _ _

theorem pl_op2 (t : Ft) : (Ft.pl t).top.op = t.top.n.op := congrArg Nd.op (pl_op t)

theorem pl_kids (t : Ft) : (Ft.pl t).kids = t.kids.map Ft.pl := Tr.kids_map _ _

theorem blk7 {w : World} {b : Nat} {z0 z1 z2 z3 z4 z5 z6 : Value} {t : TypeId} (h : Blk w b #[z0, z1, z2, z3, z4, z5, z6] t) (x0 x1 x2 x3 x4 x5 x6 : Value) :
    Blk (((((((w.setCell ⟨b, 0, none⟩ x0).setCell ⟨b, 1, none⟩ x1).setCell ⟨b, 2, none⟩ x2).setCell ⟨b, 3, none⟩ x3).setCell ⟨b, 4, none⟩ x4).setCell ⟨b, 5, none⟩ x5).setCell ⟨b, 6, none⟩ x6) b #[x0, x1, x2, x3, x4, x5, x6] t := by
  have h0 : Blk (w.setCell ⟨b, 0, none⟩ x0) b #[x0, z1, z2, z3, z4, z5, z6] t := h.set 0 x0
  have h1 : Blk ((w.setCell ⟨b, 0, none⟩ x0).setCell ⟨b, 1, none⟩ x1) b #[x0, x1, z2, z3, z4, z5, z6] t := h0.set 1 x1
  have h2 : Blk (((w.setCell ⟨b, 0, none⟩ x0).setCell ⟨b, 1, none⟩ x1).setCell ⟨b, 2, none⟩ x2) b #[x0, x1, x2, z3, z4, z5, z6] t := h1.set 2 x2
  have h3 : Blk ((((w.setCell ⟨b, 0, none⟩ x0).setCell ⟨b, 1, none⟩ x1).setCell ⟨b, 2, none⟩ x2).setCell ⟨b, 3, none⟩ x3) b #[x0, x1, x2, x3, z4, z5, z6] t := h2.set 3 x3
  have h4 : Blk (((((w.setCell ⟨b, 0, none⟩ x0).setCell ⟨b, 1, none⟩ x1).setCell ⟨b, 2, none⟩ x2).setCell ⟨b, 3, none⟩ x3).setCell ⟨b, 4, none⟩ x4) b #[x0, x1, x2, x3, x4, z5, z6] t := h3.set 4 x4
  have h5 : Blk ((((((w.setCell ⟨b, 0, none⟩ x0).setCell ⟨b, 1, none⟩ x1).setCell ⟨b, 2, none⟩ x2).setCell ⟨b, 3, none⟩ x3).setCell ⟨b, 4, none⟩ x4).setCell ⟨b, 5, none⟩ x5) b #[x0, x1, x2, x3, x4, x5, z6] t := h4.set 5 x5
  have h6 : Blk (((((((w.setCell ⟨b, 0, none⟩ x0).setCell ⟨b, 1, none⟩ x1).setCell ⟨b, 2, none⟩ x2).setCell ⟨b, 3, none⟩ x3).setCell ⟨b, 4, none⟩ x4).setCell ⟨b, 5, none⟩ x5).setCell ⟨b, 6, none⟩ x6) b #[x0, x1, x2, x3, x4, x5, x6] t := h5.set 6 x6
  exact h6

end Go.Proofs.YtnpcakakjhiboaaDoor

namespace Go.Proofs.YtnpcakakjhiboaaDoor
open Go.RowKit Go.Lo

theorem leftL_drop (ks : List Ft) (k : Nat) (h : k < ks.length) : ks.drop k = ks[k] :: ks.drop (k + 1) := List.drop_eq_getElem_cons h

set_option maxHeartbeats 1000000 in
theorem left_any (D : Nat → Prop) (t : Ft) : ∀ (n : Int) (w : World), In D w t → n ≤ 1000 → Calls Tryd.prog 24 #[t.val, .int .i64 n] w (Said (.int .i64 (leftF t.pl n)) w) := by
  induction t using Tr.ind with
  | h x ks ih =>
    intro n w hin hn
    obtain ⟨⟨op, nm, cmp, val, lo, hi⟩, a, cap⟩ := x
    have hl := hin.len
    have HI := Go.Lib.hid hin
    have HIH := Go.Lib.hid ih
    unfold maxLen at hl
    clear hin ih
    simp only [Tr.kids] at hl
    have hv : leftF (Ft.pl (.nd ⟨⟨op, nm, cmp, val, lo, hi⟩, a, cap⟩ ks)) n = if n ≤ 0 ∨ 40 < nm.size then 0 else leftL (ks.map Ft.pl) (n - 1) := by
      simp [Ft.pl, Tr.map, Tr.mapL_eq, leftF]; rfl
    have HV := Go.Lib.hid hv
    clear hv
    unfold Ft.val
    simp only [Tr.top, Tr.kids]
    go_enter Tryd.func24, Tryd.ntmps24
    by_cases h0 : n ≤ 0
    · have e : leftF (Ft.pl (.nd ⟨⟨op, nm, cmp, val, lo, hi⟩, a, cap⟩ ks)) n = 0 := by rw [HV.out, if_pos (.inl h0)]
      rw [e]
      clear e
      go_wp2
      go_ret
      exact ⟨rfl, (Alters.refl _).alloc _⟩
    · by_cases h1 : 40 < nm.size
      · have e : leftF (Ft.pl (.nd ⟨⟨op, nm, cmp, val, lo, hi⟩, a, cap⟩ ks)) n = 0 := by rw [HV.out, if_pos (.inr h1)]
        rw [e]
        clear e
        go_wp2
        go_ret
        exact ⟨rfl, (Alters.refl _).alloc _⟩
      · have e : leftF (Ft.pl (.nd ⟨⟨op, nm, cmp, val, lo, hi⟩, a, cap⟩ ks)) n = leftL (ks.map Ft.pl) (n - 1) := by rw [HV.out, if_neg (by omega)]
        rw [e]
        clear e HV
        have hB := Blk.new w #[.int .i64 op, .string nm, .int .i64 cmp, .int .i64 val, .int .i64 lo, .int .i64 hi, .slice a ks.length cap] 28
        have hq : Quiet w (w.alloc (.cells #[.int .i64 op, .string nm, .int .i64 cmp, .int .i64 val, .int .i64 lo, .int .i64 hi, .slice a ks.length cap] 28)) := (Alters.refl _).alloc _
        go_wp2
        generalize w.alloc _ = w1 at *
        go_loopw [5, 6] (fun m i wr => ∃ (k : Nat) (mm : Int), k ≤ ks.length ∧ i = .int .i64 k ∧ m = .int .i64 mm ∧ mm ≤ 1000 ∧ leftL ((ks.drop k).map Ft.pl) mm = leftL (ks.map Ft.pl) (n - 1) ∧ Quiet w1 wr) (fun _ i _ => ks.length - (intOf i).toNat)
        case atStart => exact ⟨0, n - 1, Nat.zero_le _, rfl, rfl, by omega, rfl, Alters.refl _⟩
        case round =>
          obtain ⟨k, mm, hk, rfl, rfl, hmm, hL, hQ⟩ := hrel
          have HL := Go.Lib.hid hL
          have HQ := Go.Lib.hid hQ
          have c6 : wr.cell? ⟨w.heap.size, 6, none⟩ = some (.slice a ks.length cap) := hQ.cell (hB.cell 6 rfl) (by simp)
          clear hL hQ
          by_cases hlt : k < ks.length
          · by_cases hm : 0 < mm
            · have hne : ks ≠ [] := fun h => by subst h; simp at hlt
              obtain ⟨b, o, rfl, hD, hc⟩ := HI.out.fs hne
              obtain ⟨d0, d1, d2, d3, d4, d5, d6⟩ := (((hc k ks[k] (by simp [Tr.kids, hlt])).keep hq (by simp)).keep HQ.out (by simp)).seven
              have HK := Go.Lib.hid (HIH.out ks[k] (by simp) mm wr (((HI.out.kid (k := ks[k]) (by simp [Tr.kids])).quiet hq).quiet HQ.out) (by omega))
              have HS := Go.Lib.hid (leftL_drop ks k hlt)
              have HR := Go.Lib.hid (leftF_range (Ft.pl ks[k]) mm)
              clear hc hD
              unfold Ft.val at HK
              generalize ks[k] = kk at *
              go_wp2_with fail
              refine HK.out.mono ?_
              rintro e w3 ⟨rfl, hq3⟩
              have hQ3 := HQ.out.trans hq3
              have HQ3 := Go.Lib.hid hQ3
              clear d0 d1 d2 d3 d4 d5 d6 hQ3 hq3
              go_wp2
              go_roundw
              case rel =>
                refine ⟨k + 1, leftF (Ft.pl kk) mm, by omega, by go_num, rfl, by have := HR.out.2.1 hm; omega, ?_, HQ3.out⟩
                rw [← HL.out, HS.out, List.map_cons, leftL, if_pos hm]
              case measure => simp [intOf]; omega
            · have e : leftL (ks.map Ft.pl) (n - 1) = mm := by
                rw [← HL.out, leftL_drop ks k hlt, List.map_cons, leftL, if_neg hm]
              have HE := Go.Lib.hid e
              clear e
              go_wp2
              go_ret
              exact ⟨by rw [HE.out]; rfl, hq.trans HQ.out⟩
          · obtain rfl : k = ks.length := by omega
            have e : leftL (ks.map Ft.pl) (n - 1) = mm := by
              rw [← HL.out, List.drop_length]; rfl
            have HE := Go.Lib.hid e
            clear e
            go_wp2
            go_ret
            exact ⟨by rw [HE.out]; rfl, hq.trans HQ.out⟩
end Go.Proofs.YtnpcakakjhiboaaDoor

namespace Go.Proofs.YtnpcakakjhiboaaDoor
open Go.RowKit Go.Lo Go.WideShapes

/-- A node on the way: where it lies, how deep it stands. -/
structure Vi where
  ad : Addr
  dp : Nat
  t : Ft

/-- Where kids begin. -/
def kidAd (a : Option Addr) : Addr := a.getD ⟨0, 0, none⟩
/-- The next one. -/
def nextAd (a : Addr) : Addr := ⟨a.block, a.off + 7, a.spot⟩

mutual
def vis (A : Addr) (d : Nat) : Ft → List Vi | .nd x ks => ⟨A, d, .nd x ks⟩ :: visL (kidAd x.a) (d + 1) ks
def visL (A : Addr) (d : Nat) : List Ft → List Vi | [] => [] | k :: ks => vis A d k ++ visL (nextAd A) d ks
end

theorem visL_pre (ks : List Ft) (h : ∀ k, k ∈ ks → ∀ (A : Addr) (d : Nat), (vis A d k).map Vi.t = k.pre) : ∀ (A : Addr) (d : Nat), (visL A d ks).map Vi.t = Tr.preL ks := by
  induction ks with
  | nil => intro A d; rfl
  | cons k ks ih =>
    intro A d
    simp only [visL, Tr.preL, List.map_append]
    rw [h k (by simp), ih (fun k hk => h k (by simp [hk]))]

theorem vis_pre (t : Ft) : ∀ (A : Addr) (d : Nat), (vis A d t).map Vi.t = t.pre := by
  induction t using Tr.ind with
  | h x ks ih =>
    intro A d
    simp only [vis, Tr.pre, List.map_cons]
    rw [visL_pre ks ih]

theorem visL_map (ks : List Ft) (A : Addr) (d : Nat) : (visL A d ks).map Vi.t = Tr.preL ks := visL_pre ks (fun k _ => vis_pre k) A d

theorem vis_length (A : Addr) (d : Nat) (t : Ft) : (vis A d t).length = t.size := by rw [← List.length_map (f := Vi.t), vis_pre, Tr.pre_length]

theorem visL_length (A : Addr) (d : Nat) (ks : List Ft) : (visL A d ks).length = Tr.sizeL ks := by
  induction ks generalizing A with
  | nil => rfl
  | cons k ks ih => simp only [visL, List.length_append, vis_length, ih, Tr.sizeL]

/-- What is still to be visited of a node's kids: where the next one lies, the room, the kids. -/
structure En where
  a : Option Addr
  c : Nat
  ks : List Ft

def En.val (e : En) : Value := .slice e.a e.ks.length e.c

/-- As it may lie. -/
structure En.Ok (D : Nat → Prop) (w : World) (e : En) : Prop where
  max : e.ks.length ≤ maxLen
  room : e.ks.length ≤ e.c
  fs : FsAt D w e.a e.ks
  inn : ∀ t, t ∈ e.ks → In D w t

theorem En.Ok.keep {D p : Nat → Prop} {w w' : World} {e : En} (h : e.Ok D w) (hA : Alters p w w') (hp : ∀ k, D k → k < w.heap.size → ¬ p k) : e.Ok D w' :=
  ⟨h.max, h.room, h.fs.keep hA hp, fun t ht => (h.inn t ht).keep hA hp⟩

theorem En.Ok.mono {D D' : Nat → Prop} {w : World} {e : En} (h : e.Ok D w) (hd : ∀ k, k < w.heap.size → D k → D' k) : e.Ok D' w :=
  ⟨h.max, h.room, h.fs.mono hd, fun t ht => (h.inn t ht).mono hd⟩

/-- What is still to be visited: the deepest first. -/
def rest : List En → List Vi
  | [] => []
  | e :: S => visL (kidAd e.a) (S.length + 2) e.ks ++ rest S

theorem rest_pop {e : En} {S : List En} (h : e.ks = []) : rest (e :: S) = rest S := by simp [rest, h, visL]

/-- One node is visited. -/
theorem rest_step {b o c : Nat} {a2 : Option Addr} {c2 : Nat} {k : Ft} {ks : List Ft} {S : List En} (h : ks ≠ [] → a2 = some ⟨b, o + 7, none⟩) :
    rest (⟨some ⟨b, o, none⟩, c, k :: ks⟩ :: S) = ⟨⟨b, o, none⟩, S.length + 2, k⟩ :: rest (⟨k.top.a, k.top.cap, k.kids⟩ :: ⟨a2, c2, ks⟩ :: S) := by
  have e : visL (nextAd ⟨b, o, none⟩) (S.length + 2) ks = visL (kidAd a2) (S.length + 2) ks := by
    by_cases hk : ks = []
    · subst hk; rfl
    · rw [h hk]; rfl
  cases k with
  | nd x kk =>
    simp only [rest, visL, vis, kidAd, Option.getD_some, List.cons_append, List.length_cons, List.append_assoc, Tr.top, Tr.kids]
    rw [e]
    simp only [kidAd]

theorem rest_length_pos {e : En} {S : List En} : Tr.sizeL e.ks ≤ (rest (e :: S)).length := by simp [rest, visL_length]

/-- All that is visited of a formula that lies at an address. -/
theorem vis_rest (A : Addr) (t : Ft) : vis A 1 t = ⟨A, 1, t⟩ :: rest [⟨t.top.a, t.top.cap, t.kids⟩] := by
  cases t; simp [vis, rest, Tr.top, Tr.kids]

/-- The kids' next one, and what is left. -/
theorem En.Ok.next {D : Nat → Prop} {w : World} {b o c : Nat} {k : Ft} {ks : List Ft} {a2 : Option Addr} (h : (⟨some ⟨b, o, none⟩, c, k :: ks⟩ : En).Ok D w) (h2 : ks ≠ [] → a2 = some ⟨b, o + 7, none⟩) :
    AtP w b o k ∧ D b ∧ En.Ok D w ⟨k.top.a, k.top.cap, k.kids⟩ ∧ En.Ok D w ⟨a2, c - 1, ks⟩ := by
  obtain ⟨b', o', e, hD, hc⟩ := h.fs (by simp)
  obtain ⟨rfl, rfl⟩ : b = b' ∧ o = o' := by simpa using e
  have hk := h.inn k (by simp)
  have hm := h.max
  have hr := h.room
  simp only [List.length_cons] at hm hr
  refine ⟨by simpa using hc 0 k rfl, hD, ⟨hk.len, hk.room, hk.fs, fun t ht => hk.kid ht⟩, ⟨by simp only; omega, by simp only; omega, fun hne => ?_, fun t ht => h.inn t (by simp [ht])⟩⟩
  rw [h2 hne]
  refine ⟨b, o + 7, rfl, hD, fun i t ht => ?_⟩
  have := hc (i + 1) t (by simpa using ht)
  rw [show o + (i + 1) * 7 = o + 7 + i * 7 by omega] at this
  exact this

theorem visL_at {D : Nat → Prop} {w : World} {b d : Nat} (hD : D b) (ks : List Ft) (h : ∀ k, k ∈ ks → ∀ (b o d : Nat), AtP w b o k → D b → In D w k → ∀ v, v ∈ vis ⟨b, o, none⟩ d k → ∃ b' o', v.ad = ⟨b', o', none⟩ ∧ D b' ∧ AtP w b' o' v.t ∧ In D w v.t) :
    ∀ o, (∀ i t, ks[i]? = some t → AtP w b (o + i * 7) t) → (∀ k, k ∈ ks → In D w k) → ∀ v, v ∈ visL ⟨b, o, none⟩ d ks → ∃ b' o', v.ad = ⟨b', o', none⟩ ∧ D b' ∧ AtP w b' o' v.t ∧ In D w v.t := by
  induction ks with
  | nil => intro o _ _ v hv; simp [visL] at hv
  | cons k ks ih =>
    intro o hc hk v hv
    simp only [visL, List.mem_append] at hv
    rcases hv with hv | hv
    · exact h k (by simp) b o d (by simpa using hc 0 k rfl) hD (hk k (by simp)) v hv
    · refine ih (fun k hk => h k (by simp [hk])) (o + 7) (fun i t ht => ?_) (fun k h => hk k (by simp [h])) v hv
      have := hc (i + 1) t (by simpa using ht)
      rw [show o + (i + 1) * 7 = o + 7 + i * 7 by omega] at this
      exact this

/-- Where each node lies. -/
theorem vis_at {D : Nat → Prop} {w : World} (t : Ft) : ∀ (b o d : Nat), AtP w b o t → D b → In D w t → ∀ v, v ∈ vis ⟨b, o, none⟩ d t → ∃ b' o', v.ad = ⟨b', o', none⟩ ∧ D b' ∧ AtP w b' o' v.t ∧ In D w v.t := by
  induction t using Tr.ind with
  | h x ks ih =>
    intro b o d ha hb hin v hv
    simp only [vis, List.mem_cons] at hv
    rcases hv with rfl | hv
    · exact ⟨b, o, rfl, hb, ha, hin⟩
    · by_cases hne : ks = []
      · subst hne; simp [visL] at hv
      obtain ⟨b2, o2, e, hD, hc⟩ := hin.fs hne
      simp only [Tr.top] at e
      rw [e] at hv
      exact visL_at hD ks ih o2 hc (fun k hk => hin.kid hk) v hv

end Go.Proofs.YtnpcakakjhiboaaDoor

namespace Go.Proofs.YtnpcakakjhiboaaDoor
open Go.RowKit Go.Lo Go.WideShapes

/-- A row of a call's own, cut to its first m. -/
theorem row_cut {w : World} {base : Nat} {e : TypeId} {size n m g cap : Nat} {xs : List Value} (h : w.ownsRow base e size (.slice (some ⟨g, 0, none⟩) n cap) n xs) (hm : m ≤ n) : w.ownsRow base e size (.slice (some ⟨g, 0, none⟩) m cap) m (xs.take (m * size)) := by
  rcases h with ⟨hl, ⟨hv, _⟩ | ⟨g', cap', cur, hv, h0, hg, h1, h2, h3, h4⟩⟩
  · cases hv
  · obtain ⟨rfl, rfl⟩ : g = g' ∧ cap = cap' := by simpa using hv
    have hms : m * size ≤ n * size := Nat.mul_le_mul_right _ hm
    refine ⟨by rw [List.length_take, hl]; omega, .inr ⟨g, cap, cur, rfl, h0, hg, by omega, h2, h3, ?_⟩⟩
    rw [← h4, List.take_take]
    congr 1
    omega

end Go.Proofs.YtnpcakakjhiboaaDoor

namespace Go.Proofs.YtnpcakakjhiboaaDoor
open Go.RowKit Go.Lo Go.WideShapes

/-- What lies at the call: the formula's box, and the result's. -/
theorem boxes1 (w : World) (xs : Array Value) (t : TypeId) : Quiet w ((w.alloc (.cells xs t)).alloc (.cells #[.int .i64 0, .string ⟨#[]⟩, .int .i64 0, .int .i64 0, .int .i64 0, .int .i64 0, .slice none 0 0] t)) ∧
    Blk ((w.alloc (.cells xs t)).alloc (.cells #[.int .i64 0, .string ⟨#[]⟩, .int .i64 0, .int .i64 0, .int .i64 0, .int .i64 0, .slice none 0 0] t)) w.heap.size xs t ∧
    Blk ((w.alloc (.cells xs t)).alloc (.cells #[.int .i64 0, .string ⟨#[]⟩, .int .i64 0, .int .i64 0, .int .i64 0, .int .i64 0, .slice none 0 0] t)) (w.heap.size + 1) #[.int .i64 0, .string ⟨#[]⟩, .int .i64 0, .int .i64 0, .int .i64 0, .int .i64 0, .slice none 0 0] t := by
  refine ⟨((Alters.refl _).alloc _).alloc _, (Blk.new _ _ _).alloc _, ?_⟩
  have := Blk.new (w.alloc (.cells xs t)) #[.int .i64 0, .string ⟨#[]⟩, .int .i64 0, .int .i64 0, .int .i64 0, .int .i64 0, .slice none 0 0] t
  rw [World.size_alloc] at this
  exact this

theorem alloc2 (w : World) (o : Obj) (xs : Array Value) (t : TypeId) : Blk ((w.alloc o).alloc (.cells xs t)) (w.heap.size + 1) xs t := by
  have := Blk.new (w.alloc o) xs t
  rw [World.size_alloc] at this
  exact this

theorem alloc3 (w : World) (o o2 : Obj) (xs : Array Value) (t : TypeId) : Blk (((w.alloc o).alloc o2).alloc (.cells xs t)) (w.heap.size + 1 + 1) xs t := by
  have := Blk.new ((w.alloc o).alloc o2) xs t
  rw [World.size_alloc, World.size_alloc] at this
  exact this

theorem alloc4 (w : World) (o o2 o3 : Obj) (xs : Array Value) (t : TypeId) : Blk ((((w.alloc o).alloc o2).alloc o3).alloc (.cells xs t)) (w.heap.size + 1 + 1 + 1) xs t := by
  have := Blk.new (((w.alloc o).alloc o2).alloc o3) xs t
  rw [World.size_alloc, World.size_alloc, World.size_alloc] at this
  exact this

/-- A result of seven cells lies in block b. -/
theorem seven_cells {w : World} {b : Nat} {x0 x1 x2 x3 x4 x5 x6 : Value} {t : TypeId} (h : Blk w b #[x0, x1, x2, x3, x4, x5, x6] t) :
    w.cell? ⟨b, 0, none⟩ = some x0 ∧ w.cell? ⟨b, 1, none⟩ = some x1 ∧ w.cell? ⟨b, 2, none⟩ = some x2 ∧ w.cell? ⟨b, 3, none⟩ = some x3 ∧ w.cell? ⟨b, 4, none⟩ = some x4 ∧ w.cell? ⟨b, 5, none⟩ = some x5 ∧ w.cell? ⟨b, 6, none⟩ = some x6 :=
  ⟨h.cell 0 rfl, h.cell 1 rfl, h.cell 2 rfl, h.cell 3 rfl, h.cell 4 rfl, h.cell 5 rfl, h.cell 6 rfl⟩

/-- A value is a formula; it lies in blocks of which D tells. -/
def MadeIn (D : Nat → Prop) (f : Fm) (v : Value) (w : World) : Prop := ∃ t, v = Ft.val t ∧ Ft.pl t = f ∧ In D w t

/-- A call gives a formula, and touches nothing that was there. -/
def Gives (D : Nat → Prop) (f : Fm) (w : World) (e : Ending) (w' : World) : Prop := ∃ v, e = .returned v ∧ MadeIn D f v w' ∧ Quiet w w'

theorem MadeIn.quiet {D : Nat → Prop} {f : Fm} {v : Value} {w w' : World} (h : MadeIn D f v w) (hq : Quiet w w') : MadeIn D f v w' := by
  obtain ⟨t, h1, h2, h3⟩ := h
  exact ⟨t, h1, h2, h3.quiet hq⟩

theorem MadeIn.mono {D D' : Nat → Prop} {f : Fm} {v : Value} {w : World} (h : MadeIn D f v w) (hd : ∀ k, k < w.heap.size → D k → D' k) : MadeIn D' f v w := by
  obtain ⟨t, h1, h2, h3⟩ := h
  exact ⟨t, h1, h2, h3.mono hd⟩

theorem In.cut {D : Nat → Prop} {w : World} {t : Ft} (h : In D w t) : In (fun k => D k ∧ k < w.heap.size) w t := h.mono (fun _ hk hd => ⟨hd, hk⟩)

def Want.fm (D : Nat → Prop) (f : Fm) : Want := ⟨MadeIn D f, fun _ _ _ hq h => h.quiet hq⟩

theorem At0 {w : World} {b b2 o : Nat} {t : Ft} {ty : TypeId} (h : AtP w b2 o t) (hb : Blk w b #[.int .i64 0, .string ⟨#[]⟩, .int .i64 0, .int .i64 0, .int .i64 0, .int .i64 0, .slice none 0 0] ty) (h0 : t.top.n.op ≠ 0) : b2 ≠ b := by
  rintro rfl
  obtain ⟨d0, -, -, -, -, -, d6⟩ := h.seven
  have e0 : w.cell? ⟨b2, o, none⟩ = (#[.int .i64 0, .string ⟨#[]⟩, .int .i64 0, .int .i64 0, .int .i64 0, .int .i64 0, .slice none 0 0] : Array Value)[o]? := by
    have hb' := hb
    unfold Blk at hb'
    simp [World.cell?, hb']
  have e6 : w.cell? ⟨b2, o + 6, none⟩ = (#[.int .i64 0, .string ⟨#[]⟩, .int .i64 0, .int .i64 0, .int .i64 0, .int .i64 0, .slice none 0 0] : Array Value)[o + 6]? := by
    have hb' := hb
    unfold Blk at hb'
    simp [World.cell?, hb']
  rw [d0] at e0
  rw [d6] at e6
  rcases o with _ | o
  · simp at e0
    exact h0 e0
  · simp at e6

theorem In.avoid {D : Nat → Prop} {w : World} {b : Nat} {ty : TypeId} {t : Ft} (h : In D w t) (hb : Blk w b #[.int .i64 0, .string ⟨#[]⟩, .int .i64 0, .int .i64 0, .int .i64 0, .int .i64 0, .slice none 0 0] ty) : (∀ n, n ∈ t.pre → n.top.n.op ≠ 0) → In (fun k => D k ∧ k ≠ b) w t := by
  induction h with
  | nd x ks hl hf _ ih =>
    intro h0
    have hk0 : ∀ k, k ∈ ks → ∀ n, n ∈ k.pre → n.top.n.op ≠ 0 := fun k hk n hn => h0 n (by
      simp only [Tr.pre, Tr.preL_eq]
      exact List.mem_cons_of_mem _ (List.mem_flatMap.2 ⟨k, hk, hn⟩))
    refine .nd _ _ hl (fun hn => ?_) (fun k hk => ih k hk (hk0 k hk))
    obtain ⟨b2, o, e, hD, hc⟩ := hf hn
    refine ⟨b2, o, e, ⟨hD, ?_⟩, hc⟩
    cases ks with
    | nil => exact absurd rfl hn
    | cons k r => exact At0 (by simpa using hc 0 k rfl) hb (hk0 k (by simp) k (by cases k; simp [Tr.pre]))
theorem pl_ops {t : Ft} {f : Fm} (hp : Ft.pl t = f) (h : ∀ n, n ∈ f.pre → n.top.op ≠ 0) : ∀ n, n ∈ t.pre → n.top.n.op ≠ 0 := fun n hn => by
  subst hp
  rw [← pl_op2]
  refine h _ ?_
  show _ ∈ (Tr.map Hd.n t).pre
  rw [Tr.map_pre]
  exact List.mem_map_of_mem hn

theorem size_of {t : Ft} {f : Fm} (h : Ft.pl t = f) : t.size = f.size := by rw [← h]; exact (Tr.map_size _ _).symm

end Go.Proofs.YtnpcakakjhiboaaDoor
