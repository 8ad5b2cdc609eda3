/- slices.Reverse at formulas. No condition. norm.upward: the nodes, kids ahead of their node. No condition. The builtin clear on the end of a row of formulas. No condition. -/
import Derived.Test.YtnpcakakjhiboaaDoorMem
import Derived.Lib.SlicesMore
import Derived.RegionTactic
import Derived.BigRegion
import Derived.Sort.LotA
import Derived.Deep.AppendLies
import Derived.Deep.RegionLaw
import Derived.Laws.OwnMore
import Derived.RangeFuncBox
import Derived.Laws.CopyRow
namespace Go.Proofs.YtnpcakakjhiboaaDoor
open Go.RowKit Go.Lo Go.WideShapes Go.Sort

instance : Inhabited Ft := ⟨.nd ⟨z0, none, 0⟩ []⟩

/-- A formula's seven cells are written. -/
def setF (W : World) (g off : Nat) (t : Ft) : World := ((((((W.setCell ⟨g, off, none⟩ (.int .i64 t.top.n.op)).setCell ⟨g, off + 1, none⟩ (.string t.top.n.nm)).setCell ⟨g, off + 2, none⟩ (.int .i64 t.top.n.cmp)).setCell ⟨g, off + 3, none⟩ (.int .i64 t.top.n.val)).setCell ⟨g, off + 4, none⟩ (.int .i64 t.top.n.lo)).setCell ⟨g, off + 5, none⟩ (.int .i64 t.top.n.hi)).setCell ⟨g, off + 6, none⟩ (.slice t.top.a t.kids.length t.top.cap)

def putF (cs : Array Value) (off : Nat) (t : Ft) : Array Value := ((((((cs.setIfInBounds off (.int .i64 t.top.n.op)).setIfInBounds (off + 1) (.string t.top.n.nm)).setIfInBounds (off + 2) (.int .i64 t.top.n.cmp)).setIfInBounds (off + 3) (.int .i64 t.top.n.val)).setIfInBounds (off + 4) (.int .i64 t.top.n.lo)).setIfInBounds (off + 5) (.int .i64 t.top.n.hi)).setIfInBounds (off + 6) (.slice t.top.a t.kids.length t.top.cap)

theorem setF_blk {W : World} {g off : Nat} {cs : Array Value} {ty : TypeId} (t : Ft) (h : Blk W g cs ty) : Blk (setF W g off t) g (putF cs off t) ty := ((((((h.set off _).set (off + 1) _).set (off + 2) _).set (off + 3) _).set (off + 4) _).set (off + 5) _).set (off + 6) _

theorem setF_alters {p : Nat → Prop} {W0 W : World} {g off : Nat} (t : Ft) (h : Alters p W0 W) (hg : p g) : Alters p W0 (setF W g off t) :=
  ((((((h.set (q := ⟨g, off, none⟩) (fun _ => hg) _).set (q := ⟨g, off + 1, none⟩) (fun _ => hg) _).set (q := ⟨g, off + 2, none⟩) (fun _ => hg) _).set (q := ⟨g, off + 3, none⟩) (fun _ => hg) _).set (q := ⟨g, off + 4, none⟩) (fun _ => hg) _).set (q := ⟨g, off + 5, none⟩) (fun _ => hg) _).set (q := ⟨g, off + 6, none⟩) (fun _ => hg) _

theorem putF_size (cs : Array Value) (off : Nat) (t : Ft) : (putF cs off t).size = cs.size := by simp [putF]

theorem putF_far (cs : Array Value) (off : Nat) (t : Ft) (p : Nat) (h : p < off ∨ off + 7 ≤ p) : (putF cs off t)[p]? = cs[p]? := by
  unfold putF
  rw [Array.getElem?_setIfInBounds_ne (by omega), Array.getElem?_setIfInBounds_ne (by omega), Array.getElem?_setIfInBounds_ne (by omega), Array.getElem?_setIfInBounds_ne (by omega), Array.getElem?_setIfInBounds_ne (by omega), Array.getElem?_setIfInBounds_ne (by omega), Array.getElem?_setIfInBounds_ne (by omega)]

theorem putF_at (cs : Array Value) (off : Nat) (t : Ft) (h : off + 7 ≤ cs.size) : ∀ (j : Nat) (u : Value), (Ft.cells t)[j]? = some u → (putF cs off t)[off + j]? = some u := by
  intro j u hu
  unfold putF
  have hj : j < 7 := by
    rcases Nat.lt_or_ge j 7 with h | h
    · exact h
    · rw [List.getElem?_eq_none (by rw [cells_length]; exact h)] at hu; cases hu
  rcases j with _ | _ | _ | _ | _ | _ | _ | j
  · simp [Ft.cells] at hu; subst hu; simp [Array.getElem?_setIfInBounds]; omega
  · simp [Ft.cells] at hu; subst hu; simp [Array.getElem?_setIfInBounds]; omega
  · simp [Ft.cells] at hu; subst hu; simp [Array.getElem?_setIfInBounds]; omega
  · simp [Ft.cells] at hu; subst hu; simp [Array.getElem?_setIfInBounds]; omega
  · simp [Ft.cells] at hu; subst hu; simp [Array.getElem?_setIfInBounds]; omega
  · simp [Ft.cells] at hu; subst hu; simp [Array.getElem?_setIfInBounds]; omega
  · simp [Ft.cells] at hu; subst hu; simp [Array.getElem?_setIfInBounds]; omega
  · omega

theorem blk_read {w : World} {b i : Nat} {xs : Array Value} {ty : TypeId} (h : Blk w b xs ty) : w.cell? ⟨b, i, none⟩ = xs[i]? := by
  unfold Blk at h; simp [World.cell?, h]

/-- What a block reads as: formulas from o on. -/
def ReadsF (cs : Array Value) (o : Nat) (d : Array Ft) : Prop := ∀ k t, d[k]? = some t → ∀ j u, (Ft.cells t)[j]? = some u → cs[o + k * 7 + j]? = some u

theorem ReadsF.at {w : World} {g o : Nat} {cs : Array Value} {d : Array Ft} {ty : TypeId} (h : ReadsF cs o d) (hb : Blk w g cs ty) {k : Nat} {t : Ft} (hk : d[k]? = some t) : AtP w g (o + k * 7) t := fun j u hu => hb.cell _ (h k t hk j u hu)

theorem readsF_of {w : World} {g o : Nat} {cs : Array Value} {d : Array Ft} {ty : TypeId} (hb : Blk w g cs ty) (h : ∀ k t, d[k]? = some t → AtP w g (o + k * 7) t) : ReadsF cs o d := fun k t hk j u hu => by
  rw [← blk_read hb]
  exact h k t hk j u hu

/-- Two of them change places. -/
theorem readsF_swap {cs : Array Value} {o i jn : Nat} {d : Array Ft} (h : ReadsF cs o d) (hij : i < jn) (hj : jn < d.size) (hsz : o + d.size * 7 ≤ cs.size) : ReadsF (putF (putF cs (o + i * 7) d[jn]!) (o + jn * 7) d[i]!) o (swp d i jn) := by
  intro k t hk j u hu
  have hj7 : j < 7 := by
    rcases Nat.lt_or_ge j 7 with h | h
    · exact h
    · rw [List.getElem?_eq_none (by rw [cells_length]; exact h)] at hu; cases hu
  have hkl : k < d.size := by
    rcases Nat.lt_or_ge k d.size with h | h
    · exact h
    · rw [Array.getElem?_eq_none (by rw [size_swp]; exact h)] at hk; cases hk
  have ht : (swp d i jn)[k]! = t := by simp [getElem!_def, hk]
  rw [swp_get d (by omega) hj k] at ht
  by_cases h1 : k = jn
  · subst h1
    have : d[i]! = t := by rw [← ht, if_pos rfl]
    subst this
    exact putF_at _ _ _ (by rw [putF_size]; omega) j u hu
  · by_cases h2 : k = i
    · subst h2
      have : d[jn]! = t := by rw [← ht, if_neg h1, if_pos rfl]
      subst this
      rw [putF_far _ _ _ _ (by omega)]
      exact putF_at _ _ _ (by omega) j u hu
    · have : d[k]! = t := by rw [← ht, if_neg h1, if_neg h2]
      subst this
      rw [putF_far _ _ _ _ (by omega), putF_far _ _ _ _ (by omega)]
      exact h k _ (by simp [hkl]) j u hu

/-- What Reverse leaves. -/
def RevDone (g o : Nat) (cs : Array Value) (d : Array Ft) (w : World) (e : Ending) (w' : World) : Prop :=
  e = .returned (.tuple #[]) ∧ ∃ cs', Blk w' g cs' 28 ∧ cs'.size = cs.size ∧ ReadsF cs' o d.reverse ∧ (∀ p, p < o ∨ o + d.size * 7 ≤ p → cs'[p]? = cs[p]?) ∧ Alters (fun k => k = g) w w'

set_option maxRecDepth 100000 in
set_option maxHeartbeats 2000000 in
theorem reverse_walk (g o cap : Nat) (cs : Array Value) (d : Array Ft) (w : World) (hB : Blk w g cs 28) (hA : ReadsF cs o d) (hsz : o + d.size * 7 ≤ cs.size) (hmx : d.size ≤ 1000000) :
    Calls Tryd.prog 104 #[.slice (some ⟨g, o, none⟩) d.size cap] w (RevDone g o cs d w) := by
  go_enter Tryd.func104, Tryd.ntmps104
  go_wp2
  go_loopg [2, 3] d.size (fun k s2 s3 wr => ∃ (i jn : Nat) (jz : Int) (dk : Array Ft) (ck : Array Value), s2 = .int .i64 i ∧ s3 = .int .i64 jz ∧ ((i : Int) < jz → jz = jn ∧ jn < d.size) ∧ (¬ (i : Int) < jz → ¬ i < jn) ∧ jn - i ≤ k ∧
    dk.size = d.size ∧ Blk wr g ck 28 ∧ ReadsF ck o dk ∧ ck.size = cs.size ∧ (∀ p, p < o ∨ o + d.size * 7 ≤ p → ck[p]? = cs[p]?) ∧ Alters (fun k => k = g) w wr ∧ reverseLoop i jn dk = reverseLoop 0 (d.size - 1) d)
  case atStart => exact ⟨0, d.size - 1, (d.size : Int) - 1, d, cs, rfl, rfl, fun h => ⟨by omega, by omega⟩, fun h => by omega, by omega, rfl, hB, hA, rfl, fun _ _ => rfl, Alters.refl _, rfl⟩
  case round =>
    obtain ⟨i, jn, jz, dk, ck, rfl, rfl, h1, h2, hk, hds, hb, ha, hcs, hfar, hal, heq⟩ := hrel
    by_cases hlt : (i : Int) < jz
    · obtain ⟨rfl, hjn⟩ := h1 hlt
      have hij : i < jn := by omega
      obtain ⟨d0, d1, d2, d3, d4, d5, d6⟩ := (ha.at hb (k := i) (t := dk[i]!) (by simp [show i < dk.size by omega])).seven
      obtain ⟨e0, e1, e2, e3, e4, e5, e6⟩ := (ha.at hb (k := jn) (t := dk[jn]!) (by simp [show jn < dk.size by omega])).seven
      have hfz := fun p => hb.free p
      rw [reverseLoop, if_pos hij] at heq
      have hsw := readsF_swap ha hij (by omega) (by omega)
      have hb2 := setF_blk dk[i]! (off := o + jn * 7) (setF_blk dk[jn]! (off := o + i * 7) hb)
      have hs2 : (putF (putF ck (o + i * 7) dk[jn]!) (o + jn * 7) dk[i]!).size = cs.size := by rw [putF_size, putF_size, hcs]
      have hf2 : ∀ p, p < o ∨ o + d.size * 7 ≤ p → (putF (putF ck (o + i * 7) dk[jn]!) (o + jn * 7) dk[i]!)[p]? = cs[p]? := fun p hp => by
        rw [putF_far _ _ _ _ (by omega), putF_far _ _ _ _ (by omega)]
        exact hfar p hp
      have ha2 := setF_alters dk[i]! (off := o + jn * 7) (setF_alters dk[jn]! (off := o + i * 7) hal rfl) rfl
      have hd2 : (swp dk i jn).size = d.size := by rw [size_swp]; exact hds
      unfold setF at hb2 ha2
      have HFIN := Go.Lib.hid (And.intro hd2 (And.intro hb2 (And.intro hsw (And.intro hs2 (And.intro hf2 (And.intro ha2 heq))))))
      clear hb ha hcs hfar hal heq h1 h2 hB hA hds hsw hb2 hs2 hf2 ha2 hd2
      generalize dk[i]! = ti at *
      generalize dk[jn]! = tj at *
      go_wp2_with fail
      go_region
      obtain ⟨hd2, hb2, hsw, hs2, hf2, ha2, heq⟩ := HFIN.out
      have HB := Go.Lib.hid hb2
      have HA := Go.Lib.hid ha2
      have HSW := Go.Lib.hid hsw
      have HS2 := Go.Lib.hid hs2
      have HF2 := Go.Lib.hid hf2
      have HD2 := Go.Lib.hid hd2
      have HEQ := Go.Lib.hid heq
      clear hb2 ha2 hsw hs2 hf2 hd2 heq HFIN d0 d1 d2 d3 d4 d5 d6 e0 e1 e2 e3 e4 e5 e6 hfz
      generalize (((((((wr.setCell _ _).setCell _ _).setCell _ _).setCell _ _).setCell _ _).setCell _ _).setCell _ _) = wa at *
      generalize (((((((wa.setCell _ _).setCell _ _).setCell _ _).setCell _ _).setCell _ _).setCell _ _).setCell _ _) = wb at *
      go_wp2
      go_roundg (jn - 1 - (i + 1))
      case measure => omega
      case rel => exact ⟨i + 1, jn - 1, (jn : Int) - 1, swp dk i jn, _, by simp, rfl, fun h => ⟨by omega, by omega⟩, fun h => by omega, Nat.le_refl _, HD2.out, HB.out, HSW.out, HS2.out, HF2.out, HA.out.drew, HEQ.out⟩
    · have hnot := h2 hlt
      have hfin : dk = d.reverse := by
        rw [reverseLoop, if_neg hnot] at heq
        rw [← Lib.reverseLoop_reverse, ← heq]
      subst hfin
      have HR := Go.Lib.hid (show RevDone g o cs d w (.returned (.tuple #[])) wr from ⟨rfl, ck, hb, hcs, ha, hfar, hal⟩)
      clear hb ha hcs hfar hal heq hds h1 h2
      go_wp2
      go_end0
      exact HR.out
end Go.Proofs.YtnpcakakjhiboaaDoor

namespace Go.Proofs.YtnpcakakjhiboaaDoor
open Go.RowKit Go.Lo Go.WideShapes

theorem step_append_reads {P : Program} (w : World) {ops : Array Oper} {o : Oper} {a : Act} {K : Act → World → Prop} {Q : Exit → Act → World → Prop} {E : Prop} (hgd : o.guard = none) (s x : Operand) (t : TypeId)
    (ho : o.op = .call { callee := .builtin .append, args := #[s, x], argTypes := #[t, t] })
    (base : Nat) (e : TypeId) (i : TypeInfo) (z : Value) (size bytes : Nat) (ht : P.underlying t = some (.slice e)) (hi : P.info? e = some i) (hz : i.zero = some z)
    (hsize : i.size = size) (hby : i.bytes = bytes) (hzs : z.cells.size = size) (hsz : 0 < size)
    (v : Value) (n : Nat) (xs : List Value) (hs : a.eval s = v) (hown : w.ownsRow base e size v n xs)
    (A : Option Addr) (m c : Nat) (news : List Value) (hx : a.eval x = .slice A m c) (hr : Reads w A size m news) (h1 : ∀ u ∈ news, u.oneCell' = true)
    (h63 : n + m ≤ maxLen) (hbytes : (n + m) * bytes ≤ 140737488355328) (hbase : base ≤ w.heap.size)
    (h : ∀ v' w', w'.ownsRow base e size v' (n + m) (xs ++ news) → w.grownBy w' v.ownBlock → (v'.ownBlock = v.ownBlock ∨ v'.ownBlock = some w.heap.size) → K (a.put o.dst v') w') :
    if Region.wanted o (yielded ops a.tmps) = true then Oper.wp P o a w K Q else E := by
  have hw : Region.wanted o (yielded ops a.tmps) = true := by simp [Region.wanted, hgd]
  rw [if_pos hw]
  obtain ⟨v', w', hrun, h2, h3, h4⟩ := run_append_reads (P := P) w base t o.type e i z size bytes ht hi hz hsize hby hzs hsz v n xs hown A m c news hr h1 h63 hbytes hbase
  unfold Oper.wp execOp
  simp only [ho, resolve, invoke, builtin, Sem.run_bind, Sem.run_pure, Result.andThen_ok, List.map_toArray, List.map_cons, List.map_nil, hs, hx, hrun]
  exact h v' w' h2 h3 h4

theorem info28 : (Tryd.prog.info? 28).map (fun i => (i.zero, i.size, i.bytes)) = some (some (.agg #[.int .i64 0, .string ⟨#[]⟩, .int .i64 0, .int .i64 0, .int .i64 0, .int .i64 0, .slice none 0 0]), 7, 80) := by kernel_rfl

/-- A block that reads as formulas is a row of a call's own. -/
theorem own_of_reads {W : World} {base g n cap : Nat} {cs : Array Value} {T : List Ft} (hb : Blk W g cs 28) (hg : base ≤ g) (hn : T.length = n) (hc : n ≤ cap) (hm : cap ≤ maxLen) (hs : cs.size = cap * 7) (hr : ∀ (k : Nat) (t : Ft), T[k]? = some t → ∀ (j : Nat) (u : Value), (Ft.cells t)[j]? = some u → cs[k * 7 + j]? = some u) :
    W.ownsRow base 28 7 (.slice (some ⟨g, 0, none⟩) n cap) n (T.flatMap Ft.cells) := by
  subst hn
  refine ⟨flat_length T, .inr ⟨g, cap, cs, rfl, hg, hb, hc, hm, hs, ?_⟩⟩
  apply List.ext_getElem?
  intro p
  by_cases hp : p < T.length * 7
  · rw [List.getElem?_take, if_pos hp]
    have hk : p / 7 < T.length := by omega
    have hj : p % 7 < 7 := Nat.mod_lt _ (by omega)
    have e : p = p / 7 * 7 + p % 7 := by omega
    have hu : (Ft.cells T[p / 7])[p % 7]? = some ((Ft.cells T[p / 7])[p % 7]'(by rw [cells_length]; exact hj)) := List.getElem?_eq_getElem _
    have h1 := hr (p / 7) T[p / 7] (List.getElem?_eq_getElem hk) _ _ hu
    have h2 := flat_at T (p / 7) T[p / 7] _ _ (List.getElem?_eq_getElem hk) hu
    rw [← e] at h1 h2
    rw [h2]
    simpa using h1
  · rw [List.getElem?_take, if_neg hp, List.getElem?_eq_none (by rw [flat_length]; omega)]

/-- What a row of a call's own is: a block. -/
theorem own_block {W : World} {base g n cap : Nat} {T : List Ft} (h : W.ownsRow base 28 7 (.slice (some ⟨g, 0, none⟩) n cap) n (T.flatMap Ft.cells)) :
    ∃ cs, Blk W g cs 28 ∧ base ≤ g ∧ n ≤ cap ∧ cap ≤ maxLen ∧ cs.size = cap * 7 ∧ ∀ (k : Nat) (t : Ft), T[k]? = some t → ∀ (j : Nat) (u : Value), (Ft.cells t)[j]? = some u → cs[k * 7 + j]? = some u := by
  have hl := h.1
  rcases h.2 with ⟨hv, _⟩ | ⟨g', c, cur, hv, h0, hg, h1, h2, h3, h4⟩
  · cases hv
  · obtain ⟨rfl, rfl⟩ : g = g' ∧ cap = c := by simpa using hv
    refine ⟨cur, hg, h0, h1, h2, h3, fun k t hk j u hu => ?_⟩
    have := flat_at T k t j u hk hu
    rw [← h4, List.getElem?_take] at this
    split at this
    · simpa using this
    · cases this

/-- Where upward's loop stands. -/
structure UpAt (w : World) (lv sv : Value) (L S : List Ft) (W : World) : Prop where
  rl : W.ownsRow w.heap.size 28 7 lv L.length (L.flatMap Ft.cells)
  rs : W.ownsRow w.heap.size 28 7 sv S.length (S.flatMap Ft.cells)
  il : ∀ t, t ∈ L → In (fun k => k < w.heap.size) W t
  is : ∀ t, t ∈ S → In (fun k => k < w.heap.size) W t
  ne : ∀ k, lv.ownBlock = some k → sv.ownBlock ≠ some k
  quiet : Quiet w W

theorem UpAt.quiet' {w : World} {lv sv : Value} {L S : List Ft} {W W' : World} (h : UpAt w lv sv L S W) (hq : Quiet W W') : UpAt w lv sv L S W' :=
  ⟨row_keep h.rl hq (by simp), row_keep h.rs hq (by simp), fun t ht => (h.il t ht).quiet hq, fun t ht => (h.is t ht).quiet hq, h.ne, h.quiet.trans hq⟩

theorem UpAt.pop {w : World} {lv : Value} {g n cap : Nat} {L S : List Ft} {x : Ft} {W : World} (h : UpAt w lv (.slice (some ⟨g, 0, none⟩) n cap) L (S ++ [x]) W) (hn : n = S.length + 1) : UpAt w lv (.slice (some ⟨g, 0, none⟩) S.length cap) L S W := by
  subst hn
  have h1 := h.rs
  rw [List.length_append, List.length_singleton] at h1
  have := row_cut (m := S.length) h1 (by omega)
  rw [List.flatMap_append, List.take_left' (flat_length S)] at this
  exact ⟨h.rl, this, h.il, fun t ht => h.is t (by simp [ht]), h.ne, h.quiet⟩

/-- A node is put behind the list. -/
theorem UpAt.list {w : World} {lv sv v2 : Value} {L S : List Ft} {x : Ft} {W W2 : World} {o : Obj} (h : UpAt w lv sv L S W) (hx : In (fun k => k < w.heap.size) W x) (hown : W2.ownsRow w.heap.size 28 7 v2 (L.length + 1) (L.flatMap Ft.cells ++ Ft.cells x)) (hgrow : (W.alloc o).grownBy W2 lv.ownBlock)
    (hat : v2.ownBlock = lv.ownBlock ∨ v2.ownBlock = some (W.alloc o).heap.size) : UpAt w v2 sv (L ++ [x]) S W2 := by
  have hA : Alters (fun k => lv.ownBlock = some k) W W2 := ((Alters.refl W).alloc o).grown hgrow (fun k e _ => e)
  have hlo : ∀ k, k < w.heap.size → ¬ lv.ownBlock = some k := fun k hk e => by have := (h.rl.lt k e).1; omega
  refine ⟨by simpa using hown, row_keep h.rs hA (fun k e e2 => h.ne k e2 e), fun t ht => ?_, fun t ht => (h.is t ht).keep hA (fun k hk _ => hlo k hk), fun k e e2 => ?_, h.quiet.then hA (fun i hi hp => absurd hp (hlo i hi))⟩
  · rcases List.mem_append.1 ht with ht | ht
    · exact (h.il t ht).keep hA (fun k hk _ => hlo k hk)
    · obtain rfl : t = x := by simpa using ht
      exact hx.keep hA (fun k hk _ => hlo k hk)
  · rcases hat with h2 | h2
    · exact h.ne k (h2 ▸ e) e2
    · rw [h2] at e
      have := (h.rs.lt k e2).2
      simp at e
      omega

/-- The kids are put behind what is left. -/
theorem UpAt.kids {w : World} {lv sv v2 : Value} {L S ks : List Ft} {W W2 : World} (h : UpAt w lv sv L S W) (hk : ∀ t, t ∈ ks → In (fun k => k < w.heap.size) W t) (hown : W2.ownsRow w.heap.size 28 7 v2 (S.length + ks.length) (S.flatMap Ft.cells ++ ks.flatMap Ft.cells)) (hgrow : W.grownBy W2 sv.ownBlock)
    (hat : v2.ownBlock = sv.ownBlock ∨ v2.ownBlock = some W.heap.size) : UpAt w lv v2 L (S ++ ks) W2 := by
  have hA : Alters (fun k => sv.ownBlock = some k) W W2 := (Alters.refl W).grown hgrow (fun k e _ => e)
  have hlo : ∀ k, k < w.heap.size → ¬ sv.ownBlock = some k := fun k hk e => by have := (h.rs.lt k e).1; omega
  refine ⟨row_keep h.rl hA (fun k e e2 => h.ne k e e2), by simpa using hown, fun t ht => (h.il t ht).keep hA (fun k hk _ => hlo k hk), fun t ht => ?_, fun k e e2 => ?_, h.quiet.then hA (fun i hi hp => absurd hp (hlo i hi))⟩
  · rcases List.mem_append.1 ht with ht | ht
    · exact (h.is t ht).keep hA (fun k hk _ => hlo k hk)
    · exact (hk t ht).keep hA (fun k hk _ => hlo k hk)
  · rcases hat with h2 | h2
    · exact h.ne k e (h2 ▸ e2)
    · rw [h2] at e2
      have := (h.rl.lt k e).2
      simp at e2
      omega

/-- What is left is turned from S on. -/
theorem UpAt.turn {w : World} {lv : Value} {g n cap : Nat} {L S ks : List Ft} {W W2 : World} {e : Ending} {cs : Array Value} (h : UpAt w lv (.slice (some ⟨g, 0, none⟩) n cap) L (S ++ ks) W) (hn : n = (S ++ ks).length) (hb : Blk W g cs 28) (hr : RevDone g (S.length * 7) cs ks.toArray W e W2) :
    e = .returned (.tuple #[]) ∧ UpAt w lv (.slice (some ⟨g, 0, none⟩) n cap) L (S ++ ks.reverse) W2 := by
  subst hn
  obtain ⟨rfl, cs', hb', hs', hrd, hfar, hA⟩ := hr
  obtain ⟨cur, hb2, hg, hnc, hcm, hcs, hrr⟩ := own_block h.rs
  obtain rfl : cs = cur := by
    unfold Blk at hb hb2
    rw [hb] at hb2
    cases hb2
    rfl
  have hlo : ∀ k, k < w.heap.size → ¬ k = g := fun k hk e => by omega
  refine ⟨rfl, row_keep h.rl hA (fun k e e2 => h.ne k e (by rw [e2]; rfl)), ?_, fun t ht => (h.il t ht).keep hA (fun k hk _ => hlo k hk), fun t ht => ?_, h.ne, h.quiet.then hA (fun i hi hp => absurd hp (hlo i hi))⟩
  · have e : (S ++ ks).length = (S ++ ks.reverse).length := by simp
    rw [e]
    refine own_of_reads hb' hg rfl (by rw [← e]; exact hnc) hcm (by rw [hs', hcs]) (fun k t hk j u hu => ?_)
    have hj : j < 7 := by
      rcases Nat.lt_or_ge j 7 with h | h
      · exact h
      · rw [List.getElem?_eq_none (by rw [cells_length]; exact h)] at hu; cases hu
    by_cases hkS : k < S.length
    · rw [List.getElem?_append_left hkS] at hk
      rw [hfar _ (.inl (by omega))]
      exact hrr k t (by rw [List.getElem?_append_left hkS]; exact hk) j u hu
    · rw [List.getElem?_append_right (by omega)] at hk
      have := hrd (k - S.length) t (by simpa using hk) j u hu
      rw [show S.length * 7 + (k - S.length) * 7 + j = k * 7 + j by omega] at this
      exact this
  · have : t ∈ S ++ ks := by simpa using ht
    exact (h.is t this).keep hA (fun k hk _ => hlo k hk)

theorem flat_get (T : List Ft) (p : Nat) (u : Value) (h : (T.flatMap Ft.cells)[p]? = some u) : ∃ t, T[p / 7]? = some t ∧ (Ft.cells t)[p % 7]? = some u := by
  have hp : p < T.length * 7 := by
    rcases Nat.lt_or_ge p (T.length * 7) with h2 | h2
    · exact h2
    · rw [List.getElem?_eq_none (by rw [flat_length]; exact h2)] at h; cases h
  have hk : p / 7 < T.length := by omega
  have hj : p % 7 < 7 := Nat.mod_lt _ (by omega)
  have hu : (Ft.cells T[p / 7])[p % 7]? = some ((Ft.cells T[p / 7])[p % 7]'(by rw [cells_length]; exact hj)) := List.getElem?_eq_getElem _
  have h2 := flat_at T (p / 7) T[p / 7] _ _ (List.getElem?_eq_getElem hk) hu
  rw [show p / 7 * 7 + p % 7 = p by omega, h] at h2
  exact ⟨_, List.getElem?_eq_getElem hk, by rw [hu, h2]⟩

theorem fs_reads {D : Nat → Prop} {w : World} {a : Option Addr} {ks : List Ft} (h : FsAt D w a ks) : Reads w a 7 ks.length (ks.flatMap Ft.cells) :=
  ⟨flat_length ks, fun hn => by
    obtain ⟨b, o, e, -, hc⟩ := h (fun h => by rw [h] at hn; simp at hn)
    refine ⟨_, e, fun p u hu => ?_⟩
    obtain ⟨t, ht, hj⟩ := flat_get ks p u hu
    have := hc _ t ht _ u hj
    rw [add_plain, show o + p = o + p / 7 * 7 + p % 7 by omega]
    exact this⟩

theorem revdone_nil {g o o2 : Nat} {cs : Array Value} {w w' : World} {e : Ending} (h : RevDone g o cs #[] w e w') : RevDone g o2 cs #[] w e w' := by
  obtain ⟨h1, cs', h2, h3, h4, h5, h6⟩ := h
  exact ⟨h1, cs', h2, h3, fun k t hk => by simp at hk, fun p _ => h5 p (by simp; omega), h6⟩

/-- What upward gives. -/
def UpDone (t : Ft) (w : World) (e : Ending) (w' : World) : Prop :=
  ∃ v, e = .returned v ∧ w'.ownsRow w.heap.size 28 7 v t.pre.length (t.pre.reverse.flatMap Ft.cells) ∧ (∀ x, x ∈ t.pre → In (fun k => k < w.heap.size) w' x) ∧ Quiet w w'

set_option maxRecDepth 100000 in
set_option maxHeartbeats 4000000 in
theorem upward_walk (t : Ft) (w : World) (hin : In (fun k => k < w.heap.size) w t) (hsz : t.size ≤ 100000) : Calls Tryd.prog 74 #[t.val] w (UpDone t w) := by
  have HI := Go.Lib.hid hin
  have HSZ := Go.Lib.hid hsz
  clear hin hsz
  unfold Ft.val
  go_enter Tryd.func74, Tryd.ntmps74
  go_wp2
  have hq : Quiet w ((w.alloc (.cells #[.int .i64 t.top.n.op, .string t.top.n.nm, .int .i64 t.top.n.cmp, .int .i64 t.top.n.val, .int .i64 t.top.n.lo, .int .i64 t.top.n.hi, .slice t.top.a t.kids.length t.top.cap] 28)).alloc (.cells #[.int .i64 t.top.n.op, .string t.top.n.nm, .int .i64 t.top.n.cmp, .int .i64 t.top.n.val, .int .i64 t.top.n.lo, .int .i64 t.top.n.hi, .slice t.top.a t.kids.length t.top.cap] 28)) := ((Alters.refl _).alloc _).alloc _
  have hrow := World.ownsRow_lit (base := w.heap.size) (size := 7) (e := 28) (w.alloc (.cells #[.int .i64 t.top.n.op, .string t.top.n.nm, .int .i64 t.top.n.cmp, .int .i64 t.top.n.val, .int .i64 t.top.n.lo, .int .i64 t.top.n.hi, .slice t.top.a t.kids.length t.top.cap] 28)) #[.int .i64 t.top.n.op, .string t.top.n.nm, .int .i64 t.top.n.cmp, .int .i64 t.top.n.val, .int .i64 t.top.n.lo, .int .i64 t.top.n.hi, .slice t.top.a t.kids.length t.top.cap] 1 (by simp) (by simp [maxLen]) rfl
  simp only [World.size_alloc] at hrow
  generalize (w.alloc _).alloc _ = w1 at *
  have hU : UpAt w (.slice none 0 0) (.slice (some ⟨w.heap.size + 1, 0, none⟩) 1 1) [] [t] w1 :=
    ⟨World.ownsRow_nil _ _ _ _, by simpa [Ft.cells] using hrow, by simp, fun x hx => by
      obtain rfl : x = t := by simpa using hx
      exact HI.out.quiet hq, by simp [Value.ownBlock], hq⟩
  have HU := Go.Lib.hid hU
  clear hq hrow hU HI
  go_loopg [3, 4] t.size (fun k lv sv wr => ∃ (L S : List Ft), Tr.sizeL S.reverse ≤ k ∧ k ≤ t.size ∧ L ++ Tr.preL S.reverse = t.pre ∧ UpAt w lv sv L S wr)
  case atStart => exact ⟨[], [t], by simp [Tr.sizeL], Nat.le_refl _, by simp [Tr.preL], HU.out⟩
  case round =>
    clear HU
    obtain ⟨L, S, hk, hkt, hLS, hU⟩ := hrel
    generalize u3 = lv2 at *
    generalize u4 = sv2 at *
    have HLS := Go.Lib.hid hLS
    clear hLS
    rcases List.eq_nil_or_concat S with rfl | ⟨S0, x, rfl⟩
    · have hL : L = t.pre := by have := HLS.out; simpa [Tr.preL] using this
      have hlen : L.length = t.size := by rw [hL, Tr.pre_length]
      have hL1 : L.length ≠ 0 := by rw [hlen]; cases t; simp only [Tr.size]; omega
      obtain ⟨m, hm⟩ : ∃ m, L.length = m + 1 := ⟨L.length - 1, by omega⟩
      have h1 := hU.rl
      rw [hm] at h1
      obtain ⟨g, cap, rfl⟩ := ownsRow_succ h1
      rw [← hm] at h1
      obtain ⟨cs, hb, hg, hnc, hcm, hcs, hrr⟩ := own_block h1
      have HC : Hid (Calls Tryd.prog 104 #[.slice (some ⟨g, 0, none⟩) (m + 1) cap] wr (RevDone g 0 cs L.toArray wr)) := by
        have := reverse_walk g 0 cap cs L.toArray wr hb (fun k t hk j u hu => by rw [Nat.zero_add]; exact hrr k t (by simpa using hk) j u hu) (by simp; omega) (by have := HSZ.out; simp; omega)
        simp only [List.size_toArray, hm] at this
        exact this
      have HH : Hid (∀ e w', RevDone g 0 cs L.toArray wr e w' → UpDone t w (.returned (.slice (some ⟨g, 0, none⟩) (m + 1) cap)) w') := by
        rintro e w' ⟨-, cs', hb', hs', hrd, -, hA⟩
        have hlo : ∀ k, k < w.heap.size → ¬ k = g := fun k hk e => by omega
        refine ⟨_, rfl, ?_, fun y hy => (hU.il y (by rw [hL]; exact hy)).keep hA (fun k hk _ => hlo k hk), hU.quiet.then hA (fun i hi hp => absurd hp (hlo i hi))⟩
        rw [← hm, ← hL]
        exact own_of_reads hb' hg (by simp) hnc hcm (by rw [hs', hcs]) (fun k t hk j u hu => by
          have := hrd k t (by simpa using hk) j u hu
          rw [Nat.zero_add] at this
          exact this)
      have hS : (∃ g2 c2, sv2 = .slice (some ⟨g2, 0, none⟩) 0 c2) ∨ sv2 = .slice none 0 0 := by
        rcases hU.rs.2 with ⟨h, -⟩ | ⟨g2, c2, _, h, -⟩
        · exact .inr h
        · exact .inl ⟨g2, c2, h⟩
      clear hb hrr hcs hnc hcm hU h1 hL hlen hL1 hm
      rcases hS with ⟨g2, c2, rfl⟩ | rfl
      all_goals
        go_wp2_with fail
        refine HC.out.mono ?_
        intro e w5 hd
        have hdone := HH.out _ _ hd
        obtain ⟨rfl, -⟩ := hd
        have HDN := Go.Lib.hid hdone
        clear hdone
        go_wp2
        go_ret
        exact HDN.out
    · rw [List.concat_eq_append] at *
      have h1 := hU.rs
      rw [List.length_append, List.length_singleton] at h1
      obtain ⟨g, cap, rfl⟩ := ownsRow_succ h1
      obtain ⟨cs, hb, hg, hnc, hcm, hcs, hrr⟩ := own_block h1
      have hsev : AtP wr g (S0.length * 7) x := fun j u hu => hb.cell _ (hrr S0.length x (by simp) j u hu)
      obtain ⟨d0, d1, d2, d3, d4, d5, d6⟩ := hsev.seven
      have hsl : S0.length ≤ 100000 := by
        have h2 := Tr.kids_le (S0 ++ [x]).reverse
        have := HSZ.out
        simp only [List.length_reverse, List.length_append, List.length_singleton] at h2
        omega
      have hll : L.length ≤ 100000 := by
        have h2 := congrArg List.length HLS.out
        rw [Tr.pre_length, List.length_append] at h2
        have := HSZ.out
        omega
      have hxin := hU.is x (by simp)
      have hpop := hU.pop rfl
      have HU := Go.Lib.hid hpop
      have HX := Go.Lib.hid hxin
      have hgl := (h1.lt g rfl).2
      clear hU hpop hxin hb hrr hsev h1
      obtain ⟨i0, hi0, hz0, hz1, hz2⟩ := info_parts info28
      have hx7 : x.kids.length ≤ 100000 := by
        have h3 : x.size = 1 + Tr.sizeL x.kids := by cases x; rfl
        have h4 := Tr.kids_le x.kids
        have h5 := Tr.size_kid (k := x) (ks := (S0 ++ [x]).reverse) (by simp)
        have := HSZ.out
        omega
      have HR2 : Hid (Reads ((wr.alloc (.cells #[.int .i64 x.top.n.op, .string x.top.n.nm, .int .i64 x.top.n.cmp, .int .i64 x.top.n.val, .int .i64 x.top.n.lo, .int .i64 x.top.n.hi, .slice x.top.a x.kids.length x.top.cap] 28)).alloc (.cells #[.int .i64 x.top.n.op, .string x.top.n.nm, .int .i64 x.top.n.cmp, .int .i64 x.top.n.val, .int .i64 x.top.n.lo, .int .i64 x.top.n.hi, .slice x.top.a x.kids.length x.top.cap] 28)) (some ⟨wr.heap.size + 1, 0, none⟩) 7 1 (Ft.cells x)) := ⟨rfl, fun _ => ⟨_, rfl, by
        have := World.news_of_block (Blk.new (wr.alloc (.cells #[.int .i64 x.top.n.op, .string x.top.n.nm, .int .i64 x.top.n.cmp, .int .i64 x.top.n.val, .int .i64 x.top.n.lo, .int .i64 x.top.n.hi, .slice x.top.a x.kids.length x.top.cap] 28)) #[.int .i64 x.top.n.op, .string x.top.n.nm, .int .i64 x.top.n.cmp, .int .i64 x.top.n.val, .int .i64 x.top.n.lo, .int .i64 x.top.n.hi, .slice x.top.a x.kids.length x.top.cap] 28)
        rw [World.size_alloc] at this
        exact this⟩⟩
      have HOL : Hid (((wr.alloc (.cells #[.int .i64 x.top.n.op, .string x.top.n.nm, .int .i64 x.top.n.cmp, .int .i64 x.top.n.val, .int .i64 x.top.n.lo, .int .i64 x.top.n.hi, .slice x.top.a x.kids.length x.top.cap] 28)).alloc (.cells #[.int .i64 x.top.n.op, .string x.top.n.nm, .int .i64 x.top.n.cmp, .int .i64 x.top.n.val, .int .i64 x.top.n.lo, .int .i64 x.top.n.hi, .slice x.top.a x.kids.length x.top.cap] 28)).ownsRow w.heap.size 28 7 lv2 L.length (L.flatMap Ft.cells)) := (HU.out.rl.alloc _).alloc _
      have HBG : Hid (w.heap.size ≤ ((wr.alloc (.cells #[.int .i64 x.top.n.op, .string x.top.n.nm, .int .i64 x.top.n.cmp, .int .i64 x.top.n.val, .int .i64 x.top.n.lo, .int .i64 x.top.n.hi, .slice x.top.a x.kids.length x.top.cap] 28)).alloc (.cells #[.int .i64 x.top.n.op, .string x.top.n.nm, .int .i64 x.top.n.cmp, .int .i64 x.top.n.val, .int .i64 x.top.n.lo, .int .i64 x.top.n.hi, .slice x.top.a x.kids.length x.top.cap] 28)).heap.size) := ((HU.out.quiet.alloc _).alloc _).size
      go_wp2_with (at_builtin; refine wpList_append_reads _ rfl (.tmp 19) (.tmp 21) 26 rfl w.heap.size 28 i0 _ 7 80 Tryd.underlying26 hi0 hz0 hz1 hz2 rfl (by decide) lv2 L.length (L.flatMap Ft.cells) (by simp [Act.eval]) HOL.out (some ⟨wr.heap.size + 1, 0, none⟩) 1 1 (Ft.cells x) (by simp [Act.eval]) HR2.out (cells_one x) (by unfold maxLen; omega) (by omega) HBG.out ?_)
      intro lv3 w3 hown hgrow hat
      have hqa : Quiet wr (wr.alloc (.cells #[.int .i64 x.top.n.op, .string x.top.n.nm, .int .i64 x.top.n.cmp, .int .i64 x.top.n.val, .int .i64 x.top.n.lo, .int .i64 x.top.n.hi, .slice x.top.a x.kids.length x.top.cap] 28)) := (Alters.refl _).alloc _
      have hU3 := (HU.out.quiet' hqa).list (HX.out.quiet hqa) hown hgrow (hat.imp_right (fun h => by rw [h]; simp))
      have hA3 : Alters (fun k => lv2.ownBlock = some k) (wr.alloc (.cells #[.int .i64 x.top.n.op, .string x.top.n.nm, .int .i64 x.top.n.cmp, .int .i64 x.top.n.val, .int .i64 x.top.n.lo, .int .i64 x.top.n.hi, .slice x.top.a x.kids.length x.top.cap] 28)) w3 := ((Alters.refl _).alloc _).grown hgrow (fun k e _ => e)
      have hb3 := hA3.blk (Blk.new wr #[.int .i64 x.top.n.op, .string x.top.n.nm, .int .i64 x.top.n.cmp, .int .i64 x.top.n.val, .int .i64 x.top.n.lo, .int .i64 x.top.n.hi, .slice x.top.a x.kids.length x.top.cap] 28) (fun e => by have := (HU.out.rl.lt _ e).2; omega)
      have c6 := hb3.cell 6 rfl
      have hlo : ∀ k, k < w.heap.size → ¬ lv2.ownBlock = some k := fun k hk e => by have := (HU.out.rl.lt k e).1; omega
      have hX3 := ((HX.out.quiet hqa).keep hA3 (fun k hk _ => hlo k hk)).quiet ((Alters.refl w3).drew)
      have hU3d := hU3.quiet' ((Alters.refl w3).drew)
      have HU3 := Go.Lib.hid hU3d
      have HX3 := Go.Lib.hid hX3
      have HRS := Go.Lib.hid hU3d.rs
      have HRD := Go.Lib.hid (fs_reads hX3.fs)
      have HBG3 := Go.Lib.hid (show w.heap.size ≤ w3.drew.heap.size from hU3d.quiet.size)
      have hcap3 : S0.length ≤ cap := by omega
      clear hqa hU3 hA3 hb3 hlo hX3 hU3d hown hgrow hat d0 d1 d2 d3 d4 d5 d6 HR2 HOL HBG HU HX
      go_wp2_with fail
      go_region_law ((refine step_append_reads w3.drew rfl (.tmp 25) (.tmp 27) 26 rfl w.heap.size 28 i0 _ 7 80 Tryd.underlying26 hi0 hz0 hz1 hz2 rfl (by decide) (.slice (some ⟨g, 0, none⟩) S0.length cap) S0.length (S0.flatMap Ft.cells) (by simp [Act.eval]) HRS.out x.top.a x.kids.length x.top.cap (x.kids.flatMap Ft.cells) (by simp [Act.eval]) HRD.out (fun u hu => by obtain ⟨y, hy, hu⟩ := List.mem_flatMap.1 hu; exact cells_one y u hu) (by unfold maxLen; omega) (by omega) HBG3.out ?_; intro sv3 w4 hown4 hgrow4 hat4))
      have hU4 := HU3.out.kids (fun y hy => HX3.out.kid hy) hown4 hgrow4 hat4
      have h4 := hU4.rs
      rw [List.length_append] at h4
      obtain ⟨g4, cap4, rfl⟩ : ∃ g4 cap4, sv3 = .slice (some ⟨g4, 0, none⟩) (S0.length + x.kids.length) cap4 := by
        rcases h4.2 with ⟨hv, -⟩ | ⟨g4, cap4, _, hv, -⟩
        · rw [hv] at hat4
          rcases hat4 with h | h <;> simp [Value.ownBlock] at h
        · exact ⟨g4, cap4, hv⟩
      obtain ⟨cs4, hb4, hg4, hnc4, hcm4, hcs4, hrr4⟩ := own_block h4
      have hfin : (L ++ [x]) ++ Tr.preL (S0 ++ x.kids.reverse).reverse = t.pre := by
        rw [← HLS.out]
        have e : x.pre = x :: Tr.preL x.kids := by cases x; rfl
        simp [Tr.preL_eq, e]
      have hms : Tr.sizeL (S0 ++ x.kids.reverse).reverse < gk := by
        have e : x.size = 1 + Tr.sizeL x.kids := by cases x; rfl
        simp only [Tr.sizeL_eq, List.reverse_append, List.reverse_reverse, List.map_append, List.sum_append, List.reverse_cons, List.reverse_nil, List.nil_append, List.map_cons, List.map_nil, List.sum_cons, List.sum_nil] at hk e ⊢
        omega
      have HFIN := Go.Lib.hid hfin
      have HU4 := Go.Lib.hid hU4
      have HB4 := Go.Lib.hid hb4
      have HC4 : Hid (cs4.size = cap4 * 7) := hcs4
      have HRR := Go.Lib.hid (show ReadsF cs4 (S0.length * 7) x.kids.toArray from fun k y hy j u hu => by
        have := hrr4 (S0.length + k) y (by rw [List.getElem?_append_right (by omega)]; simpa using hy) j u hu
        rw [show (S0.length + k) * 7 + j = S0.length * 7 + k * 7 + j by omega] at this
        exact this)
      clear hU4 h4 hb4 hcs4 hrr4 hfin hown4 hgrow4 hat4 HU3 HX3 HRS HRD HBG3 c6 hi0 hz0 hz1 hz2
      have HTU : Hid (∀ e w5, RevDone g4 (S0.length * 7) cs4 x.kids.toArray w4 e w5 → e = .returned (.tuple #[]) ∧ UpAt w lv3 (.slice (some ⟨g4, 0, none⟩) (S0.length + x.kids.length) cap4) (L ++ [x]) (S0 ++ x.kids.reverse) w5) := fun e w5 hd => HU4.out.turn (by simp) HB4.out hd
      by_cases hc4 : cap4 = S0.length
      · have hx0 : x.kids = [] := List.eq_nil_of_length_eq_zero (by omega)
        have HC : Hid (Calls Tryd.prog 104 #[.slice (some ⟨g4, 0, none⟩) 0 0] w4 (RevDone g4 (S0.length * 7) cs4 x.kids.toArray w4)) := by
          rw [hx0]
          exact (reverse_walk g4 0 0 cs4 #[] w4 HB4.out (fun k t hk => by simp at hk) (by simp) (by simp)).mono fun _ _ h => revdone_nil h
        subst hc4
        clear hx0
        go_wp2_with fail
        refine HC.out.mono ?_
        intro e w5 hd
        obtain ⟨rfl, hU5⟩ := HTU.out e w5 hd
        have HU5 := Go.Lib.hid hU5
        clear hU5 hd
        go_wp2
        go_roundg (Tr.sizeL (S0 ++ x.kids.reverse).reverse)
        case measure => exact hms
        case rel => exact ⟨L ++ [x], S0 ++ x.kids.reverse, Nat.le_refl _, by omega, HFIN.out, HU5.out⟩
      · have HC : Hid (Calls Tryd.prog 104 #[.slice (some ⟨g4, S0.length * 7, none⟩) x.kids.length (cap4 - S0.length)] w4 (RevDone g4 (S0.length * 7) cs4 x.kids.toArray w4)) := by
          have := reverse_walk g4 (S0.length * 7) (cap4 - S0.length) cs4 x.kids.toArray w4 HB4.out HRR.out (by have := HC4.out; simp; omega) (by simp; omega)
          simp only [List.size_toArray] at this
          exact this
        go_wp2_with fail
        refine HC.out.mono ?_
        intro e w5 hd
        obtain ⟨rfl, hU5⟩ := HTU.out e w5 hd
        have HU5 := Go.Lib.hid hU5
        clear hU5 hd
        go_wp2
        go_roundg (Tr.sizeL (S0 ++ x.kids.reverse).reverse)
        case measure => exact hms
        case rel => exact ⟨L ++ [x], S0 ++ x.kids.reverse, Nat.le_refl _, by omega, HFIN.out, HU5.out⟩
end Go.Proofs.YtnpcakakjhiboaaDoor

namespace Go.Proofs.YtnpcakakjhiboaaDoor
open Go.RowKit Go.Lo Go.WideShapes

theorem run_zero28 (w : World) : (zeroValue 28).run Tryd.prog w = .ok (.agg #[.int .i64 0, .string ⟨#[]⟩, .int .i64 0, .int .i64 0, .int .i64 0, .int .i64 0, .slice none 0 0]) w := by
  obtain ⟨i, hi, hz, -, -⟩ := info_parts info28
  simp [zeroValue, typeInfo, hi, hz]

/-- What clear leaves of a row: its first l. -/
theorem run_clear_row {w : World} {base g l m cap c : Nat} {A : Option Addr} {T : List Ft} {ty : TypeId} (h : w.ownsRow base 28 7 (.slice (some ⟨g, 0, none⟩) (l + m) cap) (l + m) (T.flatMap Ft.cells)) (hm : m ≤ 2) (hA : m ≠ 0 → A = some ⟨g, l * 7, none⟩) :
    ∃ w', (Builtin.clear_ #[26] ty #[.slice A m c]).run Tryd.prog w = .ok (.tuple #[]) w' ∧ w'.ownsRow base 28 7 (.slice (some ⟨g, 0, none⟩) l cap) l ((T.flatMap Ft.cells).take (l * 7)) ∧ w.grownBy w' (some g) := by
  have hcut := row_cut (m := l) h (by omega)
  by_cases h0 : m = 0
  · subst h0
    refine ⟨w, ?_, hcut, ⟨rfl, rfl, rfl, Nat.le_refl _, fun _ _ _ => rfl⟩⟩
    cases A <;> simp [Builtin.clear_, run_underlying Tryd.underlying26]
  · obtain rfl := hA h0
    rcases h.2 with ⟨hv, _⟩ | ⟨g', c', cur, hv, hb, hg, hnc, hcm, hcs, htake⟩
    · cases hv
    · obtain ⟨rfl, rfl⟩ : g = g' ∧ cap = c' := by simpa using hv
      obtain ⟨zs, hzs, hzl, hz1⟩ : ∃ zs : List Value, (Builtin.zeroCells (Value.agg #[.int .i64 0, .string ⟨#[]⟩, .int .i64 0, .int .i64 0, .int .i64 0, .int .i64 0, .slice none 0 0]).cells m).toList = zs ∧ zs.length = m * 7 ∧ ∀ v ∈ zs, v.oneCell' = true := by
        have hm2 : m = 1 ∨ m = 2 := by omega
        rcases hm2 with rfl | rfl
        · exact ⟨_, rfl, by kernel_rfl, List.all_eq_true.1 (by kernel_rfl)⟩
        · exact ⟨_, rfl, by kernel_rfl, List.all_eq_true.1 (by kernel_rfl)⟩
      have hst := run_storeCells_at (P := Tryd.prog) g (l * 7) 28 zs 0 cur w hg (by rw [hzl, hcs, Nat.add_zero, ← Nat.add_mul]; exact Nat.mul_le_mul_right _ hnc) hz1
      refine ⟨w.setRow g (cur.toList.take (l * 7 + 0) ++ zs ++ cur.toList.drop (l * 7 + 0 + zs.length)).toArray, ?_, ?_, ?_⟩
      · obtain ⟨k, rfl⟩ : ∃ k, m = k + 1 := ⟨m - 1, by omega⟩
        simp [Builtin.clear_, run_underlying Tryd.underlying26, hzs, hst]
      · have hlen : (cur.toList.take (l * 7 + 0) ++ zs ++ cur.toList.drop (l * 7 + 0 + zs.length)).length = cur.size := by
          have : (l + m) * 7 ≤ cap * 7 := Nat.mul_le_mul_right _ hnc
          simp [hzl]
          omega
        refine ⟨hcut.1, .inr ⟨g, cap, _, rfl, hb, setRow_heap w g cur _ 28 (0, 0) hg, by omega, hcm, by simpa [hcs] using hlen, ?_⟩⟩
        have hl7 : l * 7 ≤ cur.size := by
          have : (l + m) * 7 ≤ cap * 7 := Nat.mul_le_mul_right _ hnc
          omega
        rw [List.toList_toArray, List.append_assoc, List.take_left' (by simp; omega), Nat.add_zero, ← htake, List.take_take]
        congr 1
        omega
      · exact ⟨rfl, rfl, rfl, by simp, fun k _ hk => setRow_other w g k _ (fun e => hk (by rw [e]))⟩
end Go.Proofs.YtnpcakakjhiboaaDoor
