/- slices.Reverse at formulas. No condition. -/
import Derived.Test.YtnpcakakjhiboaaDoorLeft
import Derived.Lib.SlicesMore
import Derived.RegionTactic
import Derived.BigRegion
import Derived.Sort.LotA
namespace Go.Proofs.YtnpcakakjhiboaaDoor
open Go.RowKit Go.Lo Go.WideShapes Go.Sort

instance : Inhabited Ft := ⟨.nd ⟨z0, none, 0⟩ []⟩

/-- A formula's seven cells are written. -/
def setF (W : World) (g off : Nat) (t : Ft) : World := ((((((W.setCell ⟨g, off, none⟩ (.int .i64 t.top.n.op)).setCell ⟨g, off + 1, none⟩ (.string t.top.n.nm)).setCell ⟨g, off + 2, none⟩ (.int .i64 t.top.n.cmp)).setCell ⟨g, off + 3, none⟩ (.int .i64 t.top.n.val)).setCell ⟨g, off + 4, none⟩ (.int .i64 t.top.n.lo)).setCell ⟨g, off + 5, none⟩ (.int .i64 t.top.n.hi)).setCell ⟨g, off + 6, none⟩ (.slice t.top.a t.kids.length t.top.cap)

def putF (cs : Array Value) (off : Nat) (t : Ft) : Array Value := ((((((cs.setIfInBounds off (.int .i64 t.top.n.op)).setIfInBounds (off + 1) (.string t.top.n.nm)).setIfInBounds (off + 2) (.int .i64 t.top.n.cmp)).setIfInBounds (off + 3) (.int .i64 t.top.n.val)).setIfInBounds (off + 4) (.int .i64 t.top.n.lo)).setIfInBounds (off + 5) (.int .i64 t.top.n.hi)).setIfInBounds (off + 6) (.slice t.top.a t.kids.length t.top.cap)

theorem setF_blk {W : World} {g off : Nat} {cs : Array Value} {ty : TypeId} (t : Ft) (h : Blk W g cs ty) : Blk (setF W g off t) g (putF cs off t) ty := ((((((h.set off _).set (off + 1) _).set (off + 2) _).set (off + 3) _).set (off + 4) _).set (off + 5) _).set (off + 6) _

theorem setF_alters {p : Nat → Prop} {W0 W : World} {g off : Nat} (t : Ft) (h : Alters p W0 W) (hg : p g) : Alters p W0 (setF W g off t) :=
  ((((((h.set (q := ⟨g, off, none⟩) (fun _ => hg) _).set (q := ⟨g, off + 1, none⟩) (fun _ => hg) _).set (q := ⟨g, off + 2, none⟩) (fun _ => hg) _).set (q := ⟨g, off + 3, none⟩) (fun _ => hg) _).set (q := ⟨g, off + 4, none⟩) (fun _ => hg) _).set (q := ⟨g, off + 5, none⟩) (fun _ => hg) _).set (q := ⟨g, off + 6, none⟩) (fun _ => hg) _

theorem putF_size (cs : Array Value) (off : Nat) (t : Ft) : (putF cs off t).size = cs.size := by simp [putF]

theorem putF_far (cs : Array Value) (off : Nat) (t : Ft) (p : Nat) (h : p < off ∨ off + 7 ≤ p) : (putF cs off t)[p]? = cs[p]? := by
  unfold putF
  rw [Array.getElem?_setIfInBounds_ne (by omega), Array.getElem?_setIfInBounds_ne (by omega), Array.getElem?_setIfInBounds_ne (by omega), Array.getElem?_setIfInBounds_ne (by omega), Array.getElem?_setIfInBounds_ne (by omega), Array.getElem?_setIfInBounds_ne (by omega), Array.getElem?_setIfInBounds_ne (by omega)]

theorem putF_at (cs : Array Value) (off : Nat) (t : Ft) (h : off + 7 ≤ cs.size) : ∀ (j : Nat) (u : Value), (Ft.cells t)[j]? = some u → (putF cs off t)[off + j]? = some u := by
  intro j u hu
  unfold putF
  have hj : j < 7 := by
    rcases Nat.lt_or_ge j 7 with h | h
    · exact h
    · rw [List.getElem?_eq_none (by rw [cells_length]; exact h)] at hu; cases hu
  rcases j with _ | _ | _ | _ | _ | _ | _ | j
  · simp [Ft.cells] at hu; subst hu; simp [Array.getElem?_setIfInBounds]; omega
  · simp [Ft.cells] at hu; subst hu; simp [Array.getElem?_setIfInBounds]; omega
  · simp [Ft.cells] at hu; subst hu; simp [Array.getElem?_setIfInBounds]; omega
  · simp [Ft.cells] at hu; subst hu; simp [Array.getElem?_setIfInBounds]; omega
  · simp [Ft.cells] at hu; subst hu; simp [Array.getElem?_setIfInBounds]; omega
  · simp [Ft.cells] at hu; subst hu; simp [Array.getElem?_setIfInBounds]; omega
  · simp [Ft.cells] at hu; subst hu; simp [Array.getElem?_setIfInBounds]; omega
  · omega

theorem blk_read {w : World} {b i : Nat} {xs : Array Value} {ty : TypeId} (h : Blk w b xs ty) : w.cell? ⟨b, i, none⟩ = xs[i]? := by
  unfold Blk at h; simp [World.cell?, h]

/-- What a block reads as: formulas from o on. -/
def ReadsF (cs : Array Value) (o : Nat) (d : Array Ft) : Prop := ∀ k t, d[k]? = some t → ∀ j u, (Ft.cells t)[j]? = some u → cs[o + k * 7 + j]? = some u

theorem ReadsF.at {w : World} {g o : Nat} {cs : Array Value} {d : Array Ft} {ty : TypeId} (h : ReadsF cs o d) (hb : Blk w g cs ty) {k : Nat} {t : Ft} (hk : d[k]? = some t) : AtP w g (o + k * 7) t := fun j u hu => hb.cell _ (h k t hk j u hu)

theorem readsF_of {w : World} {g o : Nat} {cs : Array Value} {d : Array Ft} {ty : TypeId} (hb : Blk w g cs ty) (h : ∀ k t, d[k]? = some t → AtP w g (o + k * 7) t) : ReadsF cs o d := fun k t hk j u hu => by
  rw [← blk_read hb]
  exact h k t hk j u hu

/-- Two of them change places. -/
theorem readsF_swap {cs : Array Value} {o i jn : Nat} {d : Array Ft} (h : ReadsF cs o d) (hij : i < jn) (hj : jn < d.size) (hsz : o + d.size * 7 ≤ cs.size) : ReadsF (putF (putF cs (o + i * 7) d[jn]!) (o + jn * 7) d[i]!) o (swp d i jn) := by
  intro k t hk j u hu
  have hj7 : j < 7 := by
    rcases Nat.lt_or_ge j 7 with h | h
    · exact h
    · rw [List.getElem?_eq_none (by rw [cells_length]; exact h)] at hu; cases hu
  have hkl : k < d.size := by
    rcases Nat.lt_or_ge k d.size with h | h
    · exact h
    · rw [Array.getElem?_eq_none (by rw [size_swp]; exact h)] at hk; cases hk
  have ht : (swp d i jn)[k]! = t := by simp [getElem!_def, hk]
  rw [swp_get d (by omega) hj k] at ht
  by_cases h1 : k = jn
  · subst h1
    have : d[i]! = t := by rw [← ht, if_pos rfl]
    subst this
    exact putF_at _ _ _ (by rw [putF_size]; omega) j u hu
  · by_cases h2 : k = i
    · subst h2
      have : d[jn]! = t := by rw [← ht, if_neg h1, if_pos rfl]
      subst this
      rw [putF_far _ _ _ _ (by omega)]
      exact putF_at _ _ _ (by omega) j u hu
    · have : d[k]! = t := by rw [← ht, if_neg h1, if_neg h2]
      subst this
      rw [putF_far _ _ _ _ (by omega), putF_far _ _ _ _ (by omega)]
      exact h k _ (by simp [hkl]) j u hu

/-- What Reverse leaves. -/
def RevDone (g o : Nat) (cs : Array Value) (d : Array Ft) (w : World) (e : Ending) (w' : World) : Prop :=
  e = .returned (.tuple #[]) ∧ ∃ cs', Blk w' g cs' 28 ∧ cs'.size = cs.size ∧ ReadsF cs' o d.reverse ∧ (∀ p, p < o ∨ o + d.size * 7 ≤ p → cs'[p]? = cs[p]?) ∧ Alters (fun k => k = g) w w'

set_option maxRecDepth 100000 in
set_option maxHeartbeats 2000000 in
theorem reverse_walk (g o cap : Nat) (cs : Array Value) (d : Array Ft) (w : World) (hB : Blk w g cs 28) (hA : ReadsF cs o d) (hsz : o + d.size * 7 ≤ cs.size) (hmx : d.size ≤ 1000000) :
    Calls Tryd.prog 104 #[.slice (some ⟨g, o, none⟩) d.size cap] w (RevDone g o cs d w) := by
  go_enter Tryd.func104, Tryd.ntmps104
  go_wp2
  go_loopg [2, 3] d.size (fun k s2 s3 wr => ∃ (i jn : Nat) (jz : Int) (dk : Array Ft) (ck : Array Value), s2 = .int .i64 i ∧ s3 = .int .i64 jz ∧ ((i : Int) < jz → jz = jn ∧ jn < d.size) ∧ (¬ (i : Int) < jz → ¬ i < jn) ∧ jn - i ≤ k ∧
    dk.size = d.size ∧ Blk wr g ck 28 ∧ ReadsF ck o dk ∧ ck.size = cs.size ∧ (∀ p, p < o ∨ o + d.size * 7 ≤ p → ck[p]? = cs[p]?) ∧ Alters (fun k => k = g) w wr ∧ reverseLoop i jn dk = reverseLoop 0 (d.size - 1) d)
  case atStart => exact ⟨0, d.size - 1, (d.size : Int) - 1, d, cs, rfl, rfl, fun h => ⟨by omega, by omega⟩, fun h => by omega, by omega, rfl, hB, hA, rfl, fun _ _ => rfl, Alters.refl _, rfl⟩
  case round =>
    obtain ⟨i, jn, jz, dk, ck, rfl, rfl, h1, h2, hk, hds, hb, ha, hcs, hfar, hal, heq⟩ := hrel
    by_cases hlt : (i : Int) < jz
    · obtain ⟨rfl, hjn⟩ := h1 hlt
      have hij : i < jn := by omega
      obtain ⟨d0, d1, d2, d3, d4, d5, d6⟩ := (ha.at hb (k := i) (t := dk[i]!) (by simp [show i < dk.size by omega])).seven
      obtain ⟨e0, e1, e2, e3, e4, e5, e6⟩ := (ha.at hb (k := jn) (t := dk[jn]!) (by simp [show jn < dk.size by omega])).seven
      have hfz := fun p => hb.free p
      rw [reverseLoop, if_pos hij] at heq
      have hsw := readsF_swap ha hij (by omega) (by omega)
      have hb2 := setF_blk dk[i]! (off := o + jn * 7) (setF_blk dk[jn]! (off := o + i * 7) hb)
      have hs2 : (putF (putF ck (o + i * 7) dk[jn]!) (o + jn * 7) dk[i]!).size = cs.size := by rw [putF_size, putF_size, hcs]
      have hf2 : ∀ p, p < o ∨ o + d.size * 7 ≤ p → (putF (putF ck (o + i * 7) dk[jn]!) (o + jn * 7) dk[i]!)[p]? = cs[p]? := fun p hp => by
        rw [putF_far _ _ _ _ (by omega), putF_far _ _ _ _ (by omega)]
        exact hfar p hp
      have ha2 := setF_alters dk[i]! (off := o + jn * 7) (setF_alters dk[jn]! (off := o + i * 7) hal rfl) rfl
      have hd2 : (swp dk i jn).size = d.size := by rw [size_swp]; exact hds
      unfold setF at hb2 ha2
      have HFIN := Go.Lib.hid (And.intro hd2 (And.intro hb2 (And.intro hsw (And.intro hs2 (And.intro hf2 (And.intro ha2 heq))))))
      clear hb ha hcs hfar hal heq h1 h2 hB hA hds hsw hb2 hs2 hf2 ha2 hd2
      generalize dk[i]! = ti at *
      generalize dk[jn]! = tj at *
      go_wp2_with fail
      go_region
      obtain ⟨hd2, hb2, hsw, hs2, hf2, ha2, heq⟩ := HFIN.out
      have HB := Go.Lib.hid hb2
      have HA := Go.Lib.hid ha2
      have HSW := Go.Lib.hid hsw
      have HS2 := Go.Lib.hid hs2
      have HF2 := Go.Lib.hid hf2
      have HD2 := Go.Lib.hid hd2
      have HEQ := Go.Lib.hid heq
      clear hb2 ha2 hsw hs2 hf2 hd2 heq HFIN d0 d1 d2 d3 d4 d5 d6 e0 e1 e2 e3 e4 e5 e6 hfz
      generalize (((((((wr.setCell _ _).setCell _ _).setCell _ _).setCell _ _).setCell _ _).setCell _ _).setCell _ _) = wa at *
      generalize (((((((wa.setCell _ _).setCell _ _).setCell _ _).setCell _ _).setCell _ _).setCell _ _).setCell _ _) = wb at *
      go_wp2
      go_roundg (jn - 1 - (i + 1))
      case measure => omega
      case rel => exact ⟨i + 1, jn - 1, (jn : Int) - 1, swp dk i jn, _, by simp, rfl, fun h => ⟨by omega, by omega⟩, fun h => by omega, Nat.le_refl _, HD2.out, HB.out, HSW.out, HS2.out, HF2.out, HA.out.drew, HEQ.out⟩
    · have hnot := h2 hlt
      have hfin : dk = d.reverse := by
        rw [reverseLoop, if_neg hnot] at heq
        rw [← Lib.reverseLoop_reverse, ← heq]
      subst hfin
      have HR := Go.Lib.hid (show RevDone g o cs d w (.returned (.tuple #[])) wr from ⟨rfl, ck, hb, hcs, ha, hfar, hal⟩)
      clear hb ha hcs hfar hal heq hds h1 h2
      go_wp2
      go_end0
      exact HR.out
end Go.Proofs.YtnpcakakjhiboaaDoor
