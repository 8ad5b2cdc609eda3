/- The machine that makes the list of parts: what is still to be done, what lies in memory. No condition. -/
import Derived.Test.YtnpcakakjhiboaaDoorKey16
import Derived.Test.YtnpcakakjhiboaaDoorWfP
import Derived.Maps.AppendAt
import Derived.Laws.OwnMore
namespace Go.Proofs.YtnpcakakjhiboaaDoor
open Go Go.RowKit Go.Lo Go.WideShapes Go.Maps

/-- A visit: where a node lies, the node, and whether its kids were gone through. -/
structure Vs where
  b : Nat
  o : Nat
  t : Ft
  f : Bool

def Vs.cells (y : Vs) : List Value := [.pointer (some ⟨y.b, y.o, none⟩), .bool y.f]
def Vs.due (y : Vs) : List Fm := if y.f then [Ft.pl y.t] else (Ft.pl y.t).post

/-- What is still to be done, in order. -/
def todo (Y : List Vs) : List Fm := Y.reverse.flatMap Vs.due

theorem todo_snoc (Y : List Vs) (y : Vs) : todo (Y ++ [y]) = y.due ++ todo Y := by simp [todo]
theorem todo_append (Y Z : List Vs) : todo (Y ++ Z) = todo Z ++ todo Y := by simp [todo]

/-- The visits of kids, as they lie. -/
def kv (kb ko : Nat) : Nat → List Ft → List Vs
  | _, [] => []
  | i, k :: ks => ⟨kb, ko + i * 7, k, false⟩ :: kv kb ko (i + 1) ks

theorem kv_length (kb ko : Nat) (ks : List Ft) : ∀ i, (kv kb ko i ks).length = ks.length := by
  induction ks with
  | nil => intro i; rfl
  | cons k ks ih => intro i; simp [kv, ih]

theorem kv_get (kb ko : Nat) (ks : List Ft) : ∀ (i j : Nat) (t : Ft), ks[j]? = some t → (kv kb ko i ks)[j]? = some ⟨kb, ko + (i + j) * 7, t, false⟩ := by
  induction ks with
  | nil => intro i j t h; simp at h
  | cons k ks ih =>
    intro i j t h
    cases j with
    | zero => simp at h; subst h; simp [kv]
    | succ j =>
      simp only [List.getElem?_cons_succ] at h
      simp only [kv, List.getElem?_cons_succ]
      rw [ih (i + 1) j t h, show i + 1 + j = i + (j + 1) by omega]

theorem kv_mem {kb ko : Nat} {ks : List Ft} : ∀ {i : Nat} {y : Vs}, y ∈ kv kb ko i ks → ∃ j t, ks[j]? = some t ∧ y = ⟨kb, ko + (i + j) * 7, t, false⟩ := by
  induction ks with
  | nil => intro i y h; simp [kv] at h
  | cons k ks ih =>
    intro i y h
    simp only [kv, List.mem_cons] at h
    rcases h with rfl | h
    · exact ⟨0, k, rfl, rfl⟩
    · obtain ⟨j, t, h1, rfl⟩ := ih h
      exact ⟨j + 1, t, by simpa using h1, by rw [show i + 1 + j = i + (j + 1) by omega]⟩

theorem todo_kv (kb ko : Nat) (ks : List Ft) : ∀ i, todo (kv kb ko i ks).reverse = Tr.postL (ks.map Ft.pl) := by
  unfold todo
  induction ks with
  | nil => intro i; simp [kv, Tr.postL]
  | cons k ks ih =>
    intro i
    have := ih (i + 1)
    simp only [List.reverse_reverse] at this ⊢
    simp only [kv, List.flatMap_cons, List.map_cons, Tr.postL]
    rw [this]
    simp [Vs.due]

/-- Its kids are put on the way. -/
theorem todo_open (Y : List Vs) (b o kb ko : Nat) (t : Ft) : todo (Y ++ [⟨b, o, t, true⟩] ++ (kv kb ko 0 t.kids).reverse) = todo (Y ++ [⟨b, o, t, false⟩]) := by
  rw [todo_append, todo_kv, todo_snoc, todo_snoc]
  simp only [Vs.due, if_true, Bool.false_eq_true, if_false]
  rw [show (Ft.pl t).post = Tr.postL (t.kids.map Ft.pl) ++ [Ft.pl t] by
    obtain ⟨⟨n, a, c⟩, ks⟩ := t
    rw [pl_nd]
    rfl]
  simp

/-- What a visit weighs. -/
def Vs.w (y : Vs) : Nat := if y.f then 1 else 2 * y.t.size
def weight (Y : List Vs) : Nat := (Y.map Vs.w).sum

theorem weight_snoc (Y : List Vs) (y : Vs) : weight (Y ++ [y]) = weight Y + y.w := by simp [weight]
theorem weight_append (Y Z : List Vs) : weight (Y ++ Z) = weight Y + weight Z := by simp [weight]

theorem weight_kv (kb ko : Nat) (ks : List Ft) : ∀ i, weight (kv kb ko i ks) = 2 * Tr.sizeL ks := by
  induction ks with
  | nil => intro i; rfl
  | cons k ks ih =>
    intro i
    have := ih (i + 1)
    simp only [weight, kv, List.map_cons, List.sum_cons, Tr.sizeL] at this ⊢
    rw [this]
    simp only [Vs.w, Bool.false_eq_true, if_false]
    omega

theorem weight_rev (Z : List Vs) : weight Z.reverse = weight Z := by simp [weight, List.sum_reverse]

theorem weight_open (Y : List Vs) (b o kb ko : Nat) (t : Ft) : weight (Y ++ [⟨b, o, t, true⟩] ++ (kv kb ko 0 t.kids).reverse) < weight (Y ++ [⟨b, o, t, false⟩]) := by
  rw [weight_append, weight_rev, weight_kv, weight_snoc, weight_snoc]
  obtain ⟨x, ks⟩ := t
  simp only [Vs.w, if_true, Bool.false_eq_true, if_false, Tr.kids, Tr.size]
  omega

theorem due_pos (y : Vs) : 1 ≤ y.due.length := by
  unfold Vs.due
  split
  · simp
  · rw [Tr.post_length]
    have := fsize_pos (Ft.pl y.t)
    omega

theorem todo_len (Y : List Vs) : Y.length ≤ (todo Y).length := by
  suffices ∀ Z : List Vs, Z.length ≤ (Z.flatMap Vs.due).length from by
    have := this Y.reverse
    rw [List.length_reverse] at this
    exact this
  intro Z
  induction Z with
  | nil => simp
  | cons y Z ih =>
    have := due_pos y
    simp only [List.flatMap_cons, List.length_append, List.length_cons]
    omega

/-- Where the machine stands. -/
structure Mc (f : Fm) (Y : List Vs) (U T : List Fm) : Prop where
  goes : Tr.Goes T (todo Y)
  fold : (todo Y).foldl addT U = partsOf f
  closed : Closed U
  sub : ∀ t, t ∈ T → t ∈ U
  snd : ∀ n, n ∈ todo Y → wrong n = 0
  lenT : T.length + (todo Y).length ≤ f.size
  lenU : U.length + (todo Y).length ≤ f.size

theorem Mc.start {f : Fm} (h : sound f) {b o : Nat} {t : Ft} (ht : Ft.pl t = f) : Mc f [⟨b, o, t, false⟩] [] [] := by
  have e : todo [⟨b, o, t, false⟩] = f.post := by simp [todo, Vs.due, ht]
  refine ⟨?_, by rw [e]; rfl, Closed.nil, by simp, fun n hn => ?_, ?_, ?_⟩
  · rw [e]
    have := Tr.goes_post f [] [] trivial
    simpa using this
  · rw [e, Tr.mem_post] at hn
    exact h n hn
  · rw [e, Tr.post_length]; simp
  · rw [e, Tr.post_length]; simp

theorem Mc.open' {f : Fm} {Y : List Vs} {U T : List Fm} {b o : Nat} {t : Ft} (h : Mc f (Y ++ [⟨b, o, t, false⟩]) U T) (kb ko : Nat) : Mc f (Y ++ [⟨b, o, t, true⟩] ++ (kv kb ko 0 t.kids).reverse) U T := by
  have e := todo_open Y b o kb ko t
  exact ⟨by rw [e]; exact h.goes, by rw [e]; exact h.fold, h.closed, h.sub, by rw [e]; exact h.snd, by rw [e]; exact h.lenT, by rw [e]; exact h.lenU⟩

theorem Mc.close {f : Fm} {Y : List Vs} {U T : List Fm} {b o : Nat} {t : Ft} (h : Mc f (Y ++ [⟨b, o, t, true⟩]) U T) :
    ∃ T0, T = T0 ++ (Ft.pl t).kids ∧ Mc f Y (addT U (Ft.pl t)) (T0 ++ [Ft.pl t]) ∧ (∀ k, k ∈ (Ft.pl t).kids → k ∈ U) ∧ wrong (Ft.pl t) = 0 := by
  have e : todo (Y ++ [⟨b, o, t, true⟩]) = Ft.pl t :: todo Y := by rw [todo_snoc]; simp [Vs.due]
  obtain ⟨g1, g2, g3, g4, g5, g6, g7⟩ := h
  rw [e] at g1 g2 g5 g6 g7
  obtain ⟨T0, rfl, hg⟩ := g1
  have hk : ∀ k, k ∈ (Ft.pl t).kids → k ∈ U := fun k hk => g4 k (by simp [hk])
  refine ⟨T0, rfl, ⟨hg, g2, g3.add hk, fun s hs => ?_, fun n hn => g5 n (by simp [hn]), ?_, ?_⟩, hk, g5 _ (by simp)⟩
  · rcases List.mem_append.1 hs with hs | hs
    · exact addT_mem.2 (.inl (g4 s (by simp [hs])))
    · exact addT_mem.2 (.inr (by simpa using hs))
  · simp only [List.length_append, List.length_cons, List.length_nil] at g6 ⊢
    omega
  · have := addT_len (U := U) (t := Ft.pl t)
    simp only [List.length_cons] at g7
    omega

theorem Mc.done {f : Fm} {U T : List Fm} (h : Mc f [] U T) : U = partsOf f := h.fold

/-- The list so far is part of the whole one. -/
theorem Mc.mem {f : Fm} {Y : List Vs} {U T : List Fm} (h : Mc f Y U T) {t : Fm} (ht : t ∈ U) : t ∈ f.pre := by
  rw [← parts_mem, ← h.fold, foldl_mem]
  exact .inl ht

/-- A step's numbers, where all nodes' are such. -/
theorem stepOf_wf {U : List Fm} {t : Fm} (h : t.top.wf) (hl : U.length ≤ 100000) : (stepOf U t).wf := by
  have hk : ∀ i, I64 (kidAt U t i) := fun i => by
    unfold kidAt I64
    split
    · omega
    · rename_i k _
      have := place_range U k
      omega
  exact ⟨h, hk 0, hk 1⟩

/-- What lies in memory. -/
structure PlAt (w0 : World) (mb n : Nat) (wv lv pv : Value) (Y : List Vs) (U T : List Fm) (D : DataW Unit) (W : World) : Prop where
  way : W.ownsRow w0.heap.size 113 2 wv Y.length (Y.flatMap Vs.cells)
  vis : ∀ y, y ∈ Y → y.b < mb ∧ AtP W y.b y.o y.t ∧ In (fun k => k < mb) W y.t
  list : W.ownsRow w0.heap.size 70 8 lv U.length ((U.map (stepOf U)).flatMap Stp.cells)
  plc : W.ownsRow w0.heap.size 3 1 pv T.length (T.map fun t => Value.int .i64 (place U t))
  map : W.ownsMap Tryd.prog 70 (plainElem Tryd.prog 3) mb n D
  mok : MapOk D (U.map (stepOf U))
  ne1 : ∀ k, wv.ownBlock = some k → lv.ownBlock ≠ some k ∧ pv.ownBlock ≠ some k
  ne2 : ∀ k, lv.ownBlock = some k → pv.ownBlock ≠ some k
  big : mb < w0.heap.size
  quiet : Alters (fun k => k = mb) w0 W

section
variable {w0 W W' : World} {mb n : Nat} {wv lv pv wv2 lv2 pv2 : Value} {Y Y2 : List Vs} {U T T2 : List Fm} {D : DataW Unit}

theorem map_keep (h : W.ownsMap Tryd.prog 70 (plainElem (H := Unit) Tryd.prog 3) mb n D) {p : Nat → Prop} (hA : Alters p W W') (hp : ¬ p mb) : W'.ownsMap Tryd.prog 70 (plainElem (H := Unit) Tryd.prog 3) mb n D := by
  obtain ⟨es, clock, hb, r⟩ := h
  have hlt : mb < W.heap.size := (Array.getElem?_eq_some_iff.1 hb).1
  exact ⟨es, clock, by rw [hA.block mb hlt hp]; exact hb, r⟩

/-- What touches the way's own block alone. -/
theorem PlAt.way' (h : PlAt w0 mb n wv lv pv Y U T D W) (hA : Alters (fun k => wv.ownBlock = some k) W W') (hr : W'.ownsRow w0.heap.size 113 2 wv2 Y2.length (Y2.flatMap Vs.cells)) (hat : wv2.ownBlock = wv.ownBlock ∨ ∀ k, wv2.ownBlock = some k → W.heap.size ≤ k) (hv : ∀ y, y ∈ Y2 → y.b < mb ∧ AtP W y.b y.o y.t ∧ In (fun k => k < mb) W y.t) : PlAt w0 mb n wv2 lv pv Y2 U T D W' := by
  have hb := h.big
  have lo : ∀ k, k < w0.heap.size → ¬ wv.ownBlock = some k := fun k hk e => by have := (h.way.lt k e).1; omega
  refine ⟨hr, fun y hy => ?_, row_keep h.list hA (fun k e e2 => (h.ne1 k e2).1 e), row_keep h.plc hA (fun k e e2 => (h.ne1 k e2).2 e), map_keep h.map hA (lo mb hb), h.mok, fun k e => ?_, h.ne2, hb, h.quiet.then hA (fun i hi e => absurd e (lo i hi))⟩
  · obtain ⟨v1, v2, v3⟩ := hv y hy
    exact ⟨v1, v2.keep hA (lo _ (by omega)), v3.keep hA (fun k hk _ => lo k (by omega))⟩
  · rcases hat with h1 | h1
    · exact h.ne1 k (h1 ▸ e)
    · have := h1 k e
      exact ⟨fun e2 => by have := (h.list.lt k e2).2; omega, fun e2 => by have := (h.plc.lt k e2).2; omega⟩

theorem PlAt.quiet' (h : PlAt w0 mb n wv lv pv Y U T D W) (hq : Quiet W W') : PlAt w0 mb n wv lv pv Y U T D W' :=
  h.way' (hq.to) (row_keep h.way hq (by simp)) (.inl rfl) h.vis

/-- What touches the places' own block alone. -/
theorem PlAt.plc' (h : PlAt w0 mb n wv lv pv Y U T D W) (hA : Alters (fun k => pv.ownBlock = some k) W W') (hr : W'.ownsRow w0.heap.size 3 1 pv2 T2.length (T2.map fun t => Value.int .i64 (place U t))) (hat : pv2.ownBlock = pv.ownBlock ∨ ∀ k, pv2.ownBlock = some k → W.heap.size ≤ k) : PlAt w0 mb n wv lv pv2 Y U T2 D W' := by
  have hb := h.big
  have lo : ∀ k, k < w0.heap.size → ¬ pv.ownBlock = some k := fun k hk e => by have := (h.plc.lt k e).1; omega
  refine ⟨row_keep h.way hA (fun k e e2 => (h.ne1 k e).2 e2), fun y hy => ?_, row_keep h.list hA (fun k e e2 => h.ne2 k e e2), hr, map_keep h.map hA (lo mb hb), h.mok, fun k e => ⟨(h.ne1 k e).1, fun e2 => ?_⟩, fun k e e2 => ?_, hb, h.quiet.then hA (fun i hi e => absurd e (lo i hi))⟩
  · obtain ⟨v1, v2, v3⟩ := h.vis y hy
    exact ⟨v1, v2.keep hA (lo _ (by omega)), v3.keep hA (fun k hk _ => lo k (by omega))⟩
  · rcases hat with h1 | h1
    · exact (h.ne1 k e).2 (h1 ▸ e2)
    · have := h1 k e2
      have := (h.way.lt k e).2
      omega
  · rcases hat with h1 | h1
    · exact h.ne2 k e (h1 ▸ e2)
    · have := h1 k e2
      have := (h.list.lt k e).2
      omega

/-- A new part: the map is told, the list grows. -/
theorem PlAt.miss {x : Fm} {W1 : World} {o : Obj} (h : PlAt w0 mb n wv lv pv Y U T D W) (hn : x ∉ U) (hk : ∀ k, k ∈ x.kids → k ∈ U) (hT : ∀ t, t ∈ T → t ∈ U) (hc : Closed U) (hwf : (stepOf U x).wf) (hkl : ∀ t, t ∈ U → t.kids.length = kidsOf t.top.op) (hxl : x.kids.length = kidsOf x.top.op)
    (hmap : W1.ownsMap Tryd.prog 70 (plainElem (H := Unit) Tryd.prog 3) mb (n + 1) (D.put (keyL (stepOf U x)) (.lit (.int .i64 U.length)))) (hg1 : W.grownBy W1 (some mb))
    (hr : W'.ownsRow w0.heap.size 70 8 lv2 (U.length + 1) ((U.map (stepOf U)).flatMap Stp.cells ++ (stepOf U x).cells)) (hg2 : (W1.alloc o).grownBy W' lv.ownBlock) (hat : lv2.ownBlock = lv.ownBlock ∨ ∀ k, lv2.ownBlock = some k → W1.heap.size ≤ k) :
    PlAt w0 mb (n + 1) wv lv2 pv Y (U ++ [x]) T (D.put (keyL (stepOf U x)) (.lit (.int .i64 U.length))) W' := by
  have hb := h.big
  have hA1 : Alters (fun k => k = mb) W W1 := (Alters.refl W).grown hg1 (fun k e _ => by cases e; rfl)
  have hA2 : Alters (fun k => lv.ownBlock = some k) W1 W' := ((Alters.refl W1).alloc o).grown hg2 (fun k e _ => e)
  have lo : ∀ k, k < w0.heap.size → ¬ lv.ownBlock = some k := fun k hk e => by have := (h.list.lt k e).1; omega
  have hi : ∀ {v : Value} {e : TypeId} {s m : Nat} {xs : List Value}, W.ownsRow w0.heap.size e s v m xs → ∀ k, v.ownBlock = some k → k ≠ mb := fun hr k e => by have := (hr.lt k e).1; omega
  have hst : ∀ t, t ∈ U → stepOf (U ++ [x]) t = stepOf U t := fun t ht => stepOf_append (fun k hk => hc.mem ht hk)
  have hsx : stepOf (U ++ [x]) x = stepOf U x := stepOf_append hk
  have hmm : (U ++ [x]).map (stepOf (U ++ [x])) = U.map (stepOf U) ++ [stepOf U x] := by
    rw [List.map_append, List.map_singleton, hsx]
    congr 1
    exact List.map_congr_left hst
  have hsn : stepOf U x ∉ U.map (stepOf U) := fun hm => by
    obtain ⟨t, ht, e⟩ := List.mem_map.1 hm
    exact hn (stepOf_inj (fun k hk => hc.mem ht hk) hk (hkl t ht) hxl e ▸ ht)
  refine ⟨row_keep (row_keep h.way hA1 (hi h.way)) hA2 (fun k e e2 => (h.ne1 k e).1 e2), fun y hy => ?_, ?_, ?_, map_keep hmap hA2 (lo mb hb), ?_, fun k e => ⟨fun e2 => ?_, (h.ne1 k e).2⟩, fun k e e2 => ?_, hb, (h.quiet.trans hA1).then hA2 (fun i hi e => absurd e (lo i hi))⟩
  · obtain ⟨v1, v2, v3⟩ := h.vis y hy
    exact ⟨v1, (v2.keep hA1 (by omega)).keep hA2 (lo _ (by omega)), (v3.keep hA1 (fun k hk _ => by omega)).keep hA2 (fun k hk _ => lo k (by omega))⟩
  · rw [hmm, List.length_append, List.flatMap_append]
    simpa using hr
  · have e : (T.map fun t => Value.int .i64 (place (U ++ [x]) t)) = T.map fun t => Value.int .i64 (place U t) := List.map_congr_left fun t ht => by rw [place_append (hT t ht)]
    rw [e]
    exact row_keep (row_keep h.plc hA1 (hi h.plc)) hA2 (fun k e e2 => h.ne2 k e2 e)
  · rw [hmm]
    have := h.mok.put hwf hsn
    simpa using this
  · rcases hat with h1 | h1
    · exact (h.ne1 k e).1 (h1 ▸ e2)
    · have := h1 k e2
      have := (h.way.lt k e).2
      have := hA1.size
      omega
  · rcases hat with h1 | h1
    · exact h.ne2 k (h1 ▸ e) e2
    · have := h1 k e
      have := (h.plc.lt k e2).2
      have := hA1.size
      omega
end
end Go.Proofs.YtnpcakakjhiboaaDoor
