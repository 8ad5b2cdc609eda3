/- horizon.Names. No condition. -/
import Derived.Test.YtnpcakakjhiboaaDoorNodes84
import Derived.Test.YtnpcakakjhiboaaDoorShelf
import Derived.Test.YtnpcakakjhiboaaDoorHorQ
import Derived.Test.YtnpcakakjhiboaaDoorWfP
import Derived.Sort.KeysCollected
import Derived.Sort.MapsRangeIn
import Derived.Sort.OwnSorted
import Derived.Maps.OwnIn
import Derived.Maps.OwnSet
import Derived.StringKeys
namespace Go.Proofs.YtnpcakakjhiboaaDoor
open Go Go.RowKit Go.Lo Go.WideShapes Go.Maps Go.Sort
attribute [local go_sem] Oper.semAt_some

theorem law9 : Keyed Tryd.prog 9 := string_keyed Tryd.underlying9
theorem info9 : (Tryd.prog.info? 9).map (fun i => (i.zero, i.size, i.bytes)) = some (some (.string ⟨#[]⟩), 1, 16) := by kernel_rfl

theorem name_le {s : ByteArray} (h : isName s = true) : s.size ≤ 12 := by
  unfold isName at h
  simp only [Bool.and_eq_true, decide_eq_true_eq] at h
  exact h.1.1.1.2

/-- Names lie one behind the other. -/
def StrsAt (w : World) (a : Option Addr) (L : List Nm) : Prop := L ≠ [] → ∃ b, a = some ⟨b, 0, none⟩ ∧ ∀ (i : Nat) (s : Nm), L[i]? = some s → w.cell? ⟨b, i, none⟩ = some (encStr s)

theorem StrsAt.quiet {w w' : World} {a : Option Addr} {L : List Nm} (h : StrsAt w a L) (hq : Quiet w w') : StrsAt w' a L := fun hn => by
  obtain ⟨b, e, hc⟩ := h hn
  exact ⟨b, e, fun i s hi => hq.cell (hc i s hi) (by simp)⟩

theorem StrsAt.alter {w w' : World} {p : Nat → Prop} {a : Option Addr} {L : List Nm} (h : StrsAt w a L) (hA : Alters p w w') (hp : ∀ b, a = some ⟨b, 0, none⟩ → ¬ p b) : StrsAt w' a L := fun hn => by
  obtain ⟨b, e, hc⟩ := h hn
  exact ⟨b, e, fun i s hi => hA.cell (hc i s hi) (hp b e)⟩

theorem StrsAt.of_row {w : World} {base c : Nat} {a : Option Addr} {L : List Nm} (h : w.ownsRow base 9 1 (.slice a L.length c) L.length (L.map encStr)) : StrsAt w a L := fun hn => by
  obtain ⟨m, hm⟩ : ∃ m, L.length = m + 1 := ⟨L.length - 1, by have := List.length_pos_iff.2 hn; omega⟩
  have h2 := h
  rw [hm] at h2
  obtain ⟨g, c2, e⟩ := ownsRow_succ h2
  obtain ⟨rfl, -⟩ : a = some ⟨g, 0, none⟩ ∧ c = c2 := by simpa using e
  refine ⟨g, rfl, fun i s hi => ?_⟩
  have := h.cells (g := g) rfl i (encStr s) (by rw [List.getElem?_map, hi]; rfl)
  rw [add_plain, Nat.zero_add] at this
  exact this

/-- A call returns these names, and touches nothing that was there. -/
def GivesNames (L : List Nm) (w : World) (e : Ending) (w' : World) : Prop := ∃ a c, e = .returned (.slice a L.length c) ∧ StrsAt w' a L ∧ Quiet w w'

/-- Is a name that of an atom among these? -/
def nmIn (pre : List Vi) (x : Nm) : Bool := pre.any fun v => decide (v.t.top.n.op = 3) && decide (v.t.top.n.nm.data.toList = x)

structure NmOk (D : DataW Unit) (pre : List Vi) : Prop where
  isMap : IsMap D
  has : ∀ x : Nm, Maps.has D (.string x) = nmIn pre x

theorem NmOk.nil : NmOk (.map []) [] := ⟨⟨_, rfl⟩, fun _ => rfl⟩

theorem isKeyL_str (_x : Nm) : WideAt.IsKeyLit (.string _x) := trivial

theorem NmOk.skip {D : DataW Unit} {pre : List Vi} {v : Vi} (h : NmOk D pre) (hv : v.t.top.n.op ≠ 3) : NmOk D (pre ++ [v]) :=
  ⟨h.isMap, fun x => by rw [h.has x]; simp [nmIn, hv]⟩

theorem NmOk.put {D : DataW Unit} {pre : List Vi} {v : Vi} (h : NmOk D pre) (hv : v.t.top.n.op = 3) : NmOk (D.put (.string v.t.top.n.nm.data.toList) (.lit (.bool true))) (pre ++ [v]) := by
  refine ⟨?_, fun x => ?_⟩
  · obtain ⟨es, rfl⟩ := h.isMap
    exact ⟨_, rfl⟩
  · by_cases e : x = v.t.top.n.nm.data.toList
    · subst e
      rw [has_put_same h.isMap (isKeyL_str _)]
      simp [nmIn, hv]
    · rw [has_put_other (by simpa using e), h.has x]
      have : ¬ v.t.top.n.nm.data.toList = x := fun h => e h.symm
      simp [nmIn, hv, this]

theorem map_keep9 {W W' : World} {mb n : Nat} {D : DataW Unit} (h : W.ownsMap Tryd.prog 9 (plainElem (H := Unit) Tryd.prog 4) mb n D) {p : Nat → Prop} (hA : Alters p W W') (hp : ¬ p mb) : W'.ownsMap Tryd.prog 9 (plainElem (H := Unit) Tryd.prog 4) mb n D := by
  obtain ⟨es, clock, hb, r⟩ := h
  have hlt : mb < W.heap.size := (Array.getElem?_eq_some_iff.1 hb).1
  exact ⟨es, clock, by rw [hA.block mb hlt hp]; exact hb, r⟩

/-- What stands while the names are put into the map. -/
structure NmAt (w : World) (mb : Nat) (pre : List Vi) (W : World) : Prop where
  map : ∃ D : DataW Unit, W.ownsMap Tryd.prog 9 (plainElem (H := Unit) Tryd.prog 4) mb pre.length D ∧ NmOk D pre
  cap : Blk W (mb + 1) #[.map (some mb)] 103
  low : w.heap.size ≤ mb
  quiet : Quiet w W

theorem NmAt.keep {w W W' : World} {mb : Nat} {pre : List Vi} {p : Nat → Prop} (h : NmAt w mb pre W) (hA : Alters p W W') (hp : ∀ k, k ≤ mb + 1 → ¬ p k) : NmAt w mb pre W' := by
  obtain ⟨D, h1, h2⟩ := h.map
  have := h.low
  exact ⟨⟨D, map_keep9 h1 hA (hp mb (by omega)), h2⟩, hA.blk h.cap (hp _ (by omega)), h.low, h.quiet.then hA (fun i hi e => absurd e (hp i (by omega)))⟩

/-- A sorted list of names without repeats, of the right names. -/
theorem names_sorted {f : Fm} (hf : sound f) {ss : List Nm} (hnd : ss.Nodup) (hm : ∀ x, x ∈ ss ↔ atomIn x f) : ss.mergeSort (fun x y => decide (x ≤ y)) = namesOf f := by
  have hp : (ss.mergeSort fun x y => decide (x ≤ y)).Perm ss := List.mergeSort_perm _ _
  have tr : ∀ a b c : Nm, decide (a ≤ b) = true → decide (b ≤ c) = true → decide (a ≤ c) = true := fun a b c h1 h2 => by
    simp only [decide_eq_true_eq] at h1 h2 ⊢; exact List.le_trans h1 h2
  have tot : ∀ a b : Nm, (decide (a ≤ b) || decide (b ≤ a)) = true := fun a b => by
    have := List.le_total a b; simpa using this
  have hs := List.pairwise_mergeSort tr tot ss
  have hn : (ss.mergeSort fun x y => decide (x ≤ y)).Nodup := hp.nodup_iff.2 hnd
  refine rises_ext ?_ (namesOf_rises f) (fun x => by rw [hp.mem_iff, hm, namesOf_mem hf])
  refine (hs.and hn).imp fun {a b} h => ?_
  obtain ⟨h1, h2⟩ := h
  rcases ltN_tri a b with h3 | h3 | h3
  · exact h3
  · exact absurd h3 h2
  · rw [ltN_lt] at h3
    simp only [decide_eq_true_eq] at h1 h3
    exact absurd h3 h1

set_option maxRecDepth 100000 in
set_option maxHeartbeats 4000000 in
theorem names43_walk (D : Nat → Prop) (t : Ft) (w : World) (hin : In D w t) (hS : Shapes w) (hsz : t.size ≤ 1000) : Calls Tryd.prog 43 #[t.val] w (GivesNames (namesOf t.pl) w) := by
  have hin1 : In (fun k => k < w.heap.size) w t := hin.mono (fun k hk _ => hk)
  have HSO : Hid (first t.pl = 0 → sound t.pl) := Go.Lib.hid (first_zero _).1
  have HNO : Hid (first t.pl ≠ 0 → namesOf t.pl = []) := Go.Lib.hid (fun h => by unfold namesOf; rw [if_neg h])
  have HPV : Hid (∀ (A : Addr) (v : Vi), v ∈ vis A 1 t → Ft.pl v.t ∈ (Ft.pl t).pre) := Go.Lib.hid (fun A v hv => by
    show Ft.pl v.t ∈ (Tr.map Hd.n t).pre
    rw [Tr.map_pre, ← vis_pre t A 1]
    exact List.mem_map_of_mem (List.mem_map_of_mem hv))
  have HPM : Hid (∀ (A : Addr) (x : Nm), nmIn (vis A 1 t) x = true ↔ atomIn x t.pl) := Go.Lib.hid (fun A x => by
    have e : t.pl.pre = (vis A 1 t).map (fun v => Ft.pl v.t) := by
      show (Tr.map Hd.n t).pre = _
      rw [Tr.map_pre, ← vis_pre t A 1, List.map_map]
      rfl
    unfold nmIn atomIn
    rw [e]
    simp only [List.any_eq_true, Bool.and_eq_true, decide_eq_true_eq, List.mem_map]
    constructor
    · rintro ⟨v, h1, h2, h3⟩
      exact ⟨_, ⟨v, h1, rfl⟩, by rw [pl_op2]; exact h2, by rw [pl_op]; exact h3⟩
    · rintro ⟨_, ⟨v, h1, rfl⟩, h2, h3⟩
      rw [pl_op] at h2 h3
      exact ⟨v, h1, h2, h3⟩)
  obtain ⟨i9, hi9, hz9, hs9, hb9⟩ := info_parts info9
  have HHZ := Go.Lib.hid hsz
  obtain ⟨⟨⟨op, nm, cmp, val, lo, hi⟩, a, cap⟩, ks⟩ := t
  have hB := Blk.new w #[.int .i64 op, .string nm, .int .i64 cmp, .int .i64 val, .int .i64 lo, .int .i64 hi, .slice a ks.length cap] 28
  have hq : Quiet w (w.alloc (.cells #[.int .i64 op, .string nm, .int .i64 cmp, .int .i64 val, .int .i64 lo, .int .i64 hi, .slice a ks.length cap] 28)) := (Alters.refl _).alloc _
  have HC := Go.Lib.hid (sound_walk (fun k => k < w.heap.size) (.nd ⟨⟨op, nm, cmp, val, lo, hi⟩, a, cap⟩ ks) (w.alloc (.cells #[.int .i64 op, .string nm, .int .i64 cmp, .int .i64 val, .int .i64 lo, .int .i64 hi, .slice a ks.length cap] 28)) (hin1.quiet hq) (hS.keep hq (by simp)) (by omega))
  have HAT : Hid (AtP (w.alloc (.cells #[.int .i64 op, .string nm, .int .i64 cmp, .int .i64 val, .int .i64 lo, .int .i64 hi, .slice a ks.length cap] 28)) w.heap.size 0 (.nd ⟨⟨op, nm, cmp, val, lo, hi⟩, a, cap⟩ ks)) := boxed_at hB
  have HIN : Hid (In (fun k => k < w.heap.size) (w.alloc (.cells #[.int .i64 op, .string nm, .int .i64 cmp, .int .i64 val, .int .i64 lo, .int .i64 hi, .slice a ks.length cap] 28)) (.nd ⟨⟨op, nm, cmp, val, lo, hi⟩, a, cap⟩ ks)) := hin1.quiet hq
  have HQ := Go.Lib.hid hq
  have HZ : Hid ((w.alloc (.cells #[.int .i64 op, .string nm, .int .i64 cmp, .int .i64 val, .int .i64 lo, .int .i64 hi, .slice a ks.length cap] 28)).heap.size = w.heap.size + 1) := Go.Lib.hid (by simp)
  have HNN := fun (w2 : World) => Go.Lib.hid (nodes84_walk (.nd ⟨⟨op, nm, cmp, val, lo, hi⟩, a, cap⟩ ks) w2)
  clear hB hq hin hin1 hS hsz
  unfold Ft.val at HC HNN ⊢
  simp only [Tr.top, Tr.kids] at HC HNN ⊢
  have hmm := @run_makeMap Tryd.prog
  refine (callsIn_wide (n := 10)).1 ?_
  refine callsIn_of_wp_marks Tryd.func43 rfl trivial ?_ rfl
  simp only [Tryd.ntmps43, List.size_toArray, List.length_cons, List.length_nil, Nat.reduceAdd, Nat.reduceSub, Array.replicate_succ, Array.replicate_zero, List.push_toArray, List.append_toArray, List.nil_append, List.cons_append]
  gi_wp2_with fail
  refine ⟨trivial, (callsIn_wide.2 HC.out).mono ?_⟩
  rintro e w2 ⟨rfl, q2⟩
  replace HAT := Go.Lib.hid (HAT.out.keep q2 (by simp))
  replace HIN := Go.Lib.hid (HIN.out.quiet q2)
  have HQ2 := Go.Lib.hid (HQ.out.trans q2)
  have HZ2 := Go.Lib.hid (show w.heap.size + 1 ≤ w2.heap.size by have := q2.size; have := HZ.out; omega)
  clear HC HZ q2 HQ
  generalize htt : (Tr.nd ⟨⟨op, nm, cmp, val, lo, hi⟩, a, cap⟩ ks : Ft) = tt at *
  by_cases hf : first (Ft.pl tt) = 0
  rotate_left
  · have b0 : decide (first (Ft.pl tt) = 0) = false := by simpa using hf
    have HN0 := Go.Lib.hid (HNO.out hf)
    clear hf HNO HSO hmm htt
    gi_wp2_with fail
    exact ⟨.slice none 0 0, by simp [results, Tryd.results43, go_sem], by rw [HN0.out]; exact ⟨none, 0, rfl, fun h => absurd rfl h, HQ2.out⟩⟩
  have hso := HSO.out hf
  have b0 : decide (first (Ft.pl tt) = 0) = true := by simpa using hf
  have HQ4 : Hid (Quiet w2 ((w2.alloc (.map #[] 0)).alloc (.cells #[.map (some w2.heap.size)] 103))) := Go.Lib.hid (((Alters.refl _).alloc _).alloc _)
  have HZ4 : Hid (((w2.alloc (.map #[] 0)).alloc (.cells #[.map (some w2.heap.size)] 103)).heap.size = w2.heap.size + 2) := Go.Lib.hid (by simp)
  have HM4 : Hid (NmAt w w2.heap.size [] ((w2.alloc (.map #[] 0)).alloc (.cells #[.map (some w2.heap.size)] 103))) := Go.Lib.hid ⟨⟨_, map_keep9 (World.ownsMap_made w2 Tryd.prog 9 _) ((Alters.refl (p := fun _ => False) _).alloc _) (by simp), NmOk.nil⟩, by
    have := Blk.new (w2.alloc (.map #[] 0)) #[.map (some w2.heap.size)] 103
    rwa [World.size_alloc] at this, by have := HZ2.out; omega, HQ2.out.trans HQ4.out⟩
  replace HAT := Go.Lib.hid (HAT.out.keep HQ4.out (by simp))
  replace HIN := Go.Lib.hid (HIN.out.quiet HQ4.out)
  obtain ⟨x0, x1, x2, x3, x4, x5, x6⟩ := HAT.out.seven
  rw [← htt] at x0 x1 x2 x3 x4 x5 x6
  simp only [Tr.top, Tr.kids, Nat.zero_add] at x0 x1 x2 x3 x4 x5 x6
  have HF := Go.Lib.hid hso
  have HTT := Go.Lib.hid htt
  have htt2 : (Tr.nd ⟨⟨op, nm, cmp, val, lo, hi⟩, a, cap⟩ ks : Ft) = tt := HTT.out
  clear hf HNO HSO hso htt
  gi_wp2_with fail
  refine ⟨trivial, (callsIn_wide.2 (HNN _).out).mono ?_⟩
  rintro e w5 ⟨rfl, rfl⟩
  clear x0 x1 x2 x3 x4 x5 x6 b0 htt2
  generalize (w2.alloc _).alloc _ = w4 at *
  gi_wp2_with fail
  have hq5 : Quiet w4 (w4.alloc (.cells (Ft.cells tt).toArray 28)) := (Alters.refl _).alloc _
  have hz5 : (w4.alloc (.cells (Ft.cells tt).toArray 28)).heap.size = w2.heap.size + 3 := by have := HZ4.out; simp; omega
  have HM5 := Go.Lib.hid (HM4.out.keep hq5 (by simp))
  have hseq := nodes1_seq (fun k => k < w.heap.size ∨ k = w4.heap.size) (fun k => k = w2.heap.size ∨ w2.heap.size + 3 ≤ k) w4.heap.size tt (w4.alloc (.cells (Ft.cells tt).toArray 28)) (fun k hk => by have := HZ4.out; have := HZ2.out; omega) (boxed_at (Blk.new w4 _ 28)) (.inr rfl) ((HIN.out.quiet hq5).mono (fun k _ hk => .inl hk)) (by have := HHZ.out; omega)
  have HSEQ := Go.Lib.hid hseq
  have HZ5 := Go.Lib.hid hz5
  have HPV2 := Go.Lib.hid (HPV.out ⟨w4.heap.size, 0, none⟩)
  have HPM2 := Go.Lib.hid (HPM.out ⟨w4.heap.size, 0, none⟩)
  have HLEN := Go.Lib.hid (vis_length ⟨w4.heap.size, 0, none⟩ 1 tt)
  clear hseq hz5 hq5 HM4 HAT HIN HPV HPM HNN
  generalize vis ⟨w4.heap.size, 0, none⟩ 1 tt = L at *
  generalize w4.alloc _ = w5 at *
  clear HQ4 HZ4
  generalize w4.heap.size = fb at *
  generalize w2.heap.size = mb at *
  refine wpIn_rangeN rfl (by omega) (gf := 129) (lb := #[.pointer (some ⟨fb, 0, none⟩)]) rfl trivial (enters_of Tryd.func129 (by kernel_rfl) rfl) (Z := fun k => k = mb ∨ mb + 3 ≤ k) (by rw [HZ5.out]; intro k hk; exact .inr hk) HSEQ.out (fun _ => rfl)
    (fun pre _ W => NmAt w mb pre W) (fun _ => False) (by simp) (fun s D A B hA hs => hs.keep hA (fun k hk h => by have := HZ5.out; omega)) HM5.out
    (fun x a' W => ∃ nb, a' = { tmps := #[.agg #[.int .i64 op, .string nm, .int .i64 cmp, .int .i64 val, .int .i64 lo, .int .i64 hi, .slice a ks.length cap], .pointer (some ⟨w.heap.size, 0, none⟩), .slice none 0 0, .pointer (some ⟨mb + 1, 0, none⟩), .pointer (some ⟨nb, 0, none⟩), undef, undef, .agg #[.int .i64 op, .string nm, .int .i64 cmp, .int .i64 val, .int .i64 lo, .int .i64 hi, .slice a ks.length cap], .bool true, .bool false, .map (some mb), .agg #[.int .i64 op, .string nm, .int .i64 cmp, .int .i64 val, .int .i64 lo, .int .i64 hi, .slice a ks.length cap], .func (.func 129) #[] #[.pointer (some ⟨fb, 0, none⟩)], .agg #[.int .i64 x.t.top.n.op, .string x.t.top.n.nm, .int .i64 x.t.top.n.cmp, .int .i64 x.t.top.n.val, .int .i64 x.t.top.n.lo, .int .i64 x.t.top.n.hi, .slice x.t.top.a x.t.kids.length x.t.top.cap], undef, undef, undef, undef, undef, undef, undef, undef, undef, undef, undef, undef, undef, undef, undef, undef, undef, undef, undef, undef], defers := [] } ∧ Blk W nb (Ft.cells x.t).toArray 28 ∧ mb + 3 ≤ nb)
    ?assign ?ax ?body ?done
  case assign =>
    intro l pre x rest D W K hL hI hlt hK
    unfold Ft.val
    gi_wp2
    exact hK _ _ ((Alters.refl _).alloc _) ⟨_, rfl, Blk.new W _ 28, by have := HZ5.out; omega⟩
  case ax =>
    rintro x a' W W' l hl ⟨r, hr⟩ hg ⟨nb, h1, h2, h3⟩
    refine ⟨nb, h1, ?_, h3⟩
    have hne : nb ≠ l := fun e => by
      subst e
      unfold Blk at h2
      rw [h2] at hr
      simp at hr
    exact (hg.block nb h2.lt (fun e => hne (Option.some.inj e))).trans h2
  case body =>
    rintro l pre x rest a' D W hL hlt hA ⟨nb, rfl, hb, hnb⟩ hD
    obtain ⟨d0, d1, d2, d3, d4, d5, d6⟩ := (boxed_at hb).seven
    have c3 := hA.cap.cell 0 rfl
    have HA := Go.Lib.hid hA
    have HL := Go.Lib.hid hL
    clear hA hL hb
    by_cases h3 : x.t.top.n.op = 3
    · have b3 : (x.t.top.n.op == 3) = true := by simpa using h3
      have H3 := Go.Lib.hid h3
      have HSZ : Hid (x.t.top.n.nm.size ≤ maxLen) := Go.Lib.hid (by
        have hw := HF.out _ (HPV2.out x (by rw [HL.out]; simp))
        rw [show Ft.pl x.t = .nd x.t.top.n (x.t.kids.map Ft.pl) by cases x.t; exact pl_nd _ _ _ _] at hw
        have := name_le (wrong_atom hw h3).2.2
        unfold maxLen
        omega)
      obtain ⟨D0, hmap, hok⟩ := HA.out.map
      have HOK := Go.Lib.hid hok
      have HMP := Go.Lib.hid hmap
      have HPL : Hid (pre.length < 1000) := Go.Lib.hid (by
        have h1 := congrArg List.length HL.out
        have h2 := HLEN.out
        have h4 := HHZ.out
        simp at h1
        omega)
      have HKEY : Hid (keyOf Tryd.prog 9 (.string x.t.top.n.nm) = some (.string x.t.top.n.nm.data.toList)) := Go.Lib.hid (WideMaps.keyOf_string_mk Tryd.underlying9 HSZ.out)
      have HVAL : Hid (plainElem (H := Unit) Tryd.prog 4 (.bool true) = some (.lit (.bool true), [])) := Go.Lib.hid (plainElem_bool Tryd.underlying4 true)
      have HPM9 : Hid (pre.length < maxLen) := Go.Lib.hid (by have := HPL.out; unfold maxLen; omega)
      clear h3 hok hmap
      gi_wp2_with (first | (gi_at_mapUpdate; refine wpListIn_mapUpdate_own _ rfl _ _ _ 103 rfl 9 4 law9 Tryd.underlying103 _ mb pre.length D0 rfl HMP.out HPM9.out _ _ _ rfl rfl HKEY.out _ [] HVAL.out ?_; intro w9 hown9 hgrow9; have HM9 := Go.Lib.hid hown9; have HG9 := Go.Lib.hid hgrow9; clear hown9 hgrow9) | gi_in)
      have hA9 : Alters (fun k => k = mb) W w9 := (Alters.refl W).grown HG9.out (fun k e _ => (Option.some.inj e).symm)
      refine ⟨hA9.mono (fun k _ e => .inr ⟨.inl e, by have := HZ5.out; omega⟩), fun _ => False, fun k h => h.elim, ⟨⟨_, by simpa using HM9.out, HOK.out.put H3.out⟩, hA9.blk HA.out.cap (by omega), HA.out.low, HA.out.quiet.then hA9 (fun i hi e => by have := HA.out.low; omega)⟩⟩
    · have b3 : (x.t.top.n.op == 3) = false := by simpa using h3
      obtain ⟨D0, hmap, hok⟩ := HA.out.map
      have HN9 : Hid (NmAt w mb (pre ++ [x]) W) := Go.Lib.hid ⟨⟨D0, hmap.mono (by simp), hok.skip h3⟩, HA.out.cap, HA.out.low, HA.out.quiet⟩
      clear h3 hok hmap
      gi_wp2_with fail
      exact ⟨Alters.refl _, fun _ => False, fun k h => h.elim, HN9.out⟩
  case done =>
    rintro d D W hd hA hDd hdef
    have HA := Go.Lib.hid hA
    have c3 := hA.cap.cell 0 rfl
    have HDF := Go.Lib.hid hdef
    obtain ⟨D0, hmap, hok⟩ := hA.map
    have HOK := Go.Lib.hid hok
    have HMP := Go.Lib.hid hmap
    clear hA hok hmap hdef
    gi_wp2_with (first | (gi_at_range; refine wpListIn_range_own _ rfl _ 103 rfl 9 4 law9 Tryd.underlying103 _ mb L.length D0 rfl HMP.out ?_; intro w6 hrg0 hg0 hs0; have HR0 := Go.Lib.hid hrg0; have HG0 := Go.Lib.hid hg0; have HS0 := Go.Lib.hid hs0; clear hrg0 hg0 hs0) | gi_in)
    go_frame
    have hwl : W.heap.size < w6.heap.size := by have := HS0.out; omega
    have HWL := Go.Lib.hid hwl
    have hdl : d < W.heap.size := (Array.getElem?_eq_some_iff.1 HDF.out).1
    have HDL := Go.Lib.hid hdl
    have hmbl : mb < W.heap.size := HMP.out.lt
    have HMBL := Go.Lib.hid hmbl
    have HSZD : Hid (Maps.size D0 ≤ 1000) := Go.Lib.hid (by
      have h1 := HMP.out.size_le
      have h2 := HLEN.out
      have h3 := HHZ.out
      omega)
    have HQ06 : Hid (Quiet W w6) := Go.Lib.hid ((Alters.refl W).grown HG0.out (fun k e _ => by cases e))
    have HD5 : Hid (w.heap.size ≤ d) := Go.Lib.hid (by have := HA.out.low; have := HZ5.out; omega)
    clear hwl hdl hmbl c3 hDd hd
    gi_loopw [5] (fun v wr => ∃ (left : Lit → Bool) (cnt : Nat) (ss : List Nm), wr.ranges Tryd.prog 9 (plainElem (H := Unit) Tryd.prog 4) mb W.heap.size L.length D0 left cnt ∧ ss.length + cnt ≤ Maps.size D0 ∧
        wr.ownsRow w6.heap.size 9 1 v ss.length (ss.map encStr) ∧ Collected D0 left ss ∧ Quiet W wr ∧ w6.heap.size ≤ wr.heap.size)
      (fun _ wr => wr.rangeLeft mb W.heap.size)
    case atStart => exact ⟨_, _, [], HR0.out, by simp, World.ownsRow_nil _ _ _ _, Collected.start D0, HQ06.out, Nat.le_refl _⟩
    case round =>
      obtain ⟨left, cnt, ss, hrg, hcs, hrow, hC, hqr, hsz6⟩ := hrel
      gi_wp2_with (first
        | (gi_at_next; refine wpListIn_next_ranges _ rfl _ rfl 9 law9 (plainElem (H := Unit) Tryd.prog 4) encStr (fun v : Value => v) (fun key kl hk => by obtain ⟨x, hx, _⟩ := Maps.keyOf_str Tryd.underlying9 hk; exact ⟨x, hx⟩) (fun v y _ => ⟨v, rfl⟩) mb W.heap.size L.length _ _ _ rfl hrg ?_ ?_)
        | gi_in)
      · intro hc0 hl0
        have HNAM : Hid (ss.mergeSort (fun x y => decide (x ≤ y)) = namesOf (Ft.pl tt)) := Go.Lib.hid (names_sorted HF.out hC.1 (fun x => by
          rw [hC.2 x, HOK.out.has x, hl0]
          simp [HPM2.out x]))
        have hll : ss.length ≤ 1000 := by have := HSZD.out; omega
        have HQR := Go.Lib.hid hqr
        have HDR : Hid (wr.heap[d]? = some (.deferred (some []))) := Go.Lib.hid ((hqr.block d HDL.out (by simp)).trans HDF.out)
        have HQW : Hid (Quiet w wr) := Go.Lib.hid (HA.out.quiet.trans hqr)
        have HS6 := Go.Lib.hid hsz6
        rcases hrow.2 with ⟨rfl, hn0⟩ | ⟨g, cap2, cur, rfl, hbase, hb, h1, h2, h3, h4⟩
        · obtain rfl : ss = [] := List.eq_nil_of_length_eq_zero hn0
          have HSO := Go.Lib.hid (Tryd.slices_Sort_string_none none 0 wr)
          clear hrow hC hcs hrg hqr hc0 hl0 hn0 hll hsz6
          gi_wp2_with fail
          refine ⟨trivial, (callsIn_wide.2 HSO.out).mono ?_⟩
          rintro e w9 ⟨rfl, rfl⟩
          gi_wp2_with fail
          refine ⟨by simp, .inl ⟨_, _, rfl, run_takeDeferred HDR.out, ?_⟩⟩
          have hA3 : Alters (fun k => k = d) w9 (w9.putObj d (.deferred none)) := alters_putObj _ _ _ rfl
          have hqq := HQW.out.then hA3 (fun i hi e => by have := HD5.out; omega)
          generalize w9.putObj d _ = W9 at *
          refine ⟨.slice none 0 0, by simp [results, Tryd.results43, go_sem], ?_⟩
          rw [← HNAM.out]
          exact ⟨none, 0, by simp, fun h => absurd (by simp) h, hqq⟩
        · have hH : Holds encStr wr g 0 ss.toArray := holds_of_block hb (by simpa using h4)
          have hgl : g < wr.heap.size := (Array.getElem?_eq_some_iff.1 hb).1
          have HSO := Go.Lib.hid (Tryd.slices_Sort_string g 0 cap2 ss wr hH hgl (by omega))
          have HB := Go.Lib.hid hb
          have HBA := Go.Lib.hid hbase
          have H1 := Go.Lib.hid h1
          have H2 := Go.Lib.hid h2
          have H3 := Go.Lib.hid h3
          clear hrow hC hcs hrg hqr hc0 hl0 hll hsz6 hH hgl hb hbase h1 h2 h3 h4
          gi_wp2_with fail
          refine ⟨trivial, (callsIn_wide.2 HSO.out).mono ?_⟩
          rintro e w9 ⟨rfl, nn, os, hw9⟩
          have hown9 : w9.ownsRow w6.heap.size 9 1 (.slice (some ⟨g, 0, none⟩) ss.length cap2) ss.length ((ss.mergeSort (fun x y => decide (x ≤ y))).map encStr) := by
            rw [hw9]
            exact ownsRow_sorted (by simp) HBA.out HB.out H1.out H2.out H3.out
          have hgr9 : wr.grownBy w9 (some g) := by rw [hw9]; exact grownBy_sorted _
          have hA9 : Alters (fun k => k = g) wr w9 := (Alters.refl wr).grown hgr9 (fun k e _ => (Option.some.inj e).symm)
          have hgd : g ≠ d := by have := HBA.out; have := HWL.out; have := HDL.out; omega
          have hgw : w.heap.size ≤ g := by have := HBA.out; have := HWL.out; have := HMBL.out; have := HA.out.low; omega
          have HD9 : Hid (w9.heap[d]? = some (.deferred (some []))) := Go.Lib.hid ((hA9.block d (Array.getElem?_eq_some_iff.1 HDR.out).1 (fun e => hgd e.symm)).trans HDR.out)
          have HQ9 := Go.Lib.hid (HQW.out.then hA9 (fun i hi e => by omega))
          have HST : Hid (StrsAt w9 (some ⟨g, 0, none⟩) (ss.mergeSort (fun x y => decide (x ≤ y)))) := Go.Lib.hid (StrsAt.of_row (c := cap2) (by
            have e : (ss.mergeSort (fun x y => decide (x ≤ y))).length = ss.length := by simp
            rw [e]
            exact hown9))
          have HGD := Go.Lib.hid hgd
          clear hw9 hown9 hgr9 hA9 hgd hgw
          gi_wp2_with fail
          refine ⟨by simp, .inl ⟨_, _, rfl, run_takeDeferred HD9.out, ?_⟩⟩
          have hA3 : Alters (fun k => k = d) w9 (w9.putObj d (.deferred none)) := alters_putObj _ _ _ rfl
          have hqq := HQ9.out.then hA3 (fun i hi e => by have := HD5.out; omega)
          have hst := HST.out.alter hA3 (fun b e1 e2 => by
            have : g = b := by simpa using e1
            exact HGD.out (this.trans e2))
          generalize w9.putObj d _ = W9 at *
          refine ⟨.slice (some ⟨g, 0, none⟩) ss.length cap2, by simp [results, Tryd.results43, go_sem], ?_⟩
          rw [← HNAM.out]
          exact ⟨_, cap2, by simp, hst, hqq⟩
      · intro x c kl yd yp w8 cnt2 hkey hlk hv hat hrg2 hlt hg2 hs2 hen
        obtain ⟨x', ex, rfl, -⟩ := Maps.keyOf_str Tryd.underlying9 hkey
        obtain rfl : x = x' := encStr_inj ex
        have hrow2 := hrow.kept hg2 (Or.inr (row_ne_iter hrow hrg).symm)
        have hbs : w6.heap.size ≤ (w8.alloc (.cells #[encStr x] 9)).heap.size := by simp; omega
        have hll : ss.length < 1000 := by have := HSZD.out; omega
        have HC := Go.Lib.hid (hC.step hlk hat)
        have HG2 := Go.Lib.hid hg2
        have HRG2 := Go.Lib.hid hrg2
        have HRG := Go.Lib.hid hrg
        have HR2 := Go.Lib.hid hrow2
        have HBS := Go.Lib.hid hbs
        have HQR := Go.Lib.hid hqr
        have HLT := Go.Lib.hid hlt
        have HCS := Go.Lib.hid hcs
        have HS6 := Go.Lib.hid (show w6.heap.size ≤ w8.heap.size by omega)
        clear hs2 hC hlk hat hg2 hrg2 hrow2 hbs hqr hlt hcs hrow hkey hv ex hsz6 hrg
        gi_wp2_with (first
          | (gi_at_builtin; refine wpListIn_append_own _ rfl _ _ 52 rfl w6.heap.size 9 i9 (.string ⟨#[]⟩) 1 16 Tryd.underlying52 hi9 hz9 hs9 hb9 rfl (by decide) _ _ _ rfl (HR2.out.alloc _) ⟨w8.heap.size, 0, none⟩ 1 1 [encStr x] rfl rfl (cell_one_new _ _ _) (by simp [Value.oneCell', encStr]) (by unfold maxLen at *; omega) (by omega) HBS.out ?_; intro v' w9 hown' hg3 hnil3; go_frame)
          | gi_in)
        have hrg3 := (HRG2.out.alloc _).kept hg3 (row_ne_low HR2.out (b := mb) (by have := HMBL.out; have := HWL.out; omega)) (row_ne_iter HR2.out HRG2.out)
        go_roundw
        case rel =>
          refine ⟨_, cnt2, ss ++ [x], hrg3, by have := HCS.out; have := HLT.out; simp; omega, by simpa using hown', HC.out, ?_, by have := hg3.size; have := HBS.out; omega⟩
          have h8 : Quiet W w8 := HQR.out.then ((Alters.refl (p := fun k => k = W.heap.size) _).grown HG2.out (fun k e _ => (Option.some.inj e).symm)) (fun i hi e => by omega)
          exact (h8.alloc _).then ((Alters.refl _).grown hg3 (fun k e _ => e)) (fun i hi e => by have := (HR2.out.lt i e).1; have := HWL.out; omega)
        case measure => rw [hrg3.left_eq, HRG.out.left_eq]; exact HLT.out
end Go.Proofs.YtnpcakakjhiboaaDoor
