/- A formula built anew as the model has it. No condition. The law's small makers of formulas. No condition. -/
import Derived.Test.YtnpcakakjhiboaaDoorMem
import Derived.Deep.AppendLies
import Derived.Deep.RegionLaw
namespace Go.Proofs.YtnpcakakjhiboaaDoor
open Go.RowKit Go.Lo Go.WideShapes

theorem info33 : (Tryd.prog.info? 33).map (fun i => (i.zero, i.size, i.bytes)) = some (some (.agg #[.int .i64 0, .string ⟨#[]⟩, .int .i64 0, .int .i64 0, .int .i64 0, .int .i64 0, .slice none 0 0]), 7, 80) := by kernel_rfl

/-- How it stands while the kids are built. -/
structure PlainAt (w : World) (n : Nd) (a : Option Addr) (cap : Nat) (ks : List Ft) (k : Nat) (v : Value) (T : List Ft) (wr : World) : Prop where
  len : T.length = k
  pls : T.map Ft.pl = (ks.take k).map Ft.pl
  row : FRow (fun j => w.heap.size + 3 ≤ j) wr (w.heap.size + 3) 33 v T
  box : Blk wr w.heap.size #[.int .i64 n.op, .string n.nm, .int .i64 n.cmp, .int .i64 n.val, .int .i64 n.lo, .int .i64 n.hi, .slice a ks.length cap] 28
  res : Blk wr (w.heap.size + 1) #[.int .i64 0, .string ⟨#[]⟩, .int .i64 0, .int .i64 0, .int .i64 0, .int .i64 0, .slice none 0 0] 33
  out : Blk wr (w.heap.size + 1 + 1) #[.int .i64 n.op, .string n.nm, .int .i64 n.cmp, .int .i64 n.val, .int .i64 n.lo, .int .i64 n.hi, v] 33
  quiet : Quiet w wr

theorem PlainAt.step {w wr w3 w4 : World} {n : Nd} {a : Option Addr} {cap k g cp : Nat} {ks T : List Ft} {v : Value} {kk t' : Ft} {o : Obj} (h : PlainAt w n a cap ks k v T wr) (hq3 : Quiet wr w3) (hin : In (fun j => wr.heap.size ≤ j) w3 t') (hpl : Ft.pl t' = Ft.pl kk)
    (hk : ks.drop k = kk :: ks.drop (k + 1)) (hown : w4.ownsRow (w.heap.size + 3) 33 7 (.slice (some ⟨g, 0, none⟩) (T.length + 1) cp) (T.length + 1) (T.flatMap Ft.cells ++ Ft.cells t')) (hgrow : (w3.alloc o).grownBy w4 v.ownBlock) (hat : v.ownBlock = some g ∨ g = w3.heap.size + 1) :
    Blk w4 (w.heap.size + 1 + 1) #[.int .i64 n.op, .string n.nm, .int .i64 n.cmp, .int .i64 n.val, .int .i64 n.lo, .int .i64 n.hi, v] 33 ∧
      PlainAt w n a cap ks (k + 1) (.slice (some ⟨g, 0, none⟩) (T.length + 1) cp) (T ++ [t']) (w4.setCell ⟨w.heap.size + 1 + 1, 6, none⟩ (.slice (some ⟨g, 0, none⟩) (T.length + 1) cp)) := by
  have hqa : Quiet wr (w3.alloc o) := hq3.alloc _
  have hA : Alters (fun j => v.ownBlock = some j) wr w4 := (hqa.to (p := fun j => v.ownBlock = some j)).grown hgrow (fun j e _ => e)
  have hx := h.out.lt
  have hv : ∀ j, v.ownBlock = some j → w.heap.size + 3 ≤ j ∧ j < wr.heap.size := fun j e => h.row.1.lt j e
  have hz := hq3.size
  have hgl := hown.lt g rfl
  have n1 : ¬ v.ownBlock = some (w.heap.size + 1 + 1) := fun e => by have := (hv _ e).1; omega
  have n2 : ¬ v.ownBlock = some (w.heap.size + 1) := fun e => by have := (hv _ e).1; omega
  have n3 : ¬ v.ownBlock = some w.heap.size := fun e => by have := (hv _ e).1; omega
  have hrow := FRow.push (h.row.quiet hqa) hown hgrow (hat.imp_right (fun e => by simp; omega)) ((hin.quiet ((Alters.refl _).alloc o)).mono (fun j _ hj => ⟨by omega, fun e => by have := (hv _ e).2; omega⟩))
  have b0 := hA.blk h.out n1
  have hs : Alters (fun j => j = w.heap.size + 1 + 1) w4 (w4.setCell ⟨w.heap.size + 1 + 1, 6, none⟩ (.slice (some ⟨g, 0, none⟩) (T.length + 1) cp)) := (Alters.refl (p := fun j => j = w.heap.size + 1 + 1) w4).set (q := ⟨w.heap.size + 1 + 1, 6, none⟩) (fun _ => rfl) _
  have hl : k < ks.length := by
    rcases Nat.lt_or_ge k ks.length with h | h
    · exact h
    · rw [List.drop_eq_nil_of_le h] at hk; cases hk
  have hkk : ks[k] = kk := by
    rw [List.drop_eq_getElem_cons hl] at hk
    exact (List.cons.inj hk).1
  refine ⟨b0, ⟨by simp [h.len], ?_, ?_, hs.blk (hA.blk h.box n3) (by omega), hs.blk (hA.blk h.res n2) (by omega), b0.set 6 _, (h.quiet.then hA (fun i hi e => by have := (hv _ e).1; omega)).then hs (fun i hi e => by omega)⟩⟩
  · rw [List.map_append, h.pls, List.take_succ_eq_append_getElem hl, List.map_append, hkk]
    simp [hpl]
  · have := hrow.keep hs (fun j e e2 => by have : g = j := by simpa [Value.ownBlock] using e
                                           omega) (fun j hj _ _ e2 => by omega)
    simpa using this

set_option maxRecDepth 100000 in
set_option maxHeartbeats 4000000 in
theorem plain_any (D : Nat → Prop) (t : Ft) : t.size ≤ 1000 → ∀ (w : World), In D w t → Calls Tryd.prog 25 #[t.val] w (Built t.pl w) := by
  induction t using Tr.ind with
  | h x ks ih =>
    intro hsz w hin
    obtain ⟨⟨op, nm, cmp, val, lo, hi⟩, a, cap⟩ := x
    have hl : ks.length ≤ 1000 := by have := Tr.kids_le ks; simp only [Tr.size] at hsz; omega
    have HI := Go.Lib.hid hin
    have HIH := Go.Lib.hid ih
    have HSZ := Go.Lib.hid hsz
    clear hin ih hsz
    unfold Ft.val
    simp only [Tr.top, Tr.kids]
    go_enter Tryd.func25, Tryd.ntmps25
    go_wp2
    have R0 : PlainAt w ⟨op, nm, cmp, val, lo, hi⟩ a cap ks 0 (.slice none 0 0) [] (((w.alloc (.cells #[.int .i64 op, .string nm, .int .i64 cmp, .int .i64 val, .int .i64 lo, .int .i64 hi, .slice a ks.length cap] 28)).alloc (.cells #[.int .i64 0, .string ⟨#[]⟩, .int .i64 0, .int .i64 0, .int .i64 0, .int .i64 0, .slice none 0 0] 33)).alloc (.cells #[.int .i64 op, .string nm, .int .i64 cmp, .int .i64 val, .int .i64 lo, .int .i64 hi, .slice none 0 0] 33)) := by
      refine ⟨rfl, rfl, FRow.nil _ _ _ _, ((Blk.new _ _ _).alloc _).alloc _, ?_, ?_, (((Alters.refl _).alloc _).alloc _).alloc _⟩
      · have := (Blk.new (w.alloc (.cells #[.int .i64 op, .string nm, .int .i64 cmp, .int .i64 val, .int .i64 lo, .int .i64 hi, .slice a ks.length cap] 28)) #[.int .i64 0, .string ⟨#[]⟩, .int .i64 0, .int .i64 0, .int .i64 0, .int .i64 0, .slice none 0 0] 33).alloc (.cells #[.int .i64 op, .string nm, .int .i64 cmp, .int .i64 val, .int .i64 lo, .int .i64 hi, .slice none 0 0] 33)
        simpa using this
      · have := Blk.new ((w.alloc (.cells #[.int .i64 op, .string nm, .int .i64 cmp, .int .i64 val, .int .i64 lo, .int .i64 hi, .slice a ks.length cap] 28)).alloc (.cells #[.int .i64 0, .string ⟨#[]⟩, .int .i64 0, .int .i64 0, .int .i64 0, .int .i64 0, .slice none 0 0] 33)) #[.int .i64 op, .string nm, .int .i64 cmp, .int .i64 val, .int .i64 lo, .int .i64 hi, .slice none 0 0] 33
        simpa using this
    generalize ((w.alloc _).alloc _).alloc _ = w1 at *
    go_loopw [4] (fun i wr => ∃ (k : Nat) (v : Value) (T : List Ft), k ≤ ks.length ∧ i = .int .i64 k ∧ PlainAt w ⟨op, nm, cmp, val, lo, hi⟩ a cap ks k v T wr) (fun i _ => ks.length - (intOf i).toNat)
    case atStart => exact ⟨0, _, [], Nat.zero_le _, rfl, R0⟩
    case round =>
      clear R0
      obtain ⟨k, v, T, hk, rfl, hR⟩ := hrel
      have c6 := hR.box.cell 6 rfl
      have x0 := hR.out.cell 0 rfl
      have x1 := hR.out.cell 1 rfl
      have x2 := hR.out.cell 2 rfl
      have x3 := hR.out.cell 3 rfl
      have x4 := hR.out.cell 4 rfl
      have x5 := hR.out.cell 5 rfl
      have x6 := hR.out.cell 6 rfl
      have fx := fun i => hR.out.free i
      have HR := Go.Lib.hid hR
      clear hR
      by_cases hlt : k < ks.length
      · have hne : ks ≠ [] := fun h => by subst h; simp at hlt
        obtain ⟨b, o, rfl, hD, hc⟩ := HI.out.fs hne
        obtain ⟨d0, d1, d2, d3, d4, d5, d6⟩ := (((hc k ks[k] (by simp [Tr.kids, hlt]))).keep HR.out.quiet (by simp)).seven
        have hks : ks[k].size ≤ 1000 := by have := Tr.size_kid (k := ks[k]) (ks := ks) (by simp); have := HSZ.out; simp only [Tr.size] at this; omega
        have hin2 := (HI.out.kid (k := ks[k]) (by simp [Tr.kids]))
        have HK : Hid (∀ w2, Quiet wr w2 → Calls Tryd.prog 25 #[Ft.val ks[k]] w2 (Built (Ft.pl ks[k]) w2)) := fun w2 hq => HIH.out ks[k] (by simp) hks w2 ((hin2.quiet HR.out.quiet).quiet hq)
        clear hc hD
        unfold Ft.val at HK
        have HE := Go.Lib.hid (leftL_drop ks k hlt)
        generalize ks[k] = kk at *
        obtain ⟨i0, hi0, hz0, hz1, hz2⟩ := info_parts info33
        go_wp2_with fail
        go_region_law (first
          | (refine step_append_lies (w := w3.alloc (.cells #[.int .i64 t'.top.n.op, .string t'.top.n.nm, .int .i64 t'.top.n.cmp, .int .i64 t'.top.n.val, .int .i64 t'.top.n.lo, .int .i64 t'.top.n.hi, .slice t'.top.a t'.kids.length t'.top.cap] 33)) rfl (.tmp 31) (.tmp 38) 31 rfl (w.heap.size + 3) 33 i0 _ 7 80 Tryd.underlying31 hi0 hz0 hz1 hz2 rfl (by decide) v T.length (T.flatMap Ft.cells) (by simp [Act.eval]) RR.out.1 ⟨w3.heap.size, 0, none⟩ 1 1 (Ft.cells t') (by simp [Act.eval]) rfl HNW.out (cells_one t') (by omega) HLN.out.1 HLN.out.2.1 HLN.out.2.2 (w3.heap.size + 1) (by simp) ?_; intro g cp w4 hown hgrow hat hlt4; obtain ⟨hb4, hP4⟩ := HR.out.step Q3.out HIN.out HPL.out HE.out hown hgrow hat; have HP4 := Go.Lib.hid hP4; have z6 := hb4.cell 6 rfl; have f6 := fun i => hb4.free i; clear hb4 hP4 hown hgrow hat hlt4)
          | (go_simp; go_at_call 25; refine (HK.out _ (by with_reducible exact (Alters.refl _).drew)).mono ?_; rintro e w3 ⟨t', rfl, hpl, hin3, hq3⟩; unfold Ft.val; have Q3 : Hid (Quiet wr w3) := ((Alters.refl wr).drew).trans hq3; have HIN : Hid (In (fun j => wr.heap.size ≤ j) w3 t') := hin3; have HPL := Go.Lib.hid hpl; have y6 := Q3.out.cell x6 (by simp); have y7 := ((Alters.refl (p := fun _ => False) w3).alloc (.cells #[.int .i64 t'.top.n.op, .string t'.top.n.nm, .int .i64 t'.top.n.cmp, .int .i64 t'.top.n.val, .int .i64 t'.top.n.lo, .int .i64 t'.top.n.hi, .slice t'.top.a t'.kids.length t'.top.cap] 33)).cell y6 (by simp);
             have RR := Go.Lib.hid ((HR.out.row.quiet Q3.out).quiet ((Alters.refl _).alloc (.cells #[.int .i64 t'.top.n.op, .string t'.top.n.nm, .int .i64 t'.top.n.cmp, .int .i64 t'.top.n.val, .int .i64 t'.top.n.lo, .int .i64 t'.top.n.hi, .slice t'.top.a t'.kids.length t'.top.cap] 33)));
             have HNW : Hid (∀ j u, (Ft.cells t')[j]? = some u → (w3.alloc (.cells #[.int .i64 t'.top.n.op, .string t'.top.n.nm, .int .i64 t'.top.n.cmp, .int .i64 t'.top.n.val, .int .i64 t'.top.n.lo, .int .i64 t'.top.n.hi, .slice t'.top.a t'.kids.length t'.top.cap] 33)).cell? ((⟨w3.heap.size, 0, none⟩ : Addr).add j) = some u) := World.news_of_block (Blk.new w3 _ 33);
             have HLN : Hid (T.length + 1 ≤ maxLen ∧ (T.length + 1) * 80 ≤ 140737488355328 ∧ w.heap.size + 3 ≤ (w3.alloc (.cells #[.int .i64 t'.top.n.op, .string t'.top.n.nm, .int .i64 t'.top.n.cmp, .int .i64 t'.top.n.val, .int .i64 t'.top.n.lo, .int .i64 t'.top.n.hi, .slice t'.top.a t'.kids.length t'.top.cap] 33)).heap.size) := ⟨by have := HR.out.len; unfold maxLen; omega, by have := HR.out.len; omega, by have := HR.out.out.lt; have := Q3.out.size; simp; omega⟩;
             clear hpl hin3 hq3))
        all_goals
          clear z6 f6 y6 y7 d0 d1 d2 d3 d4 d5 d6 x0 x1 x2 x3 x4 x5 x6 fx RR HNW HLN HIN HPL Q3
          go_wp2
          go_roundw
          case rel => exact ⟨k + 1, _, _, by omega, by go_num, HP4.out⟩
          case measure => simp [intOf]; omega
      · obtain rfl : k = ks.length := by omega
        obtain ⟨A, c, rfl⟩ := HR.out.row.form
        have r0 := HR.out.res.cell 0 rfl
        have r1 := HR.out.res.cell 1 rfl
        have r2 := HR.out.res.cell 2 rfl
        have r3 := HR.out.res.cell 3 rfl
        have r4 := HR.out.res.cell 4 rfl
        have r5 := HR.out.res.cell 5 rfl
        have r6 := HR.out.res.cell 6 rfl
        have fr := fun i => HR.out.res.free i
        go_wp2
        have hs := set7 wr (w.heap.size + 1) (.int .i64 op) (.string nm) (.int .i64 cmp) (.int .i64 val) (.int .i64 lo) (.int .i64 hi) (.slice A T.length c)
        refine bodyPost_ret (v := Ft.val (.nd ⟨⟨op, nm, cmp, val, lo, hi⟩, A, c⟩ T)) (by simp [results, Tryd.results25, go_sem, Ft.val, Tr.top, Tr.kids, r0, r1, r2, r3, r4, r5, r6]) rfl ⟨_, rfl, ?_, ?_, HR.out.quiet.then hs (fun i hi e => by omega)⟩
        · have := HR.out.pls
          rw [List.take_length] at this
          simp [Ft.pl, Tr.map, Tr.mapL_eq]
          exact this
        · exact (HR.out.row.keep hs (fun k hk e => by have := (HR.out.row.1.lt k hk).1; omega) (fun k hk _ _ e => by omega)).node _ (by have := HR.out.len; unfold maxLen; omega) (fun k hk => by omega) (fun k hk => by omega)
end Go.Proofs.YtnpcakakjhiboaaDoor

namespace Go.Proofs.YtnpcakakjhiboaaDoor
open Go.RowKit Go.Lo Go.WideShapes

set_option maxRecDepth 100000 in
set_option maxHeartbeats 2000000 in
theorem name_v (D : Nat → Prop) (s : ByteArray) (w : World) : Calls Tryd.prog 72 #[.string s] w (Gives D (.nd { z0 with op := 3, nm := s } []) w) := by
  go_enter Tryd.func72, Tryd.ntmps72
  go_wp2
  exact bodyPost_ret (v := Ft.val (.nd ⟨{ z0 with op := 3, nm := s }, none, 0⟩ [])) (by simp [results, Tryd.results72, go_sem, Ft.val, Tr.top, Tr.kids, z0]) rfl ⟨_, rfl, ⟨_, rfl, by rw [pl_nd]; rfl, In.leaf _ _ _⟩, (Alters.refl _).alloc _⟩

set_option maxRecDepth 100000 in
set_option maxHeartbeats 2000000 in
theorem one_v {D : Nat → Prop} {f : Fm} {v : Value} {w : World} (op lo hi : Int) (hD : ∀ k, w.heap.size ≤ k → D k) (h : MadeIn D f v w) : Calls Tryd.prog 35 #[.int .i64 op, .agg #[.int .i64 lo, .int .i64 hi], v] w (Gives D (.nd { z0 with op := op, lo := lo, hi := hi } [f]) w) := by
  obtain ⟨X, rfl, hp, hi'⟩ := h
  have HX := Go.Lib.hid hi'
  unfold Ft.val
  go_enter Tryd.func35, Tryd.ntmps35
  go_wp2
  have hk : Blk ((((w.alloc (.cells #[.int .i64 lo, .int .i64 hi] 25)).alloc (.cells #[.int .i64 X.top.n.op, .string X.top.n.nm, .int .i64 X.top.n.cmp, .int .i64 X.top.n.val, .int .i64 X.top.n.lo, .int .i64 X.top.n.hi, .slice X.top.a X.kids.length X.top.cap] 28)).alloc (.cells #[.int .i64 op, .string ⟨#[]⟩, .int .i64 0, .int .i64 0, .int .i64 lo, .int .i64 hi, .slice (some ⟨w.heap.size + 1 + 1 + 1, 0, none⟩) 1 1] 28)).alloc (.cells #[.int .i64 X.top.n.op, .string X.top.n.nm, .int .i64 X.top.n.cmp, .int .i64 X.top.n.val, .int .i64 X.top.n.lo, .int .i64 X.top.n.hi, .slice X.top.a X.kids.length X.top.cap] 28)) (w.heap.size + 1 + 1 + 1) ([X].flatMap Ft.cells).toArray 28 := alloc4 _ _ _ _ _ _
  have hq : Quiet w ((((w.alloc (.cells #[.int .i64 lo, .int .i64 hi] 25)).alloc (.cells #[.int .i64 X.top.n.op, .string X.top.n.nm, .int .i64 X.top.n.cmp, .int .i64 X.top.n.val, .int .i64 X.top.n.lo, .int .i64 X.top.n.hi, .slice X.top.a X.kids.length X.top.cap] 28)).alloc (.cells #[.int .i64 op, .string ⟨#[]⟩, .int .i64 0, .int .i64 0, .int .i64 lo, .int .i64 hi, .slice (some ⟨w.heap.size + 1 + 1 + 1, 0, none⟩) 1 1] 28)).alloc (.cells #[.int .i64 X.top.n.op, .string X.top.n.nm, .int .i64 X.top.n.cmp, .int .i64 X.top.n.val, .int .i64 X.top.n.lo, .int .i64 X.top.n.hi, .slice X.top.a X.kids.length X.top.cap] 28)) := ((((Alters.refl _).alloc _).alloc _).alloc _).alloc _
  have hin := In.made (n := { z0 with op := op, lo := lo, hi := hi }) (c := 1) (T := [X]) hk (by simp [maxLen]) (fun t ht => by
    obtain rfl : t = X := by simpa using ht
    exact HX.out) hq (by omega)
  exact bodyPost_ret (v := Ft.val (.nd ⟨{ z0 with op := op, lo := lo, hi := hi }, some ⟨w.heap.size + 1 + 1 + 1, 0, none⟩, 1⟩ [X])) (by simp [results, Tryd.results35, go_sem, Ft.val, Tr.top, Tr.kids, z0]) rfl ⟨_, rfl, ⟨_, rfl, by rw [pl_nd, ← hp]; rfl, hin.mono (fun k _ h => h.elim (fun h => h) (fun h => hD k h))⟩, hq⟩

set_option maxRecDepth 100000 in
set_option maxHeartbeats 2000000 in
theorem two_v {D : Nat → Prop} {f g : Fm} {v u : Value} {w : World} (op lo hi : Int) (hD : ∀ k, w.heap.size ≤ k → D k) (h : MadeIn D f v w) (h2 : MadeIn D g u w) : Calls Tryd.prog 36 #[.int .i64 op, .agg #[.int .i64 lo, .int .i64 hi], v, u] w (Gives D (.nd { z0 with op := op, lo := lo, hi := hi } [f, g]) w) := by
  obtain ⟨X, rfl, hp, hi'⟩ := h
  obtain ⟨Y, rfl, hp2, hi2⟩ := h2
  have HX := Go.Lib.hid hi'
  have HY := Go.Lib.hid hi2
  unfold Ft.val
  go_enter Tryd.func36, Tryd.ntmps36
  go_wp2
  have hk : Blk (((((w.alloc (.cells #[.int .i64 lo, .int .i64 hi] 25)).alloc (.cells #[.int .i64 X.top.n.op, .string X.top.n.nm, .int .i64 X.top.n.cmp, .int .i64 X.top.n.val, .int .i64 X.top.n.lo, .int .i64 X.top.n.hi, .slice X.top.a X.kids.length X.top.cap] 28)).alloc (.cells #[.int .i64 Y.top.n.op, .string Y.top.n.nm, .int .i64 Y.top.n.cmp, .int .i64 Y.top.n.val, .int .i64 Y.top.n.lo, .int .i64 Y.top.n.hi, .slice Y.top.a Y.kids.length Y.top.cap] 28)).alloc (.cells #[.int .i64 op, .string ⟨#[]⟩, .int .i64 0, .int .i64 0, .int .i64 lo, .int .i64 hi, .slice (some ⟨w.heap.size + 1 + 1 + 1 + 1, 0, none⟩) 2 2] 28)).alloc (.cells #[.int .i64 X.top.n.op, .string X.top.n.nm, .int .i64 X.top.n.cmp, .int .i64 X.top.n.val, .int .i64 X.top.n.lo, .int .i64 X.top.n.hi, .slice X.top.a X.kids.length X.top.cap, .int .i64 Y.top.n.op, .string Y.top.n.nm, .int .i64 Y.top.n.cmp, .int .i64 Y.top.n.val, .int .i64 Y.top.n.lo, .int .i64 Y.top.n.hi, .slice Y.top.a Y.kids.length Y.top.cap] 28)) (w.heap.size + 1 + 1 + 1 + 1) ([X, Y].flatMap Ft.cells).toArray 28 := by
    have := Blk.new ((((w.alloc (.cells #[.int .i64 lo, .int .i64 hi] 25)).alloc (.cells #[.int .i64 X.top.n.op, .string X.top.n.nm, .int .i64 X.top.n.cmp, .int .i64 X.top.n.val, .int .i64 X.top.n.lo, .int .i64 X.top.n.hi, .slice X.top.a X.kids.length X.top.cap] 28)).alloc (.cells #[.int .i64 Y.top.n.op, .string Y.top.n.nm, .int .i64 Y.top.n.cmp, .int .i64 Y.top.n.val, .int .i64 Y.top.n.lo, .int .i64 Y.top.n.hi, .slice Y.top.a Y.kids.length Y.top.cap] 28)).alloc (.cells #[.int .i64 op, .string ⟨#[]⟩, .int .i64 0, .int .i64 0, .int .i64 lo, .int .i64 hi, .slice (some ⟨w.heap.size + 1 + 1 + 1 + 1, 0, none⟩) 2 2] 28)) #[.int .i64 X.top.n.op, .string X.top.n.nm, .int .i64 X.top.n.cmp, .int .i64 X.top.n.val, .int .i64 X.top.n.lo, .int .i64 X.top.n.hi, .slice X.top.a X.kids.length X.top.cap, .int .i64 Y.top.n.op, .string Y.top.n.nm, .int .i64 Y.top.n.cmp, .int .i64 Y.top.n.val, .int .i64 Y.top.n.lo, .int .i64 Y.top.n.hi, .slice Y.top.a Y.kids.length Y.top.cap] 28
    simp only [World.size_alloc] at this
    exact this
  have hq : Quiet w (((((w.alloc (.cells #[.int .i64 lo, .int .i64 hi] 25)).alloc (.cells #[.int .i64 X.top.n.op, .string X.top.n.nm, .int .i64 X.top.n.cmp, .int .i64 X.top.n.val, .int .i64 X.top.n.lo, .int .i64 X.top.n.hi, .slice X.top.a X.kids.length X.top.cap] 28)).alloc (.cells #[.int .i64 Y.top.n.op, .string Y.top.n.nm, .int .i64 Y.top.n.cmp, .int .i64 Y.top.n.val, .int .i64 Y.top.n.lo, .int .i64 Y.top.n.hi, .slice Y.top.a Y.kids.length Y.top.cap] 28)).alloc (.cells #[.int .i64 op, .string ⟨#[]⟩, .int .i64 0, .int .i64 0, .int .i64 lo, .int .i64 hi, .slice (some ⟨w.heap.size + 1 + 1 + 1 + 1, 0, none⟩) 2 2] 28)).alloc (.cells #[.int .i64 X.top.n.op, .string X.top.n.nm, .int .i64 X.top.n.cmp, .int .i64 X.top.n.val, .int .i64 X.top.n.lo, .int .i64 X.top.n.hi, .slice X.top.a X.kids.length X.top.cap, .int .i64 Y.top.n.op, .string Y.top.n.nm, .int .i64 Y.top.n.cmp, .int .i64 Y.top.n.val, .int .i64 Y.top.n.lo, .int .i64 Y.top.n.hi, .slice Y.top.a Y.kids.length Y.top.cap] 28)) := (((((Alters.refl _).alloc _).alloc _).alloc _).alloc _).alloc _
  have hin := In.made (n := { z0 with op := op, lo := lo, hi := hi }) (c := 2) (T := [X, Y]) hk (by simp [maxLen]) (fun t ht => by
    simp only [List.mem_cons, List.not_mem_nil, or_false] at ht
    rcases ht with rfl | rfl
    · exact HX.out
    · exact HY.out) hq (by omega)
  exact bodyPost_ret (v := Ft.val (.nd ⟨{ z0 with op := op, lo := lo, hi := hi }, some ⟨w.heap.size + 1 + 1 + 1 + 1, 0, none⟩, 2⟩ [X, Y])) (by simp [results, Tryd.results36, go_sem, Ft.val, Tr.top, Tr.kids, z0]) rfl ⟨_, rfl, ⟨_, rfl, by rw [pl_nd, ← hp, ← hp2]; rfl, hin.mono (fun k _ h => h.elim (fun h => h) (fun h => hD k h))⟩, hq⟩
end Go.Proofs.YtnpcakakjhiboaaDoor
