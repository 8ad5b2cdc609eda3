/- Walks of the small functions of law 13. No condition. -/
import Derived.Test.YtnpcakakjhiboaaDoorPlain
import Derived.Test.YtnpcakakjhiboaaDoorUpward
namespace Go.Proofs.YtnpcakakjhiboaaDoor
open Go.RowKit Go.Lo Go.WideShapes

set_option maxHeartbeats 1000000 in
theorem left_any13 (D : Nat → Prop) (t : Ft) : ∀ (n : Int) (w : World), In D w t → n ≤ 1000 → Calls Tryd.prog 46 #[t.val, .int .i64 n] w (Said (.int .i64 (leftF t.pl n)) w) := by
  induction t using Tr.ind with
  | h x ks ih =>
    intro n w hin hn
    obtain ⟨⟨op, nm, cmp, val, lo, hi⟩, a, cap⟩ := x
    have hl := hin.len
    have HI := Go.Lib.hid hin
    have HIH := Go.Lib.hid ih
    unfold maxLen at hl
    clear hin ih
    simp only [Tr.kids] at hl
    have hv : leftF (Ft.pl (.nd ⟨⟨op, nm, cmp, val, lo, hi⟩, a, cap⟩ ks)) n = if n ≤ 0 ∨ 40 < nm.size then 0 else leftL (ks.map Ft.pl) (n - 1) := by
      simp [Ft.pl, Tr.map, Tr.mapL_eq, leftF]; rfl
    have HV := Go.Lib.hid hv
    clear hv
    unfold Ft.val
    simp only [Tr.top, Tr.kids]
    go_enter Tryd.func46, Tryd.ntmps46
    by_cases h0 : n ≤ 0
    · have e : leftF (Ft.pl (.nd ⟨⟨op, nm, cmp, val, lo, hi⟩, a, cap⟩ ks)) n = 0 := by rw [HV.out, if_pos (.inl h0)]
      rw [e]
      clear e
      go_wp2
      go_ret
      exact ⟨rfl, (Alters.refl _).alloc _⟩
    · by_cases h1 : 40 < nm.size
      · have e : leftF (Ft.pl (.nd ⟨⟨op, nm, cmp, val, lo, hi⟩, a, cap⟩ ks)) n = 0 := by rw [HV.out, if_pos (.inr h1)]
        rw [e]
        clear e
        go_wp2
        go_ret
        exact ⟨rfl, (Alters.refl _).alloc _⟩
      · have e : leftF (Ft.pl (.nd ⟨⟨op, nm, cmp, val, lo, hi⟩, a, cap⟩ ks)) n = leftL (ks.map Ft.pl) (n - 1) := by rw [HV.out, if_neg (by omega)]
        rw [e]
        clear e HV
        have hB := Blk.new w #[.int .i64 op, .string nm, .int .i64 cmp, .int .i64 val, .int .i64 lo, .int .i64 hi, .slice a ks.length cap] 28
        have hq : Quiet w (w.alloc (.cells #[.int .i64 op, .string nm, .int .i64 cmp, .int .i64 val, .int .i64 lo, .int .i64 hi, .slice a ks.length cap] 28)) := (Alters.refl _).alloc _
        go_wp2
        generalize w.alloc _ = w1 at *
        go_loopw [5, 6] (fun m i wr => ∃ (k : Nat) (mm : Int), k ≤ ks.length ∧ i = .int .i64 k ∧ m = .int .i64 mm ∧ mm ≤ 1000 ∧ leftL ((ks.drop k).map Ft.pl) mm = leftL (ks.map Ft.pl) (n - 1) ∧ Quiet w1 wr) (fun _ i _ => ks.length - (intOf i).toNat)
        case atStart => exact ⟨0, n - 1, Nat.zero_le _, rfl, rfl, by omega, rfl, Alters.refl _⟩
        case round =>
          obtain ⟨k, mm, hk, rfl, rfl, hmm, hL, hQ⟩ := hrel
          have HL := Go.Lib.hid hL
          have HQ := Go.Lib.hid hQ
          have c6 : wr.cell? ⟨w.heap.size, 6, none⟩ = some (.slice a ks.length cap) := hQ.cell (hB.cell 6 rfl) (by simp)
          clear hL hQ
          by_cases hlt : k < ks.length
          · by_cases hm : 0 < mm
            · have hne : ks ≠ [] := fun h => by subst h; simp at hlt
              obtain ⟨b, o, rfl, hD, hc⟩ := HI.out.fs hne
              obtain ⟨d0, d1, d2, d3, d4, d5, d6⟩ := (((hc k ks[k] (by simp [Tr.kids, hlt])).keep hq (by simp)).keep HQ.out (by simp)).seven
              have HK := Go.Lib.hid (HIH.out ks[k] (by simp) mm wr (((HI.out.kid (k := ks[k]) (by simp [Tr.kids])).quiet hq).quiet HQ.out) (by omega))
              have HS := Go.Lib.hid (leftL_drop ks k hlt)
              have HR := Go.Lib.hid (leftF_range (Ft.pl ks[k]) mm)
              clear hc hD
              unfold Ft.val at HK
              generalize ks[k] = kk at *
              go_wp2_with fail
              refine HK.out.mono ?_
              rintro e w3 ⟨rfl, hq3⟩
              have hQ3 := HQ.out.trans hq3
              have HQ3 := Go.Lib.hid hQ3
              clear d0 d1 d2 d3 d4 d5 d6 hQ3 hq3
              go_wp2
              go_roundw
              case rel =>
                refine ⟨k + 1, leftF (Ft.pl kk) mm, by omega, by go_num, rfl, by have := HR.out.2.1 hm; omega, ?_, HQ3.out⟩
                rw [← HL.out, HS.out, List.map_cons, leftL, if_pos hm]
              case measure => simp [intOf]; omega
            · have e : leftL (ks.map Ft.pl) (n - 1) = mm := by
                rw [← HL.out, leftL_drop ks k hlt, List.map_cons, leftL, if_neg hm]
              have HE := Go.Lib.hid e
              clear e
              go_wp2
              go_ret
              exact ⟨by rw [HE.out]; rfl, hq.trans HQ.out⟩
          · obtain rfl : k = ks.length := by omega
            have e : leftL (ks.map Ft.pl) (n - 1) = mm := by
              rw [← HL.out, List.drop_length]; rfl
            have HE := Go.Lib.hid e
            clear e
            go_wp2
            go_ret
            exact ⟨by rw [HE.out]; rfl, hq.trans HQ.out⟩

set_option maxRecDepth 100000 in
set_option maxHeartbeats 4000000 in
theorem plain_any13 (D : Nat → Prop) (t : Ft) : t.size ≤ 1000 → ∀ (w : World), In D w t → Calls Tryd.prog 49 #[t.val] w (Built t.pl w) := by
  induction t using Tr.ind with
  | h x ks ih =>
    intro hsz w hin
    obtain ⟨⟨op, nm, cmp, val, lo, hi⟩, a, cap⟩ := x
    have hl : ks.length ≤ 1000 := by have := Tr.kids_le ks; simp only [Tr.size] at hsz; omega
    have HI := Go.Lib.hid hin
    have HIH := Go.Lib.hid ih
    have HSZ := Go.Lib.hid hsz
    clear hin ih hsz
    unfold Ft.val
    simp only [Tr.top, Tr.kids]
    go_enter Tryd.func49, Tryd.ntmps49
    go_wp2
    have R0 : PlainAt w ⟨op, nm, cmp, val, lo, hi⟩ a cap ks 0 (.slice none 0 0) [] (((w.alloc (.cells #[.int .i64 op, .string nm, .int .i64 cmp, .int .i64 val, .int .i64 lo, .int .i64 hi, .slice a ks.length cap] 28)).alloc (.cells #[.int .i64 0, .string ⟨#[]⟩, .int .i64 0, .int .i64 0, .int .i64 0, .int .i64 0, .slice none 0 0] 33)).alloc (.cells #[.int .i64 op, .string nm, .int .i64 cmp, .int .i64 val, .int .i64 lo, .int .i64 hi, .slice none 0 0] 33)) := by
      refine ⟨rfl, rfl, FRow.nil _ _ _ _, ((Blk.new _ _ _).alloc _).alloc _, ?_, ?_, (((Alters.refl _).alloc _).alloc _).alloc _⟩
      · have := (Blk.new (w.alloc (.cells #[.int .i64 op, .string nm, .int .i64 cmp, .int .i64 val, .int .i64 lo, .int .i64 hi, .slice a ks.length cap] 28)) #[.int .i64 0, .string ⟨#[]⟩, .int .i64 0, .int .i64 0, .int .i64 0, .int .i64 0, .slice none 0 0] 33).alloc (.cells #[.int .i64 op, .string nm, .int .i64 cmp, .int .i64 val, .int .i64 lo, .int .i64 hi, .slice none 0 0] 33)
        simpa using this
      · have := Blk.new ((w.alloc (.cells #[.int .i64 op, .string nm, .int .i64 cmp, .int .i64 val, .int .i64 lo, .int .i64 hi, .slice a ks.length cap] 28)).alloc (.cells #[.int .i64 0, .string ⟨#[]⟩, .int .i64 0, .int .i64 0, .int .i64 0, .int .i64 0, .slice none 0 0] 33)) #[.int .i64 op, .string nm, .int .i64 cmp, .int .i64 val, .int .i64 lo, .int .i64 hi, .slice none 0 0] 33
        simpa using this
    generalize ((w.alloc _).alloc _).alloc _ = w1 at *
    go_loopw [4] (fun i wr => ∃ (k : Nat) (v : Value) (T : List Ft), k ≤ ks.length ∧ i = .int .i64 k ∧ PlainAt w ⟨op, nm, cmp, val, lo, hi⟩ a cap ks k v T wr) (fun i _ => ks.length - (intOf i).toNat)
    case atStart => exact ⟨0, _, [], Nat.zero_le _, rfl, R0⟩
    case round =>
      clear R0
      obtain ⟨k, v, T, hk, rfl, hR⟩ := hrel
      have c6 := hR.box.cell 6 rfl
      have x0 := hR.out.cell 0 rfl
      have x1 := hR.out.cell 1 rfl
      have x2 := hR.out.cell 2 rfl
      have x3 := hR.out.cell 3 rfl
      have x4 := hR.out.cell 4 rfl
      have x5 := hR.out.cell 5 rfl
      have x6 := hR.out.cell 6 rfl
      have fx := fun i => hR.out.free i
      have HR := Go.Lib.hid hR
      clear hR
      by_cases hlt : k < ks.length
      · have hne : ks ≠ [] := fun h => by subst h; simp at hlt
        obtain ⟨b, o, rfl, hD, hc⟩ := HI.out.fs hne
        obtain ⟨d0, d1, d2, d3, d4, d5, d6⟩ := (((hc k ks[k] (by simp [Tr.kids, hlt]))).keep HR.out.quiet (by simp)).seven
        have hks : ks[k].size ≤ 1000 := by have := Tr.size_kid (k := ks[k]) (ks := ks) (by simp); have := HSZ.out; simp only [Tr.size] at this; omega
        have hin2 := (HI.out.kid (k := ks[k]) (by simp [Tr.kids]))
        have HK : Hid (∀ w2, Quiet wr w2 → Calls Tryd.prog 49 #[Ft.val ks[k]] w2 (Built (Ft.pl ks[k]) w2)) := fun w2 hq => HIH.out ks[k] (by simp) hks w2 ((hin2.quiet HR.out.quiet).quiet hq)
        clear hc hD
        unfold Ft.val at HK
        have HE := Go.Lib.hid (leftL_drop ks k hlt)
        generalize ks[k] = kk at *
        obtain ⟨i0, hi0, hz0, hz1, hz2⟩ := info_parts info33
        go_wp2_with fail
        go_region_law (first
          | (refine step_append_lies (w := w3.alloc (.cells #[.int .i64 t'.top.n.op, .string t'.top.n.nm, .int .i64 t'.top.n.cmp, .int .i64 t'.top.n.val, .int .i64 t'.top.n.lo, .int .i64 t'.top.n.hi, .slice t'.top.a t'.kids.length t'.top.cap] 33)) rfl (.tmp 31) (.tmp 38) 31 rfl (w.heap.size + 3) 33 i0 _ 7 80 Tryd.underlying31 hi0 hz0 hz1 hz2 rfl (by decide) v T.length (T.flatMap Ft.cells) (by simp [Act.eval]) RR.out.1 ⟨w3.heap.size, 0, none⟩ 1 1 (Ft.cells t') (by simp [Act.eval]) rfl HNW.out (cells_one t') (by omega) HLN.out.1 HLN.out.2.1 HLN.out.2.2 (w3.heap.size + 1) (by simp) ?_; intro g cp w4 hown hgrow hat hlt4; obtain ⟨hb4, hP4⟩ := HR.out.step Q3.out HIN.out HPL.out HE.out hown hgrow hat; have HP4 := Go.Lib.hid hP4; have z6 := hb4.cell 6 rfl; have f6 := fun i => hb4.free i; clear hb4 hP4 hown hgrow hat hlt4)
          | (go_simp; go_at_call 49; refine (HK.out _ (by with_reducible exact (Alters.refl _).drew)).mono ?_; rintro e w3 ⟨t', rfl, hpl, hin3, hq3⟩; unfold Ft.val; have Q3 : Hid (Quiet wr w3) := ((Alters.refl wr).drew).trans hq3; have HIN : Hid (In (fun j => wr.heap.size ≤ j) w3 t') := hin3; have HPL := Go.Lib.hid hpl; have y6 := Q3.out.cell x6 (by simp); have y7 := ((Alters.refl (p := fun _ => False) w3).alloc (.cells #[.int .i64 t'.top.n.op, .string t'.top.n.nm, .int .i64 t'.top.n.cmp, .int .i64 t'.top.n.val, .int .i64 t'.top.n.lo, .int .i64 t'.top.n.hi, .slice t'.top.a t'.kids.length t'.top.cap] 33)).cell y6 (by simp);
             have RR := Go.Lib.hid ((HR.out.row.quiet Q3.out).quiet ((Alters.refl _).alloc (.cells #[.int .i64 t'.top.n.op, .string t'.top.n.nm, .int .i64 t'.top.n.cmp, .int .i64 t'.top.n.val, .int .i64 t'.top.n.lo, .int .i64 t'.top.n.hi, .slice t'.top.a t'.kids.length t'.top.cap] 33)));
             have HNW : Hid (∀ j u, (Ft.cells t')[j]? = some u → (w3.alloc (.cells #[.int .i64 t'.top.n.op, .string t'.top.n.nm, .int .i64 t'.top.n.cmp, .int .i64 t'.top.n.val, .int .i64 t'.top.n.lo, .int .i64 t'.top.n.hi, .slice t'.top.a t'.kids.length t'.top.cap] 33)).cell? ((⟨w3.heap.size, 0, none⟩ : Addr).add j) = some u) := World.news_of_block (Blk.new w3 _ 33);
             have HLN : Hid (T.length + 1 ≤ maxLen ∧ (T.length + 1) * 80 ≤ 140737488355328 ∧ w.heap.size + 3 ≤ (w3.alloc (.cells #[.int .i64 t'.top.n.op, .string t'.top.n.nm, .int .i64 t'.top.n.cmp, .int .i64 t'.top.n.val, .int .i64 t'.top.n.lo, .int .i64 t'.top.n.hi, .slice t'.top.a t'.kids.length t'.top.cap] 33)).heap.size) := ⟨by have := HR.out.len; unfold maxLen; omega, by have := HR.out.len; omega, by have := HR.out.out.lt; have := Q3.out.size; simp; omega⟩;
             clear hpl hin3 hq3))
        all_goals
          clear z6 f6 y6 y7 d0 d1 d2 d3 d4 d5 d6 x0 x1 x2 x3 x4 x5 x6 fx RR HNW HLN HIN HPL Q3
          go_wp2
          go_roundw
          case rel => exact ⟨k + 1, _, _, by omega, by go_num, HP4.out⟩
          case measure => simp [intOf]; omega
      · obtain rfl : k = ks.length := by omega
        obtain ⟨A, c, rfl⟩ := HR.out.row.form
        have r0 := HR.out.res.cell 0 rfl
        have r1 := HR.out.res.cell 1 rfl
        have r2 := HR.out.res.cell 2 rfl
        have r3 := HR.out.res.cell 3 rfl
        have r4 := HR.out.res.cell 4 rfl
        have r5 := HR.out.res.cell 5 rfl
        have r6 := HR.out.res.cell 6 rfl
        have fr := fun i => HR.out.res.free i
        go_wp2
        have hs := set7 wr (w.heap.size + 1) (.int .i64 op) (.string nm) (.int .i64 cmp) (.int .i64 val) (.int .i64 lo) (.int .i64 hi) (.slice A T.length c)
        refine bodyPost_ret (v := Ft.val (.nd ⟨⟨op, nm, cmp, val, lo, hi⟩, A, c⟩ T)) (by simp [results, Tryd.results49, go_sem, Ft.val, Tr.top, Tr.kids, r0, r1, r2, r3, r4, r5, r6]) rfl ⟨_, rfl, ?_, ?_, HR.out.quiet.then hs (fun i hi e => by omega)⟩
        · have := HR.out.pls
          rw [List.take_length] at this
          simp [Ft.pl, Tr.map, Tr.mapL_eq]
          exact this
        · exact (HR.out.row.keep hs (fun k hk e => by have := (HR.out.row.1.lt k hk).1; omega) (fun k hk _ _ e => by omega)).node _ (by have := HR.out.len; unfold maxLen; omega) (fun k hk => by omega) (fun k hk => by omega)

set_option maxRecDepth 100000 in
set_option maxHeartbeats 2000000 in
theorem name_v13 (D : Nat → Prop) (s : ByteArray) (w : World) : Calls Tryd.prog 87 #[.string s] w (Gives D (.nd { z0 with op := 3, nm := s } []) w) := by
  go_enter Tryd.func87, Tryd.ntmps87
  go_wp2
  exact bodyPost_ret (v := Ft.val (.nd ⟨{ z0 with op := 3, nm := s }, none, 0⟩ [])) (by simp [results, Tryd.results87, go_sem, Ft.val, Tr.top, Tr.kids, z0]) rfl ⟨_, rfl, ⟨_, rfl, by rw [pl_nd]; rfl, In.leaf _ _ _⟩, (Alters.refl _).alloc _⟩

set_option maxRecDepth 100000 in
set_option maxHeartbeats 2000000 in
theorem one_v13 {D : Nat → Prop} {f : Fm} {v : Value} {w : World} (op lo hi : Int) (hD : ∀ k, w.heap.size ≤ k → D k) (h : MadeIn D f v w) : Calls Tryd.prog 52 #[.int .i64 op, .agg #[.int .i64 lo, .int .i64 hi], v] w (Gives D (.nd { z0 with op := op, lo := lo, hi := hi } [f]) w) := by
  obtain ⟨X, rfl, hp, hi'⟩ := h
  have HX := Go.Lib.hid hi'
  unfold Ft.val
  go_enter Tryd.func52, Tryd.ntmps52
  go_wp2
  have hk : Blk ((((w.alloc (.cells #[.int .i64 lo, .int .i64 hi] 25)).alloc (.cells #[.int .i64 X.top.n.op, .string X.top.n.nm, .int .i64 X.top.n.cmp, .int .i64 X.top.n.val, .int .i64 X.top.n.lo, .int .i64 X.top.n.hi, .slice X.top.a X.kids.length X.top.cap] 28)).alloc (.cells #[.int .i64 op, .string ⟨#[]⟩, .int .i64 0, .int .i64 0, .int .i64 lo, .int .i64 hi, .slice (some ⟨w.heap.size + 1 + 1 + 1, 0, none⟩) 1 1] 28)).alloc (.cells #[.int .i64 X.top.n.op, .string X.top.n.nm, .int .i64 X.top.n.cmp, .int .i64 X.top.n.val, .int .i64 X.top.n.lo, .int .i64 X.top.n.hi, .slice X.top.a X.kids.length X.top.cap] 28)) (w.heap.size + 1 + 1 + 1) ([X].flatMap Ft.cells).toArray 28 := alloc4 _ _ _ _ _ _
  have hq : Quiet w ((((w.alloc (.cells #[.int .i64 lo, .int .i64 hi] 25)).alloc (.cells #[.int .i64 X.top.n.op, .string X.top.n.nm, .int .i64 X.top.n.cmp, .int .i64 X.top.n.val, .int .i64 X.top.n.lo, .int .i64 X.top.n.hi, .slice X.top.a X.kids.length X.top.cap] 28)).alloc (.cells #[.int .i64 op, .string ⟨#[]⟩, .int .i64 0, .int .i64 0, .int .i64 lo, .int .i64 hi, .slice (some ⟨w.heap.size + 1 + 1 + 1, 0, none⟩) 1 1] 28)).alloc (.cells #[.int .i64 X.top.n.op, .string X.top.n.nm, .int .i64 X.top.n.cmp, .int .i64 X.top.n.val, .int .i64 X.top.n.lo, .int .i64 X.top.n.hi, .slice X.top.a X.kids.length X.top.cap] 28)) := ((((Alters.refl _).alloc _).alloc _).alloc _).alloc _
  have hin := In.made (n := { z0 with op := op, lo := lo, hi := hi }) (c := 1) (T := [X]) hk (by simp [maxLen]) (fun t ht => by
    obtain rfl : t = X := by simpa using ht
    exact HX.out) hq (by omega)
  exact bodyPost_ret (v := Ft.val (.nd ⟨{ z0 with op := op, lo := lo, hi := hi }, some ⟨w.heap.size + 1 + 1 + 1, 0, none⟩, 1⟩ [X])) (by simp [results, Tryd.results52, go_sem, Ft.val, Tr.top, Tr.kids, z0]) rfl ⟨_, rfl, ⟨_, rfl, by rw [pl_nd, ← hp]; rfl, hin.mono (fun k _ h => h.elim (fun h => h) (fun h => hD k h))⟩, hq⟩

set_option maxRecDepth 100000 in
set_option maxHeartbeats 2000000 in
theorem two_v13 {D : Nat → Prop} {f g : Fm} {v u : Value} {w : World} (op lo hi : Int) (hD : ∀ k, w.heap.size ≤ k → D k) (h : MadeIn D f v w) (h2 : MadeIn D g u w) : Calls Tryd.prog 53 #[.int .i64 op, .agg #[.int .i64 lo, .int .i64 hi], v, u] w (Gives D (.nd { z0 with op := op, lo := lo, hi := hi } [f, g]) w) := by
  obtain ⟨X, rfl, hp, hi'⟩ := h
  obtain ⟨Y, rfl, hp2, hi2⟩ := h2
  have HX := Go.Lib.hid hi'
  have HY := Go.Lib.hid hi2
  unfold Ft.val
  go_enter Tryd.func53, Tryd.ntmps53
  go_wp2
  have hk : Blk (((((w.alloc (.cells #[.int .i64 lo, .int .i64 hi] 25)).alloc (.cells #[.int .i64 X.top.n.op, .string X.top.n.nm, .int .i64 X.top.n.cmp, .int .i64 X.top.n.val, .int .i64 X.top.n.lo, .int .i64 X.top.n.hi, .slice X.top.a X.kids.length X.top.cap] 28)).alloc (.cells #[.int .i64 Y.top.n.op, .string Y.top.n.nm, .int .i64 Y.top.n.cmp, .int .i64 Y.top.n.val, .int .i64 Y.top.n.lo, .int .i64 Y.top.n.hi, .slice Y.top.a Y.kids.length Y.top.cap] 28)).alloc (.cells #[.int .i64 op, .string ⟨#[]⟩, .int .i64 0, .int .i64 0, .int .i64 lo, .int .i64 hi, .slice (some ⟨w.heap.size + 1 + 1 + 1 + 1, 0, none⟩) 2 2] 28)).alloc (.cells #[.int .i64 X.top.n.op, .string X.top.n.nm, .int .i64 X.top.n.cmp, .int .i64 X.top.n.val, .int .i64 X.top.n.lo, .int .i64 X.top.n.hi, .slice X.top.a X.kids.length X.top.cap, .int .i64 Y.top.n.op, .string Y.top.n.nm, .int .i64 Y.top.n.cmp, .int .i64 Y.top.n.val, .int .i64 Y.top.n.lo, .int .i64 Y.top.n.hi, .slice Y.top.a Y.kids.length Y.top.cap] 28)) (w.heap.size + 1 + 1 + 1 + 1) ([X, Y].flatMap Ft.cells).toArray 28 := by
    have := Blk.new ((((w.alloc (.cells #[.int .i64 lo, .int .i64 hi] 25)).alloc (.cells #[.int .i64 X.top.n.op, .string X.top.n.nm, .int .i64 X.top.n.cmp, .int .i64 X.top.n.val, .int .i64 X.top.n.lo, .int .i64 X.top.n.hi, .slice X.top.a X.kids.length X.top.cap] 28)).alloc (.cells #[.int .i64 Y.top.n.op, .string Y.top.n.nm, .int .i64 Y.top.n.cmp, .int .i64 Y.top.n.val, .int .i64 Y.top.n.lo, .int .i64 Y.top.n.hi, .slice Y.top.a Y.kids.length Y.top.cap] 28)).alloc (.cells #[.int .i64 op, .string ⟨#[]⟩, .int .i64 0, .int .i64 0, .int .i64 lo, .int .i64 hi, .slice (some ⟨w.heap.size + 1 + 1 + 1 + 1, 0, none⟩) 2 2] 28)) #[.int .i64 X.top.n.op, .string X.top.n.nm, .int .i64 X.top.n.cmp, .int .i64 X.top.n.val, .int .i64 X.top.n.lo, .int .i64 X.top.n.hi, .slice X.top.a X.kids.length X.top.cap, .int .i64 Y.top.n.op, .string Y.top.n.nm, .int .i64 Y.top.n.cmp, .int .i64 Y.top.n.val, .int .i64 Y.top.n.lo, .int .i64 Y.top.n.hi, .slice Y.top.a Y.kids.length Y.top.cap] 28
    simp only [World.size_alloc] at this
    exact this
  have hq : Quiet w (((((w.alloc (.cells #[.int .i64 lo, .int .i64 hi] 25)).alloc (.cells #[.int .i64 X.top.n.op, .string X.top.n.nm, .int .i64 X.top.n.cmp, .int .i64 X.top.n.val, .int .i64 X.top.n.lo, .int .i64 X.top.n.hi, .slice X.top.a X.kids.length X.top.cap] 28)).alloc (.cells #[.int .i64 Y.top.n.op, .string Y.top.n.nm, .int .i64 Y.top.n.cmp, .int .i64 Y.top.n.val, .int .i64 Y.top.n.lo, .int .i64 Y.top.n.hi, .slice Y.top.a Y.kids.length Y.top.cap] 28)).alloc (.cells #[.int .i64 op, .string ⟨#[]⟩, .int .i64 0, .int .i64 0, .int .i64 lo, .int .i64 hi, .slice (some ⟨w.heap.size + 1 + 1 + 1 + 1, 0, none⟩) 2 2] 28)).alloc (.cells #[.int .i64 X.top.n.op, .string X.top.n.nm, .int .i64 X.top.n.cmp, .int .i64 X.top.n.val, .int .i64 X.top.n.lo, .int .i64 X.top.n.hi, .slice X.top.a X.kids.length X.top.cap, .int .i64 Y.top.n.op, .string Y.top.n.nm, .int .i64 Y.top.n.cmp, .int .i64 Y.top.n.val, .int .i64 Y.top.n.lo, .int .i64 Y.top.n.hi, .slice Y.top.a Y.kids.length Y.top.cap] 28)) := (((((Alters.refl _).alloc _).alloc _).alloc _).alloc _).alloc _
  have hin := In.made (n := { z0 with op := op, lo := lo, hi := hi }) (c := 2) (T := [X, Y]) hk (by simp [maxLen]) (fun t ht => by
    simp only [List.mem_cons, List.not_mem_nil, or_false] at ht
    rcases ht with rfl | rfl
    · exact HX.out
    · exact HY.out) hq (by omega)
  exact bodyPost_ret (v := Ft.val (.nd ⟨{ z0 with op := op, lo := lo, hi := hi }, some ⟨w.heap.size + 1 + 1 + 1 + 1, 0, none⟩, 2⟩ [X, Y])) (by simp [results, Tryd.results53, go_sem, Ft.val, Tr.top, Tr.kids, z0]) rfl ⟨_, rfl, ⟨_, rfl, by rw [pl_nd, ← hp, ← hp2]; rfl, hin.mono (fun k _ h => h.elim (fun h => h) (fun h => hD k h))⟩, hq⟩

set_option maxRecDepth 100000 in
set_option maxHeartbeats 4000000 in
theorem upward_walk13 (t : Ft) (w : World) (hin : In (fun k => k < w.heap.size) w t) (hsz : t.size ≤ 100000) : Calls Tryd.prog 80 #[t.val] w (UpDone t w) := by
  have HI := Go.Lib.hid hin
  have HSZ := Go.Lib.hid hsz
  clear hin hsz
  unfold Ft.val
  go_enter Tryd.func80, Tryd.ntmps80
  go_wp2
  have hq : Quiet w ((w.alloc (.cells #[.int .i64 t.top.n.op, .string t.top.n.nm, .int .i64 t.top.n.cmp, .int .i64 t.top.n.val, .int .i64 t.top.n.lo, .int .i64 t.top.n.hi, .slice t.top.a t.kids.length t.top.cap] 28)).alloc (.cells #[.int .i64 t.top.n.op, .string t.top.n.nm, .int .i64 t.top.n.cmp, .int .i64 t.top.n.val, .int .i64 t.top.n.lo, .int .i64 t.top.n.hi, .slice t.top.a t.kids.length t.top.cap] 28)) := ((Alters.refl _).alloc _).alloc _
  have hrow := World.ownsRow_lit (base := w.heap.size) (size := 7) (e := 28) (w.alloc (.cells #[.int .i64 t.top.n.op, .string t.top.n.nm, .int .i64 t.top.n.cmp, .int .i64 t.top.n.val, .int .i64 t.top.n.lo, .int .i64 t.top.n.hi, .slice t.top.a t.kids.length t.top.cap] 28)) #[.int .i64 t.top.n.op, .string t.top.n.nm, .int .i64 t.top.n.cmp, .int .i64 t.top.n.val, .int .i64 t.top.n.lo, .int .i64 t.top.n.hi, .slice t.top.a t.kids.length t.top.cap] 1 (by simp) (by simp [maxLen]) rfl
  simp only [World.size_alloc] at hrow
  generalize (w.alloc _).alloc _ = w1 at *
  have hU : UpAt w (.slice none 0 0) (.slice (some ⟨w.heap.size + 1, 0, none⟩) 1 1) [] [t] w1 :=
    ⟨World.ownsRow_nil _ _ _ _, by simpa [Ft.cells] using hrow, by simp, fun x hx => by
      obtain rfl : x = t := by simpa using hx
      exact HI.out.quiet hq, by simp [Value.ownBlock], hq⟩
  have HU := Go.Lib.hid hU
  clear hq hrow hU HI
  go_loopg [3, 4] t.size (fun k lv sv wr => ∃ (L S : List Ft), Tr.sizeL S.reverse ≤ k ∧ k ≤ t.size ∧ L ++ Tr.preL S.reverse = t.pre ∧ UpAt w lv sv L S wr)
  case atStart => exact ⟨[], [t], by simp [Tr.sizeL], Nat.le_refl _, by simp [Tr.preL], HU.out⟩
  case round =>
    clear HU
    obtain ⟨L, S, hk, hkt, hLS, hU⟩ := hrel
    generalize u3 = lv2 at *
    generalize u4 = sv2 at *
    have HLS := Go.Lib.hid hLS
    clear hLS
    rcases List.eq_nil_or_concat S with rfl | ⟨S0, x, rfl⟩
    · have hL : L = t.pre := by have := HLS.out; simpa [Tr.preL] using this
      have hlen : L.length = t.size := by rw [hL, Tr.pre_length]
      have hL1 : L.length ≠ 0 := by rw [hlen]; cases t; simp only [Tr.size]; omega
      obtain ⟨m, hm⟩ : ∃ m, L.length = m + 1 := ⟨L.length - 1, by omega⟩
      have h1 := hU.rl
      rw [hm] at h1
      obtain ⟨g, cap, rfl⟩ := ownsRow_succ h1
      rw [← hm] at h1
      obtain ⟨cs, hb, hg, hnc, hcm, hcs, hrr⟩ := own_block h1
      have HC : Hid (Calls Tryd.prog 104 #[.slice (some ⟨g, 0, none⟩) (m + 1) cap] wr (RevDone g 0 cs L.toArray wr)) := by
        have := reverse_walk g 0 cap cs L.toArray wr hb (fun k t hk j u hu => by rw [Nat.zero_add]; exact hrr k t (by simpa using hk) j u hu) (by simp; omega) (by have := HSZ.out; simp; omega)
        simp only [List.size_toArray, hm] at this
        exact this
      have HH : Hid (∀ e w', RevDone g 0 cs L.toArray wr e w' → UpDone t w (.returned (.slice (some ⟨g, 0, none⟩) (m + 1) cap)) w') := by
        rintro e w' ⟨-, cs', hb', hs', hrd, -, hA⟩
        have hlo : ∀ k, k < w.heap.size → ¬ k = g := fun k hk e => by omega
        refine ⟨_, rfl, ?_, fun y hy => (hU.il y (by rw [hL]; exact hy)).keep hA (fun k hk _ => hlo k hk), hU.quiet.then hA (fun i hi hp => absurd hp (hlo i hi))⟩
        rw [← hm, ← hL]
        exact own_of_reads hb' hg (by simp) hnc hcm (by rw [hs', hcs]) (fun k t hk j u hu => by
          have := hrd k t (by simpa using hk) j u hu
          rw [Nat.zero_add] at this
          exact this)
      have hS : (∃ g2 c2, sv2 = .slice (some ⟨g2, 0, none⟩) 0 c2) ∨ sv2 = .slice none 0 0 := by
        rcases hU.rs.2 with ⟨h, -⟩ | ⟨g2, c2, _, h, -⟩
        · exact .inr h
        · exact .inl ⟨g2, c2, h⟩
      clear hb hrr hcs hnc hcm hU h1 hL hlen hL1 hm
      rcases hS with ⟨g2, c2, rfl⟩ | rfl
      all_goals
        go_wp2_with fail
        refine HC.out.mono ?_
        intro e w5 hd
        have hdone := HH.out _ _ hd
        obtain ⟨rfl, -⟩ := hd
        have HDN := Go.Lib.hid hdone
        clear hdone
        go_wp2
        go_ret
        exact HDN.out
    · rw [List.concat_eq_append] at *
      have h1 := hU.rs
      rw [List.length_append, List.length_singleton] at h1
      obtain ⟨g, cap, rfl⟩ := ownsRow_succ h1
      obtain ⟨cs, hb, hg, hnc, hcm, hcs, hrr⟩ := own_block h1
      have hsev : AtP wr g (S0.length * 7) x := fun j u hu => hb.cell _ (hrr S0.length x (by simp) j u hu)
      obtain ⟨d0, d1, d2, d3, d4, d5, d6⟩ := hsev.seven
      have hsl : S0.length ≤ 100000 := by
        have h2 := Tr.kids_le (S0 ++ [x]).reverse
        have := HSZ.out
        simp only [List.length_reverse, List.length_append, List.length_singleton] at h2
        omega
      have hll : L.length ≤ 100000 := by
        have h2 := congrArg List.length HLS.out
        rw [Tr.pre_length, List.length_append] at h2
        have := HSZ.out
        omega
      have hxin := hU.is x (by simp)
      have hpop := hU.pop rfl
      have HU := Go.Lib.hid hpop
      have HX := Go.Lib.hid hxin
      have hgl := (h1.lt g rfl).2
      clear hU hpop hxin hb hrr hsev h1
      obtain ⟨i0, hi0, hz0, hz1, hz2⟩ := info_parts info28
      have hx7 : x.kids.length ≤ 100000 := by
        have h3 : x.size = 1 + Tr.sizeL x.kids := by cases x; rfl
        have h4 := Tr.kids_le x.kids
        have h5 := Tr.size_kid (k := x) (ks := (S0 ++ [x]).reverse) (by simp)
        have := HSZ.out
        omega
      have HR2 : Hid (Reads ((wr.alloc (.cells #[.int .i64 x.top.n.op, .string x.top.n.nm, .int .i64 x.top.n.cmp, .int .i64 x.top.n.val, .int .i64 x.top.n.lo, .int .i64 x.top.n.hi, .slice x.top.a x.kids.length x.top.cap] 28)).alloc (.cells #[.int .i64 x.top.n.op, .string x.top.n.nm, .int .i64 x.top.n.cmp, .int .i64 x.top.n.val, .int .i64 x.top.n.lo, .int .i64 x.top.n.hi, .slice x.top.a x.kids.length x.top.cap] 28)) (some ⟨wr.heap.size + 1, 0, none⟩) 7 1 (Ft.cells x)) := ⟨rfl, fun _ => ⟨_, rfl, by
        have := World.news_of_block (Blk.new (wr.alloc (.cells #[.int .i64 x.top.n.op, .string x.top.n.nm, .int .i64 x.top.n.cmp, .int .i64 x.top.n.val, .int .i64 x.top.n.lo, .int .i64 x.top.n.hi, .slice x.top.a x.kids.length x.top.cap] 28)) #[.int .i64 x.top.n.op, .string x.top.n.nm, .int .i64 x.top.n.cmp, .int .i64 x.top.n.val, .int .i64 x.top.n.lo, .int .i64 x.top.n.hi, .slice x.top.a x.kids.length x.top.cap] 28)
        rw [World.size_alloc] at this
        exact this⟩⟩
      have HOL : Hid (((wr.alloc (.cells #[.int .i64 x.top.n.op, .string x.top.n.nm, .int .i64 x.top.n.cmp, .int .i64 x.top.n.val, .int .i64 x.top.n.lo, .int .i64 x.top.n.hi, .slice x.top.a x.kids.length x.top.cap] 28)).alloc (.cells #[.int .i64 x.top.n.op, .string x.top.n.nm, .int .i64 x.top.n.cmp, .int .i64 x.top.n.val, .int .i64 x.top.n.lo, .int .i64 x.top.n.hi, .slice x.top.a x.kids.length x.top.cap] 28)).ownsRow w.heap.size 28 7 lv2 L.length (L.flatMap Ft.cells)) := (HU.out.rl.alloc _).alloc _
      have HBG : Hid (w.heap.size ≤ ((wr.alloc (.cells #[.int .i64 x.top.n.op, .string x.top.n.nm, .int .i64 x.top.n.cmp, .int .i64 x.top.n.val, .int .i64 x.top.n.lo, .int .i64 x.top.n.hi, .slice x.top.a x.kids.length x.top.cap] 28)).alloc (.cells #[.int .i64 x.top.n.op, .string x.top.n.nm, .int .i64 x.top.n.cmp, .int .i64 x.top.n.val, .int .i64 x.top.n.lo, .int .i64 x.top.n.hi, .slice x.top.a x.kids.length x.top.cap] 28)).heap.size) := ((HU.out.quiet.alloc _).alloc _).size
      go_wp2_with (at_builtin; refine wpList_append_reads _ rfl (.tmp 19) (.tmp 21) 26 rfl w.heap.size 28 i0 _ 7 80 Tryd.underlying26 hi0 hz0 hz1 hz2 rfl (by decide) lv2 L.length (L.flatMap Ft.cells) (by simp [Act.eval]) HOL.out (some ⟨wr.heap.size + 1, 0, none⟩) 1 1 (Ft.cells x) (by simp [Act.eval]) HR2.out (cells_one x) (by unfold maxLen; omega) (by omega) HBG.out ?_)
      intro lv3 w3 hown hgrow hat
      have hqa : Quiet wr (wr.alloc (.cells #[.int .i64 x.top.n.op, .string x.top.n.nm, .int .i64 x.top.n.cmp, .int .i64 x.top.n.val, .int .i64 x.top.n.lo, .int .i64 x.top.n.hi, .slice x.top.a x.kids.length x.top.cap] 28)) := (Alters.refl _).alloc _
      have hU3 := (HU.out.quiet' hqa).list (HX.out.quiet hqa) hown hgrow (hat.imp_right (fun h => by rw [h]; simp))
      have hA3 : Alters (fun k => lv2.ownBlock = some k) (wr.alloc (.cells #[.int .i64 x.top.n.op, .string x.top.n.nm, .int .i64 x.top.n.cmp, .int .i64 x.top.n.val, .int .i64 x.top.n.lo, .int .i64 x.top.n.hi, .slice x.top.a x.kids.length x.top.cap] 28)) w3 := ((Alters.refl _).alloc _).grown hgrow (fun k e _ => e)
      have hb3 := hA3.blk (Blk.new wr #[.int .i64 x.top.n.op, .string x.top.n.nm, .int .i64 x.top.n.cmp, .int .i64 x.top.n.val, .int .i64 x.top.n.lo, .int .i64 x.top.n.hi, .slice x.top.a x.kids.length x.top.cap] 28) (fun e => by have := (HU.out.rl.lt _ e).2; omega)
      have c6 := hb3.cell 6 rfl
      have hlo : ∀ k, k < w.heap.size → ¬ lv2.ownBlock = some k := fun k hk e => by have := (HU.out.rl.lt k e).1; omega
      have hX3 := ((HX.out.quiet hqa).keep hA3 (fun k hk _ => hlo k hk)).quiet ((Alters.refl w3).drew)
      have hU3d := hU3.quiet' ((Alters.refl w3).drew)
      have HU3 := Go.Lib.hid hU3d
      have HX3 := Go.Lib.hid hX3
      have HRS := Go.Lib.hid hU3d.rs
      have HRD := Go.Lib.hid (fs_reads hX3.fs)
      have HBG3 := Go.Lib.hid (show w.heap.size ≤ w3.drew.heap.size from hU3d.quiet.size)
      have hcap3 : S0.length ≤ cap := by omega
      clear hqa hU3 hA3 hb3 hlo hX3 hU3d hown hgrow hat d0 d1 d2 d3 d4 d5 d6 HR2 HOL HBG HU HX
      go_wp2_with fail
      go_region_law ((refine step_append_reads w3.drew rfl (.tmp 25) (.tmp 27) 26 rfl w.heap.size 28 i0 _ 7 80 Tryd.underlying26 hi0 hz0 hz1 hz2 rfl (by decide) (.slice (some ⟨g, 0, none⟩) S0.length cap) S0.length (S0.flatMap Ft.cells) (by simp [Act.eval]) HRS.out x.top.a x.kids.length x.top.cap (x.kids.flatMap Ft.cells) (by simp [Act.eval]) HRD.out (fun u hu => by obtain ⟨y, hy, hu⟩ := List.mem_flatMap.1 hu; exact cells_one y u hu) (by unfold maxLen; omega) (by omega) HBG3.out ?_; intro sv3 w4 hown4 hgrow4 hat4))
      have hU4 := HU3.out.kids (fun y hy => HX3.out.kid hy) hown4 hgrow4 hat4
      have h4 := hU4.rs
      rw [List.length_append] at h4
      obtain ⟨g4, cap4, rfl⟩ : ∃ g4 cap4, sv3 = .slice (some ⟨g4, 0, none⟩) (S0.length + x.kids.length) cap4 := by
        rcases h4.2 with ⟨hv, -⟩ | ⟨g4, cap4, _, hv, -⟩
        · rw [hv] at hat4
          rcases hat4 with h | h <;> simp [Value.ownBlock] at h
        · exact ⟨g4, cap4, hv⟩
      obtain ⟨cs4, hb4, hg4, hnc4, hcm4, hcs4, hrr4⟩ := own_block h4
      have hfin : (L ++ [x]) ++ Tr.preL (S0 ++ x.kids.reverse).reverse = t.pre := by
        rw [← HLS.out]
        have e : x.pre = x :: Tr.preL x.kids := by cases x; rfl
        simp [Tr.preL_eq, e]
      have hms : Tr.sizeL (S0 ++ x.kids.reverse).reverse < gk := by
        have e : x.size = 1 + Tr.sizeL x.kids := by cases x; rfl
        simp only [Tr.sizeL_eq, List.reverse_append, List.reverse_reverse, List.map_append, List.sum_append, List.reverse_cons, List.reverse_nil, List.nil_append, List.map_cons, List.map_nil, List.sum_cons, List.sum_nil] at hk e ⊢
        omega
      have HFIN := Go.Lib.hid hfin
      have HU4 := Go.Lib.hid hU4
      have HB4 := Go.Lib.hid hb4
      have HC4 : Hid (cs4.size = cap4 * 7) := hcs4
      have HRR := Go.Lib.hid (show ReadsF cs4 (S0.length * 7) x.kids.toArray from fun k y hy j u hu => by
        have := hrr4 (S0.length + k) y (by rw [List.getElem?_append_right (by omega)]; simpa using hy) j u hu
        rw [show (S0.length + k) * 7 + j = S0.length * 7 + k * 7 + j by omega] at this
        exact this)
      clear hU4 h4 hb4 hcs4 hrr4 hfin hown4 hgrow4 hat4 HU3 HX3 HRS HRD HBG3 c6 hi0 hz0 hz1 hz2
      have HTU : Hid (∀ e w5, RevDone g4 (S0.length * 7) cs4 x.kids.toArray w4 e w5 → e = .returned (.tuple #[]) ∧ UpAt w lv3 (.slice (some ⟨g4, 0, none⟩) (S0.length + x.kids.length) cap4) (L ++ [x]) (S0 ++ x.kids.reverse) w5) := fun e w5 hd => HU4.out.turn (by simp) HB4.out hd
      by_cases hc4 : cap4 = S0.length
      · have hx0 : x.kids = [] := List.eq_nil_of_length_eq_zero (by omega)
        have HC : Hid (Calls Tryd.prog 104 #[.slice (some ⟨g4, 0, none⟩) 0 0] w4 (RevDone g4 (S0.length * 7) cs4 x.kids.toArray w4)) := by
          rw [hx0]
          exact (reverse_walk g4 0 0 cs4 #[] w4 HB4.out (fun k t hk => by simp at hk) (by simp) (by simp)).mono fun _ _ h => revdone_nil h
        subst hc4
        clear hx0
        go_wp2_with fail
        refine HC.out.mono ?_
        intro e w5 hd
        obtain ⟨rfl, hU5⟩ := HTU.out e w5 hd
        have HU5 := Go.Lib.hid hU5
        clear hU5 hd
        go_wp2
        go_roundg (Tr.sizeL (S0 ++ x.kids.reverse).reverse)
        case measure => exact hms
        case rel => exact ⟨L ++ [x], S0 ++ x.kids.reverse, Nat.le_refl _, by omega, HFIN.out, HU5.out⟩
      · have HC : Hid (Calls Tryd.prog 104 #[.slice (some ⟨g4, S0.length * 7, none⟩) x.kids.length (cap4 - S0.length)] w4 (RevDone g4 (S0.length * 7) cs4 x.kids.toArray w4)) := by
          have := reverse_walk g4 (S0.length * 7) (cap4 - S0.length) cs4 x.kids.toArray w4 HB4.out HRR.out (by have := HC4.out; simp; omega) (by simp; omega)
          simp only [List.size_toArray] at this
          exact this
        go_wp2_with fail
        refine HC.out.mono ?_
        intro e w5 hd
        obtain ⟨rfl, hU5⟩ := HTU.out e w5 hd
        have HU5 := Go.Lib.hid hU5
        clear hU5 hd
        go_wp2
        go_roundg (Tr.sizeL (S0 ++ x.kids.reverse).reverse)
        case measure => exact hms
        case rel => exact ⟨L ++ [x], S0 ++ x.kids.reverse, Nat.le_refl _, by omega, HFIN.out, HU5.out⟩

end Go.Proofs.YtnpcakakjhiboaaDoor
