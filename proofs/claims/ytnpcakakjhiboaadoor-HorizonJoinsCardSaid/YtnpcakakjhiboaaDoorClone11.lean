/- Walks of the small functions of law 11. No condition. -/
import Derived.Test.YtnpcakakjhiboaaDoorPlain
namespace Go.Proofs.YtnpcakakjhiboaaDoor
open Go.RowKit Go.Lo Go.WideShapes

set_option maxHeartbeats 1000000 in
theorem left_any11 (D : Nat → Prop) (t : Ft) : ∀ (n : Int) (w : World), In D w t → n ≤ 1000 → Calls Tryd.prog 64 #[t.val, .int .i64 n] w (Said (.int .i64 (leftF t.pl n)) w) := by
  induction t using Tr.ind with
  | h x ks ih =>
    intro n w hin hn
    obtain ⟨⟨op, nm, cmp, val, lo, hi⟩, a, cap⟩ := x
    have hl := hin.len
    have HI := Go.Lib.hid hin
    have HIH := Go.Lib.hid ih
    unfold maxLen at hl
    clear hin ih
    simp only [Tr.kids] at hl
    have hv : leftF (Ft.pl (.nd ⟨⟨op, nm, cmp, val, lo, hi⟩, a, cap⟩ ks)) n = if n ≤ 0 ∨ 40 < nm.size then 0 else leftL (ks.map Ft.pl) (n - 1) := by
      simp [Ft.pl, Tr.map, Tr.mapL_eq, leftF]; rfl
    have HV := Go.Lib.hid hv
    clear hv
    unfold Ft.val
    simp only [Tr.top, Tr.kids]
    go_enter Tryd.func64, Tryd.ntmps64
    by_cases h0 : n ≤ 0
    · have e : leftF (Ft.pl (.nd ⟨⟨op, nm, cmp, val, lo, hi⟩, a, cap⟩ ks)) n = 0 := by rw [HV.out, if_pos (.inl h0)]
      rw [e]
      clear e
      go_wp2
      go_ret
      exact ⟨rfl, (Alters.refl _).alloc _⟩
    · by_cases h1 : 40 < nm.size
      · have e : leftF (Ft.pl (.nd ⟨⟨op, nm, cmp, val, lo, hi⟩, a, cap⟩ ks)) n = 0 := by rw [HV.out, if_pos (.inr h1)]
        rw [e]
        clear e
        go_wp2
        go_ret
        exact ⟨rfl, (Alters.refl _).alloc _⟩
      · have e : leftF (Ft.pl (.nd ⟨⟨op, nm, cmp, val, lo, hi⟩, a, cap⟩ ks)) n = leftL (ks.map Ft.pl) (n - 1) := by rw [HV.out, if_neg (by omega)]
        rw [e]
        clear e HV
        have hB := Blk.new w #[.int .i64 op, .string nm, .int .i64 cmp, .int .i64 val, .int .i64 lo, .int .i64 hi, .slice a ks.length cap] 28
        have hq : Quiet w (w.alloc (.cells #[.int .i64 op, .string nm, .int .i64 cmp, .int .i64 val, .int .i64 lo, .int .i64 hi, .slice a ks.length cap] 28)) := (Alters.refl _).alloc _
        go_wp2
        generalize w.alloc _ = w1 at *
        go_loopw [5, 6] (fun m i wr => ∃ (k : Nat) (mm : Int), k ≤ ks.length ∧ i = .int .i64 k ∧ m = .int .i64 mm ∧ mm ≤ 1000 ∧ leftL ((ks.drop k).map Ft.pl) mm = leftL (ks.map Ft.pl) (n - 1) ∧ Quiet w1 wr) (fun _ i _ => ks.length - (intOf i).toNat)
        case atStart => exact ⟨0, n - 1, Nat.zero_le _, rfl, rfl, by omega, rfl, Alters.refl _⟩
        case round =>
          obtain ⟨k, mm, hk, rfl, rfl, hmm, hL, hQ⟩ := hrel
          have HL := Go.Lib.hid hL
          have HQ := Go.Lib.hid hQ
          have c6 : wr.cell? ⟨w.heap.size, 6, none⟩ = some (.slice a ks.length cap) := hQ.cell (hB.cell 6 rfl) (by simp)
          clear hL hQ
          by_cases hlt : k < ks.length
          · by_cases hm : 0 < mm
            · have hne : ks ≠ [] := fun h => by subst h; simp at hlt
              obtain ⟨b, o, rfl, hD, hc⟩ := HI.out.fs hne
              obtain ⟨d0, d1, d2, d3, d4, d5, d6⟩ := (((hc k ks[k] (by simp [Tr.kids, hlt])).keep hq (by simp)).keep HQ.out (by simp)).seven
              have HK := Go.Lib.hid (HIH.out ks[k] (by simp) mm wr (((HI.out.kid (k := ks[k]) (by simp [Tr.kids])).quiet hq).quiet HQ.out) (by omega))
              have HS := Go.Lib.hid (leftL_drop ks k hlt)
              have HR := Go.Lib.hid (leftF_range (Ft.pl ks[k]) mm)
              clear hc hD
              unfold Ft.val at HK
              generalize ks[k] = kk at *
              go_wp2_with fail
              refine HK.out.mono ?_
              rintro e w3 ⟨rfl, hq3⟩
              have hQ3 := HQ.out.trans hq3
              have HQ3 := Go.Lib.hid hQ3
              clear d0 d1 d2 d3 d4 d5 d6 hQ3 hq3
              go_wp2
              go_roundw
              case rel =>
                refine ⟨k + 1, leftF (Ft.pl kk) mm, by omega, by go_num, rfl, by have := HR.out.2.1 hm; omega, ?_, HQ3.out⟩
                rw [← HL.out, HS.out, List.map_cons, leftL, if_pos hm]
              case measure => simp [intOf]; omega
            · have e : leftL (ks.map Ft.pl) (n - 1) = mm := by
                rw [← HL.out, leftL_drop ks k hlt, List.map_cons, leftL, if_neg hm]
              have HE := Go.Lib.hid e
              clear e
              go_wp2
              go_ret
              exact ⟨by rw [HE.out]; rfl, hq.trans HQ.out⟩
          · obtain rfl : k = ks.length := by omega
            have e : leftL (ks.map Ft.pl) (n - 1) = mm := by
              rw [← HL.out, List.drop_length]; rfl
            have HE := Go.Lib.hid e
            clear e
            go_wp2
            go_ret
            exact ⟨by rw [HE.out]; rfl, hq.trans HQ.out⟩

set_option maxRecDepth 100000 in
set_option maxHeartbeats 4000000 in
theorem plain_any11 (D : Nat → Prop) (t : Ft) : t.size ≤ 1000 → ∀ (w : World), In D w t → Calls Tryd.prog 66 #[t.val] w (Built t.pl w) := by
  induction t using Tr.ind with
  | h x ks ih =>
    intro hsz w hin
    obtain ⟨⟨op, nm, cmp, val, lo, hi⟩, a, cap⟩ := x
    have hl : ks.length ≤ 1000 := by have := Tr.kids_le ks; simp only [Tr.size] at hsz; omega
    have HI := Go.Lib.hid hin
    have HIH := Go.Lib.hid ih
    have HSZ := Go.Lib.hid hsz
    clear hin ih hsz
    unfold Ft.val
    simp only [Tr.top, Tr.kids]
    go_enter Tryd.func66, Tryd.ntmps66
    go_wp2
    have R0 : PlainAt w ⟨op, nm, cmp, val, lo, hi⟩ a cap ks 0 (.slice none 0 0) [] (((w.alloc (.cells #[.int .i64 op, .string nm, .int .i64 cmp, .int .i64 val, .int .i64 lo, .int .i64 hi, .slice a ks.length cap] 28)).alloc (.cells #[.int .i64 0, .string ⟨#[]⟩, .int .i64 0, .int .i64 0, .int .i64 0, .int .i64 0, .slice none 0 0] 33)).alloc (.cells #[.int .i64 op, .string nm, .int .i64 cmp, .int .i64 val, .int .i64 lo, .int .i64 hi, .slice none 0 0] 33)) := by
      refine ⟨rfl, rfl, FRow.nil _ _ _ _, ((Blk.new _ _ _).alloc _).alloc _, ?_, ?_, (((Alters.refl _).alloc _).alloc _).alloc _⟩
      · have := (Blk.new (w.alloc (.cells #[.int .i64 op, .string nm, .int .i64 cmp, .int .i64 val, .int .i64 lo, .int .i64 hi, .slice a ks.length cap] 28)) #[.int .i64 0, .string ⟨#[]⟩, .int .i64 0, .int .i64 0, .int .i64 0, .int .i64 0, .slice none 0 0] 33).alloc (.cells #[.int .i64 op, .string nm, .int .i64 cmp, .int .i64 val, .int .i64 lo, .int .i64 hi, .slice none 0 0] 33)
        simpa using this
      · have := Blk.new ((w.alloc (.cells #[.int .i64 op, .string nm, .int .i64 cmp, .int .i64 val, .int .i64 lo, .int .i64 hi, .slice a ks.length cap] 28)).alloc (.cells #[.int .i64 0, .string ⟨#[]⟩, .int .i64 0, .int .i64 0, .int .i64 0, .int .i64 0, .slice none 0 0] 33)) #[.int .i64 op, .string nm, .int .i64 cmp, .int .i64 val, .int .i64 lo, .int .i64 hi, .slice none 0 0] 33
        simpa using this
    generalize ((w.alloc _).alloc _).alloc _ = w1 at *
    go_loopw [4] (fun i wr => ∃ (k : Nat) (v : Value) (T : List Ft), k ≤ ks.length ∧ i = .int .i64 k ∧ PlainAt w ⟨op, nm, cmp, val, lo, hi⟩ a cap ks k v T wr) (fun i _ => ks.length - (intOf i).toNat)
    case atStart => exact ⟨0, _, [], Nat.zero_le _, rfl, R0⟩
    case round =>
      clear R0
      obtain ⟨k, v, T, hk, rfl, hR⟩ := hrel
      have c6 := hR.box.cell 6 rfl
      have x0 := hR.out.cell 0 rfl
      have x1 := hR.out.cell 1 rfl
      have x2 := hR.out.cell 2 rfl
      have x3 := hR.out.cell 3 rfl
      have x4 := hR.out.cell 4 rfl
      have x5 := hR.out.cell 5 rfl
      have x6 := hR.out.cell 6 rfl
      have fx := fun i => hR.out.free i
      have HR := Go.Lib.hid hR
      clear hR
      by_cases hlt : k < ks.length
      · have hne : ks ≠ [] := fun h => by subst h; simp at hlt
        obtain ⟨b, o, rfl, hD, hc⟩ := HI.out.fs hne
        obtain ⟨d0, d1, d2, d3, d4, d5, d6⟩ := (((hc k ks[k] (by simp [Tr.kids, hlt]))).keep HR.out.quiet (by simp)).seven
        have hks : ks[k].size ≤ 1000 := by have := Tr.size_kid (k := ks[k]) (ks := ks) (by simp); have := HSZ.out; simp only [Tr.size] at this; omega
        have hin2 := (HI.out.kid (k := ks[k]) (by simp [Tr.kids]))
        have HK : Hid (∀ w2, Quiet wr w2 → Calls Tryd.prog 66 #[Ft.val ks[k]] w2 (Built (Ft.pl ks[k]) w2)) := fun w2 hq => HIH.out ks[k] (by simp) hks w2 ((hin2.quiet HR.out.quiet).quiet hq)
        clear hc hD
        unfold Ft.val at HK
        have HE := Go.Lib.hid (leftL_drop ks k hlt)
        generalize ks[k] = kk at *
        obtain ⟨i0, hi0, hz0, hz1, hz2⟩ := info_parts info33
        go_wp2_with fail
        go_region_law (first
          | (refine step_append_lies (w := w3.alloc (.cells #[.int .i64 t'.top.n.op, .string t'.top.n.nm, .int .i64 t'.top.n.cmp, .int .i64 t'.top.n.val, .int .i64 t'.top.n.lo, .int .i64 t'.top.n.hi, .slice t'.top.a t'.kids.length t'.top.cap] 33)) rfl (.tmp 31) (.tmp 38) 31 rfl (w.heap.size + 3) 33 i0 _ 7 80 Tryd.underlying31 hi0 hz0 hz1 hz2 rfl (by decide) v T.length (T.flatMap Ft.cells) (by simp [Act.eval]) RR.out.1 ⟨w3.heap.size, 0, none⟩ 1 1 (Ft.cells t') (by simp [Act.eval]) rfl HNW.out (cells_one t') (by omega) HLN.out.1 HLN.out.2.1 HLN.out.2.2 (w3.heap.size + 1) (by simp) ?_; intro g cp w4 hown hgrow hat hlt4; obtain ⟨hb4, hP4⟩ := HR.out.step Q3.out HIN.out HPL.out HE.out hown hgrow hat; have HP4 := Go.Lib.hid hP4; have z6 := hb4.cell 6 rfl; have f6 := fun i => hb4.free i; clear hb4 hP4 hown hgrow hat hlt4)
          | (go_simp; go_at_call 66; refine (HK.out _ (by with_reducible exact (Alters.refl _).drew)).mono ?_; rintro e w3 ⟨t', rfl, hpl, hin3, hq3⟩; unfold Ft.val; have Q3 : Hid (Quiet wr w3) := ((Alters.refl wr).drew).trans hq3; have HIN : Hid (In (fun j => wr.heap.size ≤ j) w3 t') := hin3; have HPL := Go.Lib.hid hpl; have y6 := Q3.out.cell x6 (by simp); have y7 := ((Alters.refl (p := fun _ => False) w3).alloc (.cells #[.int .i64 t'.top.n.op, .string t'.top.n.nm, .int .i64 t'.top.n.cmp, .int .i64 t'.top.n.val, .int .i64 t'.top.n.lo, .int .i64 t'.top.n.hi, .slice t'.top.a t'.kids.length t'.top.cap] 33)).cell y6 (by simp);
             have RR := Go.Lib.hid ((HR.out.row.quiet Q3.out).quiet ((Alters.refl _).alloc (.cells #[.int .i64 t'.top.n.op, .string t'.top.n.nm, .int .i64 t'.top.n.cmp, .int .i64 t'.top.n.val, .int .i64 t'.top.n.lo, .int .i64 t'.top.n.hi, .slice t'.top.a t'.kids.length t'.top.cap] 33)));
             have HNW : Hid (∀ j u, (Ft.cells t')[j]? = some u → (w3.alloc (.cells #[.int .i64 t'.top.n.op, .string t'.top.n.nm, .int .i64 t'.top.n.cmp, .int .i64 t'.top.n.val, .int .i64 t'.top.n.lo, .int .i64 t'.top.n.hi, .slice t'.top.a t'.kids.length t'.top.cap] 33)).cell? ((⟨w3.heap.size, 0, none⟩ : Addr).add j) = some u) := World.news_of_block (Blk.new w3 _ 33);
             have HLN : Hid (T.length + 1 ≤ maxLen ∧ (T.length + 1) * 80 ≤ 140737488355328 ∧ w.heap.size + 3 ≤ (w3.alloc (.cells #[.int .i64 t'.top.n.op, .string t'.top.n.nm, .int .i64 t'.top.n.cmp, .int .i64 t'.top.n.val, .int .i64 t'.top.n.lo, .int .i64 t'.top.n.hi, .slice t'.top.a t'.kids.length t'.top.cap] 33)).heap.size) := ⟨by have := HR.out.len; unfold maxLen; omega, by have := HR.out.len; omega, by have := HR.out.out.lt; have := Q3.out.size; simp; omega⟩;
             clear hpl hin3 hq3))
        all_goals
          clear z6 f6 y6 y7 d0 d1 d2 d3 d4 d5 d6 x0 x1 x2 x3 x4 x5 x6 fx RR HNW HLN HIN HPL Q3
          go_wp2
          go_roundw
          case rel => exact ⟨k + 1, _, _, by omega, by go_num, HP4.out⟩
          case measure => simp [intOf]; omega
      · obtain rfl : k = ks.length := by omega
        obtain ⟨A, c, rfl⟩ := HR.out.row.form
        have r0 := HR.out.res.cell 0 rfl
        have r1 := HR.out.res.cell 1 rfl
        have r2 := HR.out.res.cell 2 rfl
        have r3 := HR.out.res.cell 3 rfl
        have r4 := HR.out.res.cell 4 rfl
        have r5 := HR.out.res.cell 5 rfl
        have r6 := HR.out.res.cell 6 rfl
        have fr := fun i => HR.out.res.free i
        go_wp2
        have hs := set7 wr (w.heap.size + 1) (.int .i64 op) (.string nm) (.int .i64 cmp) (.int .i64 val) (.int .i64 lo) (.int .i64 hi) (.slice A T.length c)
        refine bodyPost_ret (v := Ft.val (.nd ⟨⟨op, nm, cmp, val, lo, hi⟩, A, c⟩ T)) (by simp [results, Tryd.results66, go_sem, Ft.val, Tr.top, Tr.kids, r0, r1, r2, r3, r4, r5, r6]) rfl ⟨_, rfl, ?_, ?_, HR.out.quiet.then hs (fun i hi e => by omega)⟩
        · have := HR.out.pls
          rw [List.take_length] at this
          simp [Ft.pl, Tr.map, Tr.mapL_eq]
          exact this
        · exact (HR.out.row.keep hs (fun k hk e => by have := (HR.out.row.1.lt k hk).1; omega) (fun k hk _ _ e => by omega)).node _ (by have := HR.out.len; unfold maxLen; omega) (fun k hk => by omega) (fun k hk => by omega)

end Go.Proofs.YtnpcakakjhiboaaDoor
