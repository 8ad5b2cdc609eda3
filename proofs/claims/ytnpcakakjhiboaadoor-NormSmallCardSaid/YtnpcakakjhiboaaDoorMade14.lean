/- What becomes of a sound formula, as the model makes it. No condition. -/
import Derived.Test.YtnpcakakjhiboaaDoorVal14
import Derived.Test.YtnpcakakjhiboaaDoorForm
import Derived.Test.YtnpcakakjhiboaaDoorCalm
namespace Go.Proofs.YtnpcakakjhiboaaDoor
open Go.RowKit Go.Lo Go.WideShapes

/-- What lies where the model's made goes on: its box, the result's, the boxes of what was made. -/
structure MadeAt (w : World) (D : Nat → Prop) (cs : Array Value) (L : List (Nat × Ft × Fm)) (W : World) : Prop where
  box : Blk W w.heap.size cs 33
  res : Blk W (w.heap.size + 1) #[.int .i64 0, .string ⟨#[]⟩, .int .i64 0, .int .i64 0, .int .i64 0, .int .i64 0, .slice none 0 0] 33
  boxes : ∀ p, p ∈ L → Blk W p.1 (Ft.cells p.2.1).toArray 33 ∧ MadeIn D p.2.2 (Ft.val p.2.1) W
  quiet : Quiet w W
  big : w.heap.size + 2 ≤ W.heap.size

theorem MadeAt.keep {w : World} {D : Nat → Prop} {cs : Array Value} {L : List (Nat × Ft × Fm)} (W W' : World) (hq : Quiet W W') (h : MadeAt w D cs L W) : MadeAt w D cs L W' :=
  ⟨hq.blk h.box (by simp), hq.blk h.res (by simp), fun p hp => ⟨hq.blk (h.boxes p hp).1 (by simp), (h.boxes p hp).2.quiet hq⟩, h.quiet.trans hq, Nat.le_trans h.big hq.size⟩

theorem MadeAt.at_box {w W : World} {D : Nat → Prop} {cs : Array Value} {L : List (Nat × Ft × Fm)} (h : MadeAt w D cs L W) (p : Nat × Ft × Fm) (hp : p ∈ L) :
    (W.cell? ⟨p.1, 0, none⟩ = some (.int .i64 p.2.1.top.n.op) ∧ W.cell? ⟨p.1, 1, none⟩ = some (.string p.2.1.top.n.nm) ∧ W.cell? ⟨p.1, 2, none⟩ = some (.int .i64 p.2.1.top.n.cmp) ∧ W.cell? ⟨p.1, 3, none⟩ = some (.int .i64 p.2.1.top.n.val) ∧
      W.cell? ⟨p.1, 4, none⟩ = some (.int .i64 p.2.1.top.n.lo) ∧ W.cell? ⟨p.1, 5, none⟩ = some (.int .i64 p.2.1.top.n.hi) ∧ W.cell? ⟨p.1, 6, none⟩ = some (.slice p.2.1.top.a p.2.1.kids.length p.2.1.top.cap)) ∧ MadeIn D p.2.2 (Ft.val p.2.1) W :=
  ⟨seven_cells (h.boxes p hp).1, (h.boxes p hp).2⟩

/-- The result is stored. -/
theorem made_ends {w W : World} {D D1 : Nat → Prop} {cs : Array Value} {L : List (Nat × Ft × Fm)} {t : Ft} {f : Fm} (hd : (fun k => D k ∧ k ≠ w.heap.size + 1) = D1) (hA : MadeAt w D1 cs L W) (hi : In D1 W t) (hp : Ft.pl t = f) :
    Gives D f w (.returned (Ft.val t)) (((((((W.setCell ⟨w.heap.size + 1, 0, none⟩ (.int .i64 t.top.n.op)).setCell ⟨w.heap.size + 1, 1, none⟩ (.string t.top.n.nm)).setCell ⟨w.heap.size + 1, 2, none⟩ (.int .i64 t.top.n.cmp)).setCell ⟨w.heap.size + 1, 3, none⟩ (.int .i64 t.top.n.val)).setCell ⟨w.heap.size + 1, 4, none⟩ (.int .i64 t.top.n.lo)).setCell ⟨w.heap.size + 1, 5, none⟩ (.int .i64 t.top.n.hi)).setCell ⟨w.heap.size + 1, 6, none⟩ (.slice t.top.a t.kids.length t.top.cap)) ∧
    Blk (((((((W.setCell ⟨w.heap.size + 1, 0, none⟩ (.int .i64 t.top.n.op)).setCell ⟨w.heap.size + 1, 1, none⟩ (.string t.top.n.nm)).setCell ⟨w.heap.size + 1, 2, none⟩ (.int .i64 t.top.n.cmp)).setCell ⟨w.heap.size + 1, 3, none⟩ (.int .i64 t.top.n.val)).setCell ⟨w.heap.size + 1, 4, none⟩ (.int .i64 t.top.n.lo)).setCell ⟨w.heap.size + 1, 5, none⟩ (.int .i64 t.top.n.hi)).setCell ⟨w.heap.size + 1, 6, none⟩ (.slice t.top.a t.kids.length t.top.cap)) (w.heap.size + 1) #[.int .i64 t.top.n.op, .string t.top.n.nm, .int .i64 t.top.n.cmp, .int .i64 t.top.n.val, .int .i64 t.top.n.lo, .int .i64 t.top.n.hi, .slice t.top.a t.kids.length t.top.cap] 33 := by
  have hs7 := set7 W (w.heap.size + 1) (.int .i64 t.top.n.op) (.string t.top.n.nm) (.int .i64 t.top.n.cmp) (.int .i64 t.top.n.val) (.int .i64 t.top.n.lo) (.int .i64 t.top.n.hi) (.slice t.top.a t.kids.length t.top.cap)
  subst hd
  exact ⟨⟨_, rfl, ⟨t, rfl, hp, (hi.keep hs7 (fun k hk _ e => hk.2 e)).mono (fun k _ hk => hk.1)⟩, hA.quiet.then hs7 (fun i hi e => by omega)⟩, blk7 hA.res _ _ _ _ _ _ _⟩

set_option maxRecDepth 100000 in
set_option maxHeartbeats 4000000 in
theorem made14_v (t : Ft) : sound (Ft.pl t) → ∀ (D : Nat → Prop) (w : World), In D w t → (∀ k, w.heap.size ≤ k → D k) → Calls Tryd.prog 73 #[t.val] w (Gives D (made (Ft.pl t)) w) := by
  induction t using Tr.ind with
  | h x ks ih =>
    intro hs D w hin hD
    obtain ⟨⟨op, nm, cmp, val, lo, hi⟩, a, cap⟩ := x
    rw [pl_nd] at hs
    have hmade : made (Ft.pl (.nd ⟨⟨op, nm, cmp, val, lo, hi⟩, a, cap⟩ ks)) = become ⟨op, nm, cmp, val, lo, hi⟩ ((ks.map Ft.pl).map made) := by rw [pl_nd, made_nd]
    obtain ⟨h1, h12, hk, -, h9⟩ := wrong_zero (sound_top hs)
    rw [List.length_map] at hk
    simp only at h1 h12 hk h9
    have hd1 : In (fun k => D k ∧ k ≠ w.heap.size + 1) w (.nd ⟨⟨op, nm, cmp, val, lo, hi⟩, a, cap⟩ ks) := hin.cut.mono (fun k _ h => ⟨h.1, by omega⟩)
    have hD1 : ∀ W : World, w.heap.size + 2 ≤ W.heap.size → ∀ k, W.heap.size ≤ k → D k ∧ k ≠ w.heap.size + 1 := fun W hW k hk => ⟨hD k (by omega), by omega⟩
    generalize hDe : (fun k => D k ∧ k ≠ w.heap.size + 1) = D1 at *
    have HM := Go.Lib.hid hmade
    have HI := Go.Lib.hid hd1
    have HIH := Go.Lib.hid ih
    have HS := Go.Lib.hid hs
    have HD := Go.Lib.hid hD
    have HDE := Go.Lib.hid hDe
    have HD1 : Hid (∀ W : World, w.heap.size + 2 ≤ W.heap.size → ∀ k, W.heap.size ≤ k → D1 k) := fun W hW k hk => by rw [← hDe]; exact hD1 W hW k hk
    clear hmade hin hd1 ih hs hD hDe hD1
    by_cases h3 : op ≤ 3
    · have hz : ks = [] := List.eq_nil_of_length_eq_zero (by rw [hk]; unfold kidsOf; rw [if_pos h3])
      obtain ⟨rfl, rfl⟩ := h9 (by omega)
      subst hz
      have HN := Go.Lib.hid (show made _ = Ft.pl (.nd ⟨⟨op, nm, cmp, val, 0, 0⟩, a, cap⟩ []) from HM.out.trans (by rw [pl_nd]; unfold become become2; simp only; rw [if_pos (by omega)]; rfl))
      clear h9 HIH
      unfold Ft.val
      simp only [Tr.top, Tr.kids]
      go_enter Tryd.func73, Tryd.ntmps73
      go_wp2
      have hb0 := alloc2 w (.cells #[.int .i64 op, .string nm, .int .i64 cmp, .int .i64 val, .int .i64 0, .int .i64 0, .slice a 0 cap] 33) #[.int .i64 op, .string nm, .int .i64 cmp, .int .i64 val, .int .i64 0, .int .i64 0, .slice a 0 cap] 33
      obtain ⟨r0, r1, r2, r3, r4, r5, r6⟩ := seven_cells hb0
      exact bodyPost_ret (v := Ft.val (.nd ⟨⟨op, nm, cmp, val, 0, 0⟩, a, cap⟩ [])) (by simp [results, Tryd.results73, go_sem, Ft.val, Tr.top, Tr.kids, r0, r1, r2, r3, r4, r5, r6]) rfl ⟨_, rfl, ⟨_, rfl, HN.out.symm, In.leaf _ _ _⟩, ((Alters.refl _).alloc _).alloc _⟩
    have h3' : decide (op ≤ 3) = false := by simpa using h3
    have hks : ks ≠ [] := fun e => by subst e; have := kids_0 (op := op) (by simpa using hk.symm); omega
    obtain ⟨k1, r, rfl⟩ := List.exists_cons_of_ne_nil hks
    clear hks
    obtain ⟨b, o, rfl, -, hc⟩ := HI.out.fs (by simp [Tr.kids])
    have hseven := (hc 0 k1 rfl)
    rw [Nat.zero_mul, Nat.add_zero] at hseven
    obtain ⟨d0, d1, d2, d3, d4, d5, d6⟩ := hseven.seven
    have HC := Go.Lib.hid hc
    clear hseven hc
    unfold Ft.val
    simp only [Tr.top, Tr.kids, List.length_cons]
    go_enter Tryd.func73, Tryd.ntmps73
    go_upto_region 3 with (fail)
    have B : Hid (Blk ((w.alloc (.cells #[.int .i64 op, .string nm, .int .i64 cmp, .int .i64 val, .int .i64 lo, .int .i64 hi, .slice (some ⟨b, o, none⟩) (r.length + 1) cap] 33)).alloc (.cells #[.int .i64 0, .string ⟨#[]⟩, .int .i64 0, .int .i64 0, .int .i64 0, .int .i64 0, .slice none 0 0] 33)) w.heap.size #[.int .i64 op, .string nm, .int .i64 cmp, .int .i64 val, .int .i64 lo, .int .i64 hi, .slice (some ⟨b, o, none⟩) (r.length + 1) cap] 33) := (Blk.new _ _ _).alloc _
    have BR : Hid (Blk ((w.alloc (.cells #[.int .i64 op, .string nm, .int .i64 cmp, .int .i64 val, .int .i64 lo, .int .i64 hi, .slice (some ⟨b, o, none⟩) (r.length + 1) cap] 33)).alloc (.cells #[.int .i64 0, .string ⟨#[]⟩, .int .i64 0, .int .i64 0, .int .i64 0, .int .i64 0, .slice none 0 0] 33)) (w.heap.size + 1) #[.int .i64 0, .string ⟨#[]⟩, .int .i64 0, .int .i64 0, .int .i64 0, .int .i64 0, .slice none 0 0] 33) := alloc2 _ _ _ _
    have HQ : Hid (Quiet w ((w.alloc (.cells #[.int .i64 op, .string nm, .int .i64 cmp, .int .i64 val, .int .i64 lo, .int .i64 hi, .slice (some ⟨b, o, none⟩) (r.length + 1) cap] 33)).alloc (.cells #[.int .i64 0, .string ⟨#[]⟩, .int .i64 0, .int .i64 0, .int .i64 0, .int .i64 0, .slice none 0 0] 33))) := ((Alters.refl _).alloc _).alloc _
    generalize (w.alloc _).alloc _ = w1 at *
    obtain ⟨c0, c1, c2, c3, c4, c5, c6⟩ := seven_cells B.out
    replace d0 := HQ.out.cell d0 (by simp)
    replace d1 := HQ.out.cell d1 (by simp)
    replace d2 := HQ.out.cell d2 (by simp)
    replace d3 := HQ.out.cell d3 (by simp)
    replace d4 := HQ.out.cell d4 (by simp)
    replace d5 := HQ.out.cell d5 (by simp)
    replace d6 := HQ.out.cell d6 (by simp)
    have hbig : w.heap.size + 2 ≤ w1.heap.size := BR.out.lt
    have HK := Go.Lib.hid (HIH.out k1 (by simp) (sound_kid HS.out (by simp)) D1 w1 ((HI.out.kid (k := k1) (by simp [Tr.kids])).quiet HQ.out) (HD1.out w1 hbig))
    unfold Ft.val at HK
    have hs4 := made_has4 (Ft.pl k1)
    have H4 := Go.Lib.hid hs4
    clear hs4
    generalize hm1 : made (Ft.pl k1) = m1 at *
    have HM1 := Go.Lib.hid hm1
    clear hm1
    go_wp2_with fail
    refine HK.out.mono ?_
    rintro e w2 ⟨v, rfl, ⟨t1, rfl, hp1, hi1⟩, hq2⟩
    have HP1 := Go.Lib.hid hp1
    have HI1 := Go.Lib.hid hi1
    have HQ2 := Go.Lib.hid hq2
    unfold Ft.val
    clear c0 c1 c2 c3 c4 c5 c6 d0 d1 d2 d3 d4 d5 d6 hp1 hi1 hq2 HK
    go_upto_region 4 with (fail)
    have hb7 : Blk (w2.alloc (.cells #[.int .i64 t1.top.n.op, .string t1.top.n.nm, .int .i64 t1.top.n.cmp, .int .i64 t1.top.n.val, .int .i64 t1.top.n.lo, .int .i64 t1.top.n.hi, .slice t1.top.a t1.kids.length t1.top.cap] 33)) w2.heap.size (Ft.cells t1).toArray 33 ∧ Quiet w2 (w2.alloc (.cells #[.int .i64 t1.top.n.op, .string t1.top.n.nm, .int .i64 t1.top.n.cmp, .int .i64 t1.top.n.val, .int .i64 t1.top.n.lo, .int .i64 t1.top.n.hi, .slice t1.top.a t1.kids.length t1.top.cap] 33)) := ⟨Blk.new _ _ _, (Alters.refl _).alloc _⟩
    have HA := Go.Lib.hid (show MadeAt w D1 #[.int .i64 op, .string nm, .int .i64 cmp, .int .i64 val, .int .i64 lo, .int .i64 hi, .slice (some ⟨b, o, none⟩) (r.length + 1) cap] [(w2.heap.size, t1, m1)] _ from
      ⟨hb7.2.blk (HQ2.out.blk B.out (by simp)) (by simp), hb7.2.blk (HQ2.out.blk BR.out (by simp)) (by simp), fun p hp => by
        obtain rfl : p = (w2.heap.size, t1, m1) := by simpa using hp
        exact ⟨hb7.1, ⟨t1, rfl, HP1.out, HI1.out.quiet hb7.2⟩⟩, (HQ.out.trans HQ2.out).trans hb7.2, Nat.le_trans hbig (Nat.le_trans HQ2.out.size hb7.2.size)⟩)
    have HBX := Go.Lib.hid (show w2.heap.size ≠ w.heap.size + 1 by have := HQ2.out.size; omega)
    clear hb7 HP1 HI1 HQ2 B BR HQ hbig
    generalize w2.heap.size = bx at *
    generalize w2.alloc _ = w3 at *
    by_cases h4 : op = 4
    · have HN := Go.Lib.hid (show made _ = nNot m1 from HM.out.trans (by unfold become become2; simp [h4, HM1.out]))
      have q4 : (op == 4) = true := by simpa using h4
      clear h4
      obtain ⟨c0, c1, c2, c3, c4, c5, c6⟩ := seven_cells HA.out.box
      obtain ⟨x0, x1, x2, x3, x4, x5, x6⟩ := (HA.out.at_box (bx, t1, m1) (by simp)).1
      have fr := fun i => HA.out.res.free i
      obtain ⟨r0, r1, r2, r3, r4, r5, r6⟩ := seven_cells HA.out.res
      have HC := Go.Lib.hid (not14_v (HD1.out w3 HA.out.big) (HA.out.at_box (bx, t1, m1) (by simp)).2 H4.out)
      unfold Ft.val at HC
      go_wp2_with fail
      refine HC.out.mono ?_
      rintro e W ⟨v, rfl, ⟨t9, rfl, hp9, hi9⟩, hq9⟩
      have hS := HA.out.keep _ _ hq9
      clear c0 c1 c2 c3 c4 c5 c6 x0 x1 x2 x3 x4 x5 x6 fr r0 r1 r2 r3 r4 r5 r6 HC
      unfold Ft.val
      have fr := fun i => hS.res.free i
      obtain ⟨hg, hb⟩ := made_ends HDE.out hS hi9 (hp9.trans HN.out.symm)
      have HG := Go.Lib.hid hg
      clear hg hp9 hi9 hq9
      obtain ⟨r0, r1, r2, r3, r4, r5, r6⟩ := seven_cells hS.res
      have HSS := Go.Lib.hid hS
      clear hS
      go_wp2
      clear r0 r1 r2 r3 r4 r5 r6
      obtain ⟨r0, r1, r2, r3, r4, r5, r6⟩ := seven_cells hb
      exact bodyPost_ret (v := Ft.val t9) (by simp [results, Tryd.results73, go_sem, Ft.val, r0, r1, r2, r3, r4, r5, r6]) rfl HG.out
    have b4 : (op == 4) = false := by simpa using h4
    by_cases h9' : op = 9
    · have HN := Go.Lib.hid (show made _ = nEv lo hi m1 from HM.out.trans (by unfold become become2; simp [h9', HM1.out]))
      have q9 : (op == 9) = true := by simpa using h9'
      clear h9'
      obtain ⟨c0, c1, c2, c3, c4, c5, c6⟩ := seven_cells HA.out.box
      obtain ⟨x0, x1, x2, x3, x4, x5, x6⟩ := (HA.out.at_box (bx, t1, m1) (by simp)).1
      have fr := fun i => HA.out.res.free i
      obtain ⟨r0, r1, r2, r3, r4, r5, r6⟩ := seven_cells HA.out.res
      have HC := Go.Lib.hid (ev14_v (lo := lo) (hi := hi) (HD1.out w3 HA.out.big) (HA.out.at_box (bx, t1, m1) (by simp)).2)
      unfold Ft.val at HC
      go_wp2_with fail
      refine HC.out.mono ?_
      rintro e W ⟨v, rfl, ⟨t9, rfl, hp9, hi9⟩, hq9⟩
      have hS := HA.out.keep _ _ hq9
      clear c0 c1 c2 c3 c4 c5 c6 x0 x1 x2 x3 x4 x5 x6 fr r0 r1 r2 r3 r4 r5 r6 HC
      unfold Ft.val
      have fr := fun i => hS.res.free i
      obtain ⟨hg, hb⟩ := made_ends HDE.out hS hi9 (hp9.trans HN.out.symm)
      have HG := Go.Lib.hid hg
      clear hg hp9 hi9 hq9
      obtain ⟨r0, r1, r2, r3, r4, r5, r6⟩ := seven_cells hS.res
      have HSS := Go.Lib.hid hS
      clear hS
      go_wp2
      clear r0 r1 r2 r3 r4 r5 r6
      obtain ⟨r0, r1, r2, r3, r4, r5, r6⟩ := seven_cells hb
      exact bodyPost_ret (v := Ft.val t9) (by simp [results, Tryd.results73, go_sem, Ft.val, r0, r1, r2, r3, r4, r5, r6]) rfl HG.out
    have b9 : (op == 9) = false := by simpa using h9'
    by_cases h10 : op = 10
    · have HN := Go.Lib.hid (show made _ = nNot (nEv lo hi (nNot m1)) from HM.out.trans (by unfold become become2; simp [h10, HM1.out]))
      have q10 : (op == 10) = true := by simpa using h10
      clear h10
      obtain ⟨c0, c1, c2, c3, c4, c5, c6⟩ := seven_cells HA.out.box
      obtain ⟨x0, x1, x2, x3, x4, x5, x6⟩ := (HA.out.at_box (bx, t1, m1) (by simp)).1
      have fr := fun i => HA.out.res.free i
      obtain ⟨r0, r1, r2, r3, r4, r5, r6⟩ := seven_cells HA.out.res
      go_upto_region 9 with (fail)
      clear c0 c1 c2 c3 c4 c5 c6 x0 x1 x2 x3 x4 x5 x6 fr r0 r1 r2 r3 r4 r5 r6
      refine wp_region_wants (by kernel_rfl) (by kernel_rfl) (by kernel_rfl) (by kernel_rfl) (MadeAt w D1 #[.int .i64 op, .string nm, .int .i64 cmp, .int .i64 val, .int .i64 lo, .int .i64 hi, .slice (some ⟨b, o, none⟩) (r.length + 1) cap] [(bx, t1, m1)]) (fun _ _ hq h => h.keep _ _ hq) [Want.is (.pointer (some ⟨w.heap.size, 4, none⟩)), Want.is (.int .i64 lo), Want.is (.pointer (some ⟨w.heap.size, 5, none⟩)), Want.is (.int .i64 hi), Want.fm D1 (m1), Want.fm D1 (nNot (m1)), Want.fm D1 (nEv lo hi (nNot m1)), Want.fm D1 (nNot (nEv lo hi (nNot m1)))] (HA.out.keep _ _ ((Alters.refl _).drew)) (by decide) ?_
      refine Steps.cons ?_ (Steps.cons ?_ (Steps.cons ?_ (Steps.cons ?_ (Steps.cons ?_ (Steps.cons ?_ (Steps.cons ?_ (Steps.cons ?_ (Steps.last ?_))))))))
      · intro u W K hS hF hK
        simp only [putsFrom, Act.put, Nat.reduceAdd, List.setIfInBounds_toArray, List.set_cons_zero, List.set_cons_succ] at hK ⊢
        clear hF
        go_simp
        exact hK.out _ _ (Alters.refl _) rfl
      · intro u W K hS hF hK
        have f0 : u 0 = .pointer (some ⟨w.heap.size, 4, none⟩) := hF 0 (by kernel_rfl)
        simp only [putsFrom, Act.put, Nat.reduceAdd, List.setIfInBounds_toArray, List.set_cons_zero, List.set_cons_succ, f0] at hK ⊢
        clear hF
        obtain ⟨c0, c1, c2, c3, c4, c5, c6⟩ := seven_cells hS.box
        go_simp
        exact hK.out _ _ (Alters.refl _) rfl
      · intro u W K hS hF hK
        simp only [putsFrom, Act.put, Nat.reduceAdd, List.setIfInBounds_toArray, List.set_cons_zero, List.set_cons_succ] at hK ⊢
        clear hF
        go_simp
        exact hK.out _ _ (Alters.refl _) rfl
      · intro u W K hS hF hK
        have f2 : u 2 = .pointer (some ⟨w.heap.size, 5, none⟩) := hF 2 (by kernel_rfl)
        simp only [putsFrom, Act.put, Nat.reduceAdd, List.setIfInBounds_toArray, List.set_cons_zero, List.set_cons_succ, f2] at hK ⊢
        clear hF
        obtain ⟨c0, c1, c2, c3, c4, c5, c6⟩ := seven_cells hS.box
        go_simp
        exact hK.out _ _ (Alters.refl _) rfl
      · intro u W K hS hF hK
        simp only [putsFrom, Act.put, Nat.reduceAdd, List.setIfInBounds_toArray, List.set_cons_zero, List.set_cons_succ] at hK ⊢
        clear hF
        obtain ⟨x0, x1, x2, x3, x4, x5, x6⟩ := (hS.at_box (bx, t1, m1) (by simp)).1
        go_simp
        exact hK.out _ _ (Alters.refl _) (hS.at_box (bx, t1, m1) (by simp)).2
      · intro u W K hS hF hK
        have f4 : MadeIn D1 (m1) (u 4) W := hF 4 (by kernel_rfl)
        simp only [putsFrom, Act.put, Nat.reduceAdd, List.setIfInBounds_toArray, List.set_cons_zero, List.set_cons_succ] at hK ⊢
        clear hF
        go_simp
        refine (not14_v (HD1.out W hS.big) f4 (H4.out)).mono ?_
        rintro e W2 ⟨v, rfl, hm, hq⟩
        exact hK.out _ _ hq hm
      · intro u W K hS hF hK
        have f1 : u 1 = .int .i64 lo := hF 1 (by kernel_rfl)
        have f3 : u 3 = .int .i64 hi := hF 3 (by kernel_rfl)
        have f5 : MadeIn D1 (nNot m1) (u 5) W := hF 5 (by kernel_rfl)
        simp only [putsFrom, Act.put, Nat.reduceAdd, List.setIfInBounds_toArray, List.set_cons_zero, List.set_cons_succ, f1, f3] at hK ⊢
        clear hF
        go_simp
        refine (ev14_v (HD1.out W hS.big) f5).mono ?_
        rintro e W2 ⟨v, rfl, hm, hq⟩
        exact hK.out _ _ hq hm
      · intro u W K hS hF hK
        have f6 : MadeIn D1 (nEv lo hi (nNot m1)) (u 6) W := hF 6 (by kernel_rfl)
        simp only [putsFrom, Act.put, Nat.reduceAdd, List.setIfInBounds_toArray, List.set_cons_zero, List.set_cons_succ] at hK ⊢
        clear hF
        go_simp
        refine (not14_v (HD1.out W hS.big) f6 (H4.out.not.ev)).mono ?_
        rintro e W2 ⟨v, rfl, hm, hq⟩
        exact hK.out _ _ hq hm
      · intro u W hS hF
        have f7 : MadeIn D1 (nNot (nEv lo hi (nNot m1))) (u 7) W := hF 7 (by simp)
        simp only [putsFrom, Act.put, Nat.reduceAdd, List.setIfInBounds_toArray, List.set_cons_zero, List.set_cons_succ]
        clear hF
        obtain ⟨t9, e9, hp9, hi9⟩ := f7
        simp only [e9]
        unfold Ft.val
        have fr := fun i => hS.res.free i
        obtain ⟨hg, hb⟩ := made_ends HDE.out hS hi9 (hp9.trans HN.out.symm)
        have HG := Go.Lib.hid hg
        clear hg hp9 hi9 e9
        obtain ⟨r0, r1, r2, r3, r4, r5, r6⟩ := seven_cells hS.res
        have HSS := Go.Lib.hid hS
        clear hS
        go_simp
        go_wp2
        clear r0 r1 r2 r3 r4 r5 r6
        obtain ⟨r0, r1, r2, r3, r4, r5, r6⟩ := seven_cells hb
        exact bodyPost_ret (v := Ft.val t9) (by simp [results, Tryd.results73, go_sem, Ft.val, r0, r1, r2, r3, r4, r5, r6]) rfl HG.out
    have b10 : (op == 10) = false := by simpa using h10
    have HK2 := Go.Lib.hid (kids_2 (op := op))
    have hk2 : kidsOf op = 2 := by
      unfold kidsOf
      rw [if_neg (by simpa using h3'), if_neg (by omega)]
    have hr1 : r ≠ [] := fun e => by subst e; simp at hk; omega
    obtain ⟨k2, r2, hr⟩ := List.exists_cons_of_ne_nil hr1
    have HR := Go.Lib.hid (show r = [k2] by
      subst hr
      have : r2.length = 0 := by simp at hk; omega
      rw [List.eq_nil_of_length_eq_zero this])
    clear hr1 hr r2 HK2 hk2 hk
    have hrl : 1 < r.length + 1 := by rw [HR.out]; simp
    have hseven := HC.out 1 k2 (by simp [Tr.kids, HR.out])
    rw [Nat.one_mul] at hseven
    obtain ⟨d0, d1, d2, d3, d4, d5, d6⟩ := (hseven.keep HA.out.quiet (by simp)).seven
    clear hseven
    have hk2m : k2 ∈ k1 :: r := by rw [HR.out]; simp
    have HK := Go.Lib.hid (HIH.out k2 hk2m (sound_kid HS.out (by simp [HR.out])) D1 w3 ((HI.out.kid (k := k2) (by simpa [Tr.kids] using hk2m)).quiet HA.out.quiet) (HD1.out w3 HA.out.big))
    clear hk2m
    unfold Ft.val at HK
    have hs5 := made_has4 (Ft.pl k2)
    have H5 := Go.Lib.hid hs5
    clear hs5
    generalize hm2 : made (Ft.pl k2) = m2 at *
    have HM2 := Go.Lib.hid hm2
    clear hm2
    obtain ⟨c0, c1, c2, c3, c4, c5, c6⟩ := seven_cells HA.out.box
    obtain ⟨x0, x1, x2, x3, x4, x5, x6⟩ := (HA.out.at_box (bx, t1, m1) (by simp)).1
    have fr := fun i => HA.out.res.free i
    obtain ⟨r0, r1, r2, r3, r4, r5, r6⟩ := seven_cells HA.out.res
    go_wp2_with fail
    refine HK.out.mono ?_
    rintro e w4 ⟨v, rfl, ⟨t2, rfl, hp2, hi2⟩, hq4⟩
    have HP2 := Go.Lib.hid hp2
    have HI2 := Go.Lib.hid hi2
    have HQ4 := Go.Lib.hid hq4
    unfold Ft.val
    clear c0 c1 c2 c3 c4 c5 c6 x0 x1 x2 x3 x4 x5 x6 fr r0 r1 r2 r3 r4 r5 r6 d0 d1 d2 d3 d4 d5 d6 hp2 hi2 hq4 HK hrl
    go_upto_region 11 with (fail)
    have hb7 : Blk (w4.alloc (.cells #[.int .i64 t2.top.n.op, .string t2.top.n.nm, .int .i64 t2.top.n.cmp, .int .i64 t2.top.n.val, .int .i64 t2.top.n.lo, .int .i64 t2.top.n.hi, .slice t2.top.a t2.kids.length t2.top.cap] 33)) w4.heap.size (Ft.cells t2).toArray 33 ∧ Quiet w4 (w4.alloc (.cells #[.int .i64 t2.top.n.op, .string t2.top.n.nm, .int .i64 t2.top.n.cmp, .int .i64 t2.top.n.val, .int .i64 t2.top.n.lo, .int .i64 t2.top.n.hi, .slice t2.top.a t2.kids.length t2.top.cap] 33)) := ⟨Blk.new _ _ _, (Alters.refl _).alloc _⟩
    have hA5 := HA.out.keep _ _ (HQ4.out.trans hb7.2)
    replace HA := Go.Lib.hid (show MadeAt w D1 #[.int .i64 op, .string nm, .int .i64 cmp, .int .i64 val, .int .i64 lo, .int .i64 hi, .slice (some ⟨b, o, none⟩) (r.length + 1) cap] [(w4.heap.size, t2, m2), (bx, t1, m1)] _ from
      ⟨hA5.box, hA5.res, fun p hp => by
        rcases List.mem_cons.1 hp with rfl | hp
        · exact ⟨hb7.1, ⟨t2, rfl, HP2.out, HI2.out.quiet hb7.2⟩⟩
        · exact hA5.boxes p hp, hA5.quiet, hA5.big⟩)
    clear hb7 hA5 HP2 HI2 HQ4
    generalize w4.heap.size = by2 at *
    generalize w4.alloc _ = w5 at *
    clear w4 w3
    by_cases h5 : op = 5
    · have HN := Go.Lib.hid (show made _ = nAnd m1 m2 from HM.out.trans (by rw [HR.out]; unfold become become2; simp [h5, HM1.out, HM2.out]))
      have q5 : (op == 5) = true := by simpa using h5
      clear h5
      obtain ⟨c0, c1, c2, c3, c4, c5, c6⟩ := seven_cells HA.out.box
      obtain ⟨x0, x1, x2, x3, x4, x5, x6⟩ := (HA.out.at_box (bx, t1, m1) (by simp)).1
      have fr := fun i => HA.out.res.free i
      obtain ⟨r0, r1, r2, r3, r4, r5, r6⟩ := seven_cells HA.out.res
      obtain ⟨y0, y1, y2, y3, y4, y5, y6⟩ := (HA.out.at_box (by2, t2, m2) (by simp)).1
      have HC := Go.Lib.hid (and14_v (HD1.out w5 HA.out.big) (HA.out.at_box (bx, t1, m1) (by simp)).2 (HA.out.at_box (by2, t2, m2) (by simp)).2)
      unfold Ft.val at HC
      go_wp2_with fail
      refine HC.out.mono ?_
      rintro e W ⟨v, rfl, ⟨t9, rfl, hp9, hi9⟩, hq9⟩
      have hS := HA.out.keep _ _ hq9
      clear c0 c1 c2 c3 c4 c5 c6 x0 x1 x2 x3 x4 x5 x6 fr r0 r1 r2 r3 r4 r5 r6 y0 y1 y2 y3 y4 y5 y6 HC
      unfold Ft.val
      have fr := fun i => hS.res.free i
      obtain ⟨hg, hb⟩ := made_ends HDE.out hS hi9 (hp9.trans HN.out.symm)
      have HG := Go.Lib.hid hg
      clear hg hp9 hi9 hq9
      obtain ⟨r0, r1, r2, r3, r4, r5, r6⟩ := seven_cells hS.res
      have HSS := Go.Lib.hid hS
      clear hS
      go_wp2
      clear r0 r1 r2 r3 r4 r5 r6
      obtain ⟨r0, r1, r2, r3, r4, r5, r6⟩ := seven_cells hb
      exact bodyPost_ret (v := Ft.val t9) (by simp [results, Tryd.results73, go_sem, Ft.val, r0, r1, r2, r3, r4, r5, r6]) rfl HG.out
    have b5 : (op == 5) = false := by simpa using h5
    by_cases h6 : op = 6
    · have HN := Go.Lib.hid (show made _ = nNot (nAnd (nNot m1) (nNot m2)) from HM.out.trans (by rw [HR.out]; unfold become become2; simp [h6, HM1.out, HM2.out]))
      have q6 : (op == 6) = true := by simpa using h6
      clear h6
      obtain ⟨c0, c1, c2, c3, c4, c5, c6⟩ := seven_cells HA.out.box
      obtain ⟨x0, x1, x2, x3, x4, x5, x6⟩ := (HA.out.at_box (bx, t1, m1) (by simp)).1
      have fr := fun i => HA.out.res.free i
      obtain ⟨r0, r1, r2, r3, r4, r5, r6⟩ := seven_cells HA.out.res
      obtain ⟨y0, y1, y2, y3, y4, y5, y6⟩ := (HA.out.at_box (by2, t2, m2) (by simp)).1
      go_upto_region 14 with (fail)
      clear c0 c1 c2 c3 c4 c5 c6 x0 x1 x2 x3 x4 x5 x6 fr r0 r1 r2 r3 r4 r5 r6 y0 y1 y2 y3 y4 y5 y6
      refine wp_region_wants (by kernel_rfl) (by kernel_rfl) (by kernel_rfl) (by kernel_rfl) (MadeAt w D1 #[.int .i64 op, .string nm, .int .i64 cmp, .int .i64 val, .int .i64 lo, .int .i64 hi, .slice (some ⟨b, o, none⟩) (r.length + 1) cap] [(by2, t2, m2), (bx, t1, m1)]) (fun _ _ hq h => h.keep _ _ hq) [Want.fm D1 (m1), Want.fm D1 (nNot (m1)), Want.fm D1 (m2), Want.fm D1 (nNot (m2)), Want.fm D1 (nAnd (nNot m1) (nNot m2)), Want.fm D1 (nNot (nAnd (nNot m1) (nNot m2)))] (HA.out.keep _ _ ((Alters.refl _).drew)) (by decide) ?_
      refine Steps.cons ?_ (Steps.cons ?_ (Steps.cons ?_ (Steps.cons ?_ (Steps.cons ?_ (Steps.cons ?_ (Steps.last ?_))))))
      · intro u W K hS hF hK
        simp only [putsFrom, Act.put, Nat.reduceAdd, List.setIfInBounds_toArray, List.set_cons_zero, List.set_cons_succ] at hK ⊢
        clear hF
        obtain ⟨x0, x1, x2, x3, x4, x5, x6⟩ := (hS.at_box (bx, t1, m1) (by simp)).1
        go_simp
        exact hK.out _ _ (Alters.refl _) (hS.at_box (bx, t1, m1) (by simp)).2
      · intro u W K hS hF hK
        have f0 : MadeIn D1 (m1) (u 0) W := hF 0 (by kernel_rfl)
        simp only [putsFrom, Act.put, Nat.reduceAdd, List.setIfInBounds_toArray, List.set_cons_zero, List.set_cons_succ] at hK ⊢
        clear hF
        go_simp
        refine (not14_v (HD1.out W hS.big) f0 (H4.out)).mono ?_
        rintro e W2 ⟨v, rfl, hm, hq⟩
        exact hK.out _ _ hq hm
      · intro u W K hS hF hK
        simp only [putsFrom, Act.put, Nat.reduceAdd, List.setIfInBounds_toArray, List.set_cons_zero, List.set_cons_succ] at hK ⊢
        clear hF
        obtain ⟨x0, x1, x2, x3, x4, x5, x6⟩ := (hS.at_box (by2, t2, m2) (by simp)).1
        go_simp
        exact hK.out _ _ (Alters.refl _) (hS.at_box (by2, t2, m2) (by simp)).2
      · intro u W K hS hF hK
        have f2 : MadeIn D1 (m2) (u 2) W := hF 2 (by kernel_rfl)
        simp only [putsFrom, Act.put, Nat.reduceAdd, List.setIfInBounds_toArray, List.set_cons_zero, List.set_cons_succ] at hK ⊢
        clear hF
        go_simp
        refine (not14_v (HD1.out W hS.big) f2 (H5.out)).mono ?_
        rintro e W2 ⟨v, rfl, hm, hq⟩
        exact hK.out _ _ hq hm
      · intro u W K hS hF hK
        have f1 : MadeIn D1 (nNot m1) (u 1) W := hF 1 (by kernel_rfl)
        have f3 : MadeIn D1 (nNot m2) (u 3) W := hF 3 (by kernel_rfl)
        simp only [putsFrom, Act.put, Nat.reduceAdd, List.setIfInBounds_toArray, List.set_cons_zero, List.set_cons_succ] at hK ⊢
        clear hF
        go_simp
        refine (and14_v (HD1.out W hS.big) f1 f3).mono ?_
        rintro e W2 ⟨v, rfl, hm, hq⟩
        exact hK.out _ _ hq hm
      · intro u W K hS hF hK
        have f4 : MadeIn D1 (nAnd (nNot m1) (nNot m2)) (u 4) W := hF 4 (by kernel_rfl)
        simp only [putsFrom, Act.put, Nat.reduceAdd, List.setIfInBounds_toArray, List.set_cons_zero, List.set_cons_succ] at hK ⊢
        clear hF
        go_simp
        refine (not14_v (HD1.out W hS.big) f4 (H4.out.not.and H5.out.not)).mono ?_
        rintro e W2 ⟨v, rfl, hm, hq⟩
        exact hK.out _ _ hq hm
      · intro u W hS hF
        have f5 : MadeIn D1 (nNot (nAnd (nNot m1) (nNot m2))) (u 5) W := hF 5 (by simp)
        simp only [putsFrom, Act.put, Nat.reduceAdd, List.setIfInBounds_toArray, List.set_cons_zero, List.set_cons_succ]
        clear hF
        obtain ⟨t9, e9, hp9, hi9⟩ := f5
        simp only [e9]
        unfold Ft.val
        have fr := fun i => hS.res.free i
        obtain ⟨hg, hb⟩ := made_ends HDE.out hS hi9 (hp9.trans HN.out.symm)
        have HG := Go.Lib.hid hg
        clear hg hp9 hi9 e9
        obtain ⟨r0, r1, r2, r3, r4, r5, r6⟩ := seven_cells hS.res
        have HSS := Go.Lib.hid hS
        clear hS
        go_simp
        go_wp2
        clear r0 r1 r2 r3 r4 r5 r6
        obtain ⟨r0, r1, r2, r3, r4, r5, r6⟩ := seven_cells hb
        exact bodyPost_ret (v := Ft.val t9) (by simp [results, Tryd.results73, go_sem, Ft.val, r0, r1, r2, r3, r4, r5, r6]) rfl HG.out
    have b6 : (op == 6) = false := by simpa using h6
    by_cases h7 : op = 7
    · have HN := Go.Lib.hid (show made _ = nNot (nAnd m1 (nNot m2)) from HM.out.trans (by rw [HR.out]; unfold become become2; simp [h7, HM1.out, HM2.out]))
      have q7 : (op == 7) = true := by simpa using h7
      clear h7
      obtain ⟨c0, c1, c2, c3, c4, c5, c6⟩ := seven_cells HA.out.box
      obtain ⟨x0, x1, x2, x3, x4, x5, x6⟩ := (HA.out.at_box (bx, t1, m1) (by simp)).1
      have fr := fun i => HA.out.res.free i
      obtain ⟨r0, r1, r2, r3, r4, r5, r6⟩ := seven_cells HA.out.res
      obtain ⟨y0, y1, y2, y3, y4, y5, y6⟩ := (HA.out.at_box (by2, t2, m2) (by simp)).1
      go_upto_region 16 with (fail)
      clear c0 c1 c2 c3 c4 c5 c6 x0 x1 x2 x3 x4 x5 x6 fr r0 r1 r2 r3 r4 r5 r6 y0 y1 y2 y3 y4 y5 y6
      refine wp_region_wants (by kernel_rfl) (by kernel_rfl) (by kernel_rfl) (by kernel_rfl) (MadeAt w D1 #[.int .i64 op, .string nm, .int .i64 cmp, .int .i64 val, .int .i64 lo, .int .i64 hi, .slice (some ⟨b, o, none⟩) (r.length + 1) cap] [(by2, t2, m2), (bx, t1, m1)]) (fun _ _ hq h => h.keep _ _ hq) [Want.fm D1 (m1), Want.fm D1 (m2), Want.fm D1 (nNot (m2)), Want.fm D1 (nAnd (m1) (nNot m2)), Want.fm D1 (nNot (nAnd m1 (nNot m2)))] (HA.out.keep _ _ ((Alters.refl _).drew)) (by decide) ?_
      refine Steps.cons ?_ (Steps.cons ?_ (Steps.cons ?_ (Steps.cons ?_ (Steps.cons ?_ (Steps.last ?_)))))
      · intro u W K hS hF hK
        simp only [putsFrom, Act.put, Nat.reduceAdd, List.setIfInBounds_toArray, List.set_cons_zero, List.set_cons_succ] at hK ⊢
        clear hF
        obtain ⟨x0, x1, x2, x3, x4, x5, x6⟩ := (hS.at_box (bx, t1, m1) (by simp)).1
        go_simp
        exact hK.out _ _ (Alters.refl _) (hS.at_box (bx, t1, m1) (by simp)).2
      · intro u W K hS hF hK
        simp only [putsFrom, Act.put, Nat.reduceAdd, List.setIfInBounds_toArray, List.set_cons_zero, List.set_cons_succ] at hK ⊢
        clear hF
        obtain ⟨x0, x1, x2, x3, x4, x5, x6⟩ := (hS.at_box (by2, t2, m2) (by simp)).1
        go_simp
        exact hK.out _ _ (Alters.refl _) (hS.at_box (by2, t2, m2) (by simp)).2
      · intro u W K hS hF hK
        have f1 : MadeIn D1 (m2) (u 1) W := hF 1 (by kernel_rfl)
        simp only [putsFrom, Act.put, Nat.reduceAdd, List.setIfInBounds_toArray, List.set_cons_zero, List.set_cons_succ] at hK ⊢
        clear hF
        go_simp
        refine (not14_v (HD1.out W hS.big) f1 (H5.out)).mono ?_
        rintro e W2 ⟨v, rfl, hm, hq⟩
        exact hK.out _ _ hq hm
      · intro u W K hS hF hK
        have f0 : MadeIn D1 (m1) (u 0) W := hF 0 (by kernel_rfl)
        have f2 : MadeIn D1 (nNot m2) (u 2) W := hF 2 (by kernel_rfl)
        simp only [putsFrom, Act.put, Nat.reduceAdd, List.setIfInBounds_toArray, List.set_cons_zero, List.set_cons_succ] at hK ⊢
        clear hF
        go_simp
        refine (and14_v (HD1.out W hS.big) f0 f2).mono ?_
        rintro e W2 ⟨v, rfl, hm, hq⟩
        exact hK.out _ _ hq hm
      · intro u W K hS hF hK
        have f3 : MadeIn D1 (nAnd m1 (nNot m2)) (u 3) W := hF 3 (by kernel_rfl)
        simp only [putsFrom, Act.put, Nat.reduceAdd, List.setIfInBounds_toArray, List.set_cons_zero, List.set_cons_succ] at hK ⊢
        clear hF
        go_simp
        refine (not14_v (HD1.out W hS.big) f3 (H4.out.and H5.out.not)).mono ?_
        rintro e W2 ⟨v, rfl, hm, hq⟩
        exact hK.out _ _ hq hm
      · intro u W hS hF
        have f4 : MadeIn D1 (nNot (nAnd m1 (nNot m2))) (u 4) W := hF 4 (by simp)
        simp only [putsFrom, Act.put, Nat.reduceAdd, List.setIfInBounds_toArray, List.set_cons_zero, List.set_cons_succ]
        clear hF
        obtain ⟨t9, e9, hp9, hi9⟩ := f4
        simp only [e9]
        unfold Ft.val
        have fr := fun i => hS.res.free i
        obtain ⟨hg, hb⟩ := made_ends HDE.out hS hi9 (hp9.trans HN.out.symm)
        have HG := Go.Lib.hid hg
        clear hg hp9 hi9 e9
        obtain ⟨r0, r1, r2, r3, r4, r5, r6⟩ := seven_cells hS.res
        have HSS := Go.Lib.hid hS
        clear hS
        go_simp
        go_wp2
        clear r0 r1 r2 r3 r4 r5 r6
        obtain ⟨r0, r1, r2, r3, r4, r5, r6⟩ := seven_cells hb
        exact bodyPost_ret (v := Ft.val t9) (by simp [results, Tryd.results73, go_sem, Ft.val, r0, r1, r2, r3, r4, r5, r6]) rfl HG.out
    have b7 : (op == 7) = false := by simpa using h7
    by_cases h8 : op = 8
    · have HN := Go.Lib.hid (show made _ = nIff m1 m2 from HM.out.trans (by rw [HR.out]; unfold become become2; simp [h8, HM1.out, HM2.out]))
      have q8 : (op == 8) = true := by simpa using h8
      clear h8
      obtain ⟨c0, c1, c2, c3, c4, c5, c6⟩ := seven_cells HA.out.box
      obtain ⟨x0, x1, x2, x3, x4, x5, x6⟩ := (HA.out.at_box (bx, t1, m1) (by simp)).1
      have fr := fun i => HA.out.res.free i
      obtain ⟨r0, r1, r2, r3, r4, r5, r6⟩ := seven_cells HA.out.res
      obtain ⟨y0, y1, y2, y3, y4, y5, y6⟩ := (HA.out.at_box (by2, t2, m2) (by simp)).1
      have HC := Go.Lib.hid (iff14_v (HD1.out w5 HA.out.big) (HA.out.at_box (bx, t1, m1) (by simp)).2 (HA.out.at_box (by2, t2, m2) (by simp)).2 H4.out H5.out)
      unfold Ft.val at HC
      go_wp2_with fail
      refine HC.out.mono ?_
      rintro e W ⟨v, rfl, ⟨t9, rfl, hp9, hi9⟩, hq9⟩
      have hS := HA.out.keep _ _ hq9
      clear c0 c1 c2 c3 c4 c5 c6 x0 x1 x2 x3 x4 x5 x6 fr r0 r1 r2 r3 r4 r5 r6 y0 y1 y2 y3 y4 y5 y6 HC
      unfold Ft.val
      have fr := fun i => hS.res.free i
      obtain ⟨hg, hb⟩ := made_ends HDE.out hS hi9 (hp9.trans HN.out.symm)
      have HG := Go.Lib.hid hg
      clear hg hp9 hi9 hq9
      obtain ⟨r0, r1, r2, r3, r4, r5, r6⟩ := seven_cells hS.res
      have HSS := Go.Lib.hid hS
      clear hS
      go_wp2
      clear r0 r1 r2 r3 r4 r5 r6
      obtain ⟨r0, r1, r2, r3, r4, r5, r6⟩ := seven_cells hb
      exact bodyPost_ret (v := Ft.val t9) (by simp [results, Tryd.results73, go_sem, Ft.val, r0, r1, r2, r3, r4, r5, r6]) rfl HG.out
    have b8 : (op == 8) = false := by simpa using h8
    by_cases h11 : op = 11
    · have HN := Go.Lib.hid (show made _ = nUn lo hi m1 m2 from HM.out.trans (by rw [HR.out]; unfold become become2; simp [h11, HM1.out, HM2.out]))
      have q11 : (op == 11) = true := by simpa using h11
      clear h11
      obtain ⟨c0, c1, c2, c3, c4, c5, c6⟩ := seven_cells HA.out.box
      obtain ⟨x0, x1, x2, x3, x4, x5, x6⟩ := (HA.out.at_box (bx, t1, m1) (by simp)).1
      have fr := fun i => HA.out.res.free i
      obtain ⟨r0, r1, r2, r3, r4, r5, r6⟩ := seven_cells HA.out.res
      obtain ⟨y0, y1, y2, y3, y4, y5, y6⟩ := (HA.out.at_box (by2, t2, m2) (by simp)).1
      have HC := Go.Lib.hid (un14_v (lo := lo) (hi := hi) (HD1.out w5 HA.out.big) (HA.out.at_box (bx, t1, m1) (by simp)).2 (HA.out.at_box (by2, t2, m2) (by simp)).2)
      unfold Ft.val at HC
      go_wp2_with fail
      refine HC.out.mono ?_
      rintro e W ⟨v, rfl, ⟨t9, rfl, hp9, hi9⟩, hq9⟩
      have hS := HA.out.keep _ _ hq9
      clear c0 c1 c2 c3 c4 c5 c6 x0 x1 x2 x3 x4 x5 x6 fr r0 r1 r2 r3 r4 r5 r6 y0 y1 y2 y3 y4 y5 y6 HC
      unfold Ft.val
      have fr := fun i => hS.res.free i
      obtain ⟨hg, hb⟩ := made_ends HDE.out hS hi9 (hp9.trans HN.out.symm)
      have HG := Go.Lib.hid hg
      clear hg hp9 hi9 hq9
      obtain ⟨r0, r1, r2, r3, r4, r5, r6⟩ := seven_cells hS.res
      have HSS := Go.Lib.hid hS
      clear hS
      go_wp2
      clear r0 r1 r2 r3 r4 r5 r6
      obtain ⟨r0, r1, r2, r3, r4, r5, r6⟩ := seven_cells hb
      exact bodyPost_ret (v := Ft.val t9) (by simp [results, Tryd.results73, go_sem, Ft.val, r0, r1, r2, r3, r4, r5, r6]) rfl HG.out
    have b11 : (op == 11) = false := by simpa using h11
    have h12' : op = 12 := by omega
    have HN := Go.Lib.hid (show made _ = nNot (nUn lo hi (nNot m1) (nNot m2)) from HM.out.trans (by rw [HR.out]; unfold become become2; simp [h12', HM1.out, HM2.out]))
    clear h12'
    obtain ⟨c0, c1, c2, c3, c4, c5, c6⟩ := seven_cells HA.out.box
    obtain ⟨x0, x1, x2, x3, x4, x5, x6⟩ := (HA.out.at_box (bx, t1, m1) (by simp)).1
    have fr := fun i => HA.out.res.free i
    obtain ⟨r0, r1, r2, r3, r4, r5, r6⟩ := seven_cells HA.out.res
    obtain ⟨y0, y1, y2, y3, y4, y5, y6⟩ := (HA.out.at_box (by2, t2, m2) (by simp)).1
    go_upto_region 21 with (fail)
    clear c0 c1 c2 c3 c4 c5 c6 x0 x1 x2 x3 x4 x5 x6 fr r0 r1 r2 r3 r4 r5 r6 y0 y1 y2 y3 y4 y5 y6
    refine wp_region_wants (by kernel_rfl) (by kernel_rfl) (by kernel_rfl) (by kernel_rfl) (MadeAt w D1 #[.int .i64 op, .string nm, .int .i64 cmp, .int .i64 val, .int .i64 lo, .int .i64 hi, .slice (some ⟨b, o, none⟩) (r.length + 1) cap] [(by2, t2, m2), (bx, t1, m1)]) (fun _ _ hq h => h.keep _ _ hq) [Want.is (.pointer (some ⟨w.heap.size, 4, none⟩)), Want.is (.int .i64 lo), Want.is (.pointer (some ⟨w.heap.size, 5, none⟩)), Want.is (.int .i64 hi), Want.fm D1 (m1), Want.fm D1 (nNot (m1)), Want.fm D1 (m2), Want.fm D1 (nNot (m2)), Want.fm D1 (nUn lo hi (nNot m1) (nNot m2)), Want.fm D1 (nNot (nUn lo hi (nNot m1) (nNot m2)))] (HA.out.keep _ _ ((Alters.refl _).drew)) (by decide) ?_
    refine Steps.cons ?_ (Steps.cons ?_ (Steps.cons ?_ (Steps.cons ?_ (Steps.cons ?_ (Steps.cons ?_ (Steps.cons ?_ (Steps.cons ?_ (Steps.cons ?_ (Steps.cons ?_ (Steps.last ?_))))))))))
    · intro u W K hS hF hK
      simp only [putsFrom, Act.put, Nat.reduceAdd, List.setIfInBounds_toArray, List.set_cons_zero, List.set_cons_succ] at hK ⊢
      clear hF
      go_simp
      exact hK.out _ _ (Alters.refl _) rfl
    · intro u W K hS hF hK
      have f0 : u 0 = .pointer (some ⟨w.heap.size, 4, none⟩) := hF 0 (by kernel_rfl)
      simp only [putsFrom, Act.put, Nat.reduceAdd, List.setIfInBounds_toArray, List.set_cons_zero, List.set_cons_succ, f0] at hK ⊢
      clear hF
      obtain ⟨c0, c1, c2, c3, c4, c5, c6⟩ := seven_cells hS.box
      go_simp
      exact hK.out _ _ (Alters.refl _) rfl
    · intro u W K hS hF hK
      simp only [putsFrom, Act.put, Nat.reduceAdd, List.setIfInBounds_toArray, List.set_cons_zero, List.set_cons_succ] at hK ⊢
      clear hF
      go_simp
      exact hK.out _ _ (Alters.refl _) rfl
    · intro u W K hS hF hK
      have f2 : u 2 = .pointer (some ⟨w.heap.size, 5, none⟩) := hF 2 (by kernel_rfl)
      simp only [putsFrom, Act.put, Nat.reduceAdd, List.setIfInBounds_toArray, List.set_cons_zero, List.set_cons_succ, f2] at hK ⊢
      clear hF
      obtain ⟨c0, c1, c2, c3, c4, c5, c6⟩ := seven_cells hS.box
      go_simp
      exact hK.out _ _ (Alters.refl _) rfl
    · intro u W K hS hF hK
      simp only [putsFrom, Act.put, Nat.reduceAdd, List.setIfInBounds_toArray, List.set_cons_zero, List.set_cons_succ] at hK ⊢
      clear hF
      obtain ⟨x0, x1, x2, x3, x4, x5, x6⟩ := (hS.at_box (bx, t1, m1) (by simp)).1
      go_simp
      exact hK.out _ _ (Alters.refl _) (hS.at_box (bx, t1, m1) (by simp)).2
    · intro u W K hS hF hK
      have f4 : MadeIn D1 (m1) (u 4) W := hF 4 (by kernel_rfl)
      simp only [putsFrom, Act.put, Nat.reduceAdd, List.setIfInBounds_toArray, List.set_cons_zero, List.set_cons_succ] at hK ⊢
      clear hF
      go_simp
      refine (not14_v (HD1.out W hS.big) f4 (H4.out)).mono ?_
      rintro e W2 ⟨v, rfl, hm, hq⟩
      exact hK.out _ _ hq hm
    · intro u W K hS hF hK
      simp only [putsFrom, Act.put, Nat.reduceAdd, List.setIfInBounds_toArray, List.set_cons_zero, List.set_cons_succ] at hK ⊢
      clear hF
      obtain ⟨x0, x1, x2, x3, x4, x5, x6⟩ := (hS.at_box (by2, t2, m2) (by simp)).1
      go_simp
      exact hK.out _ _ (Alters.refl _) (hS.at_box (by2, t2, m2) (by simp)).2
    · intro u W K hS hF hK
      have f6 : MadeIn D1 (m2) (u 6) W := hF 6 (by kernel_rfl)
      simp only [putsFrom, Act.put, Nat.reduceAdd, List.setIfInBounds_toArray, List.set_cons_zero, List.set_cons_succ] at hK ⊢
      clear hF
      go_simp
      refine (not14_v (HD1.out W hS.big) f6 (H5.out)).mono ?_
      rintro e W2 ⟨v, rfl, hm, hq⟩
      exact hK.out _ _ hq hm
    · intro u W K hS hF hK
      have f1 : u 1 = .int .i64 lo := hF 1 (by kernel_rfl)
      have f3 : u 3 = .int .i64 hi := hF 3 (by kernel_rfl)
      have f5 : MadeIn D1 (nNot m1) (u 5) W := hF 5 (by kernel_rfl)
      have f7 : MadeIn D1 (nNot m2) (u 7) W := hF 7 (by kernel_rfl)
      simp only [putsFrom, Act.put, Nat.reduceAdd, List.setIfInBounds_toArray, List.set_cons_zero, List.set_cons_succ, f1, f3] at hK ⊢
      clear hF
      go_simp
      refine (un14_v (HD1.out W hS.big) f5 f7).mono ?_
      rintro e W2 ⟨v, rfl, hm, hq⟩
      exact hK.out _ _ hq hm
    · intro u W K hS hF hK
      have f8 : MadeIn D1 (nUn lo hi (nNot m1) (nNot m2)) (u 8) W := hF 8 (by kernel_rfl)
      simp only [putsFrom, Act.put, Nat.reduceAdd, List.setIfInBounds_toArray, List.set_cons_zero, List.set_cons_succ] at hK ⊢
      clear hF
      go_simp
      refine (not14_v (HD1.out W hS.big) f8 (H4.out.not.un H5.out.not)).mono ?_
      rintro e W2 ⟨v, rfl, hm, hq⟩
      exact hK.out _ _ hq hm
    · intro u W hS hF
      have f9 : MadeIn D1 (nNot (nUn lo hi (nNot m1) (nNot m2))) (u 9) W := hF 9 (by simp)
      simp only [putsFrom, Act.put, Nat.reduceAdd, List.setIfInBounds_toArray, List.set_cons_zero, List.set_cons_succ]
      clear hF
      obtain ⟨t9, e9, hp9, hi9⟩ := f9
      simp only [e9]
      unfold Ft.val
      have fr := fun i => hS.res.free i
      obtain ⟨hg, hb⟩ := made_ends HDE.out hS hi9 (hp9.trans HN.out.symm)
      have HG := Go.Lib.hid hg
      clear hg hp9 hi9 e9
      obtain ⟨r0, r1, r2, r3, r4, r5, r6⟩ := seven_cells hS.res
      have HSS := Go.Lib.hid hS
      clear hS
      go_simp
      go_wp2
      clear r0 r1 r2 r3 r4 r5 r6
      obtain ⟨r0, r1, r2, r3, r4, r5, r6⟩ := seven_cells hb
      exact bodyPost_ret (v := Ft.val t9) (by simp [results, Tryd.results73, go_sem, Ft.val, r0, r1, r2, r3, r4, r5, r6]) rfl HG.out
end Go.Proofs.YtnpcakakjhiboaaDoor
