/- The model's ev, iff, un. No condition. -/
import Derived.Test.YtnpcakakjhiboaaDoorRef14
import Derived.Deep.DeepCutAuto
namespace Go.Proofs.YtnpcakakjhiboaaDoor
open Go.RowKit Go.Lo Go.WideShapes

set_option maxRecDepth 100000 in
set_option maxHeartbeats 4000000 in
theorem ev14_walk (D : Nat → Prop) (X : Ft) (lo9 hi9 : Int) (w : World) (hn : In D w X) : Calls Tryd.prog 100 #[.int .i64 lo9, .int .i64 hi9, X.val] w (Makes D (nEv lo9 hi9 X.pl) w) := by
  obtain ⟨⟨⟨op, nm, cmp, val, lo, hi⟩, a, cap⟩, ks⟩ := X
  have P : Hid ((Ft.pl (.nd ⟨⟨op, nm, cmp, val, lo, hi⟩, a, cap⟩ ks)).top.op = op) := pl_op2 _
  have I := Go.Lib.hid hn
  clear hn
  unfold Ft.val
  simp only [Tr.top, Tr.kids]
  go_enter Tryd.func100, Tryd.ntmps100
  go_upto_region 1 with (fail)
  have B : Hid (Blk ((w.alloc (.cells #[.int .i64 op, .string nm, .int .i64 cmp, .int .i64 val, .int .i64 lo, .int .i64 hi, .slice a ks.length cap] 33)).alloc (.cells #[.int .i64 0, .string ⟨#[]⟩, .int .i64 0, .int .i64 0, .int .i64 0, .int .i64 0, .slice none 0 0] 33)) (w.heap.size) #[.int .i64 op, .string nm, .int .i64 cmp, .int .i64 val, .int .i64 lo, .int .i64 hi, .slice a ks.length cap] 33) := ((Blk.new _ _ _).alloc _)
  have BR : Hid (Blk ((w.alloc (.cells #[.int .i64 op, .string nm, .int .i64 cmp, .int .i64 val, .int .i64 lo, .int .i64 hi, .slice a ks.length cap] 33)).alloc (.cells #[.int .i64 0, .string ⟨#[]⟩, .int .i64 0, .int .i64 0, .int .i64 0, .int .i64 0, .slice none 0 0] 33)) (w.heap.size + 1) #[.int .i64 0, .string ⟨#[]⟩, .int .i64 0, .int .i64 0, .int .i64 0, .int .i64 0, .slice none 0 0] 33) := alloc2 _ _ _ _
  have HQ : Hid (Quiet w ((w.alloc (.cells #[.int .i64 op, .string nm, .int .i64 cmp, .int .i64 val, .int .i64 lo, .int .i64 hi, .slice a ks.length cap] 33)).alloc (.cells #[.int .i64 0, .string ⟨#[]⟩, .int .i64 0, .int .i64 0, .int .i64 0, .int .i64 0, .slice none 0 0] 33))) := (((Alters.refl _).alloc _).alloc _)
  generalize ((w.alloc (.cells #[.int .i64 op, .string nm, .int .i64 cmp, .int .i64 val, .int .i64 lo, .int .i64 hi, .slice a ks.length cap] 33)).alloc (.cells #[.int .i64 0, .string ⟨#[]⟩, .int .i64 0, .int .i64 0, .int .i64 0, .int .i64 0, .slice none 0 0] 33)) = w1 at *
  by_cases h1 : op = 2
  · have HN := Go.Lib.hid (nEv_2 (lo := lo9) (hi := hi9) (P.out.trans h1))
    have q1 : (op == 2) = true := by simpa using h1
    clear h1
    obtain ⟨c0, c1, c2, c3, c4, c5, c6⟩ := seven_cells B.out
    obtain ⟨r0, r1, r2, r3, r4, r5, r6⟩ := seven_cells BR.out
    have fr := fun i => BR.out.free i
    go_wp2
    have hb7 := blk7 BR.out (.int .i64 2) (.string ⟨#[]⟩) (.int .i64 0) (.int .i64 0) (.int .i64 0) (.int .i64 0) (.slice none 0 0)
    have hs7 := set7 w1 (w.heap.size + 1) (.int .i64 2) (.string ⟨#[]⟩) (.int .i64 0) (.int .i64 0) (.int .i64 0) (.int .i64 0) (.slice none 0 0)
    have hq7 : Quiet w _ := HQ.out.then hs7 (fun i hi e => by omega)
    clear r0 r1 r2 r3 r4 r5 r6
    obtain ⟨r0, r1, r2, r3, r4, r5, r6⟩ := seven_cells hb7
    exact bodyPost_ret (v := Ft.val (.nd ⟨{ z0 with op := 2 }, none, 0⟩ [])) (by simp [results, Tryd.results100, go_sem, Ft.val, Tr.top, Tr.kids, z0, r0, r1, r2, r3, r4, r5, r6]) rfl ⟨_, rfl, by rw [HN.out]; rfl, In.leaf _ _ _, hq7⟩
  have b1 : (op == 2) = false := by simpa using h1
  by_cases h2 : op = 1 ∧ lo9 = 0
  · have HN := Go.Lib.hid (nEv_1 (hi := hi9) (P.out.trans h2.1) h2.2)
    have q1 : (op == 1) = true := by simpa using h2.1
    have q2 : (lo9 == 0) = true := by simpa using h2.2
    clear h2
    obtain ⟨c0, c1, c2, c3, c4, c5, c6⟩ := seven_cells B.out
    obtain ⟨r0, r1, r2, r3, r4, r5, r6⟩ := seven_cells BR.out
    have fr := fun i => BR.out.free i
    go_wp2
    have hb7 := blk7 BR.out (.int .i64 1) (.string ⟨#[]⟩) (.int .i64 0) (.int .i64 0) (.int .i64 0) (.int .i64 0) (.slice none 0 0)
    have hs7 := set7 w1 (w.heap.size + 1) (.int .i64 1) (.string ⟨#[]⟩) (.int .i64 0) (.int .i64 0) (.int .i64 0) (.int .i64 0) (.slice none 0 0)
    have hq7 : Quiet w _ := HQ.out.then hs7 (fun i hi e => by omega)
    clear r0 r1 r2 r3 r4 r5 r6
    obtain ⟨r0, r1, r2, r3, r4, r5, r6⟩ := seven_cells hb7
    exact bodyPost_ret (v := Ft.val (.nd ⟨{ z0 with op := 1 }, none, 0⟩ [])) (by simp [results, Tryd.results100, go_sem, Ft.val, Tr.top, Tr.kids, z0, r0, r1, r2, r3, r4, r5, r6]) rfl ⟨_, rfl, by rw [HN.out]; rfl, In.leaf _ _ _, hq7⟩
  have HN := Go.Lib.hid (nEv_else (lo := lo9) (hi := hi9) (by rw [P.out]; exact h1) (by rw [P.out]; exact h2))
  by_cases h3 : op = 1
  · have h4 : lo9 ≠ 0 := fun h => h2 ⟨h3, h⟩
    have b2 : (lo9 == 0) = false := by simpa using h4
    have q1 : (op == 1) = true := by simpa using h3
    clear h3
    obtain ⟨c0, c1, c2, c3, c4, c5, c6⟩ := seven_cells B.out
    obtain ⟨r0, r1, r2, r3, r4, r5, r6⟩ := seven_cells BR.out
    have fr := fun i => BR.out.free i
    have hlt := BR.out.lt
    go_wp2
    have hb7 := (blk7 BR.out (.int .i64 9) (.string ⟨#[]⟩) (.int .i64 0) (.int .i64 0) (.int .i64 lo9) (.int .i64 hi9) (.slice (some ⟨w1.heap.size, 0, none⟩) 1 1)).alloc (.cells #[.int .i64 op, .string nm, .int .i64 cmp, .int .i64 val, .int .i64 lo, .int .i64 hi, .slice a ks.length cap] 33)
    have hq7 : Quiet w _ := (HQ.out.then (set7 w1 (w.heap.size + 1) (.int .i64 9) (.string ⟨#[]⟩) (.int .i64 0) (.int .i64 0) (.int .i64 lo9) (.int .i64 hi9) (.slice (some ⟨w1.heap.size, 0, none⟩) 1 1)) (fun i hi e => by omega)).alloc (.cells #[.int .i64 op, .string nm, .int .i64 cmp, .int .i64 val, .int .i64 lo, .int .i64 hi, .slice a ks.length cap] 33)
    clear r0 r1 r2 r3 r4 r5 r6
    obtain ⟨r0, r1, r2, r3, r4, r5, r6⟩ := seven_cells hb7
    refine bodyPost_ret (v := Ft.val (.nd ⟨{ z0 with op := 9, lo := lo9, hi := hi9 }, some ⟨w1.heap.size, 0, none⟩, 1⟩ [.nd ⟨⟨op, nm, cmp, val, lo, hi⟩, a, cap⟩ ks])) (by simp [results, Tryd.results100, go_sem, Ft.val, Tr.top, Tr.kids, z0, r0, r1, r2, r3, r4, r5, r6]) rfl ⟨_, rfl, by rw [HN.out]; rfl, ?_, hq7⟩
    refine In.made (T := [.nd ⟨⟨op, nm, cmp, val, lo, hi⟩, a, cap⟩ ks]) (ty := 33) ?_ (by simp [maxLen]) ?_ hq7 (by have := HQ.out.size; omega)
    · have := Blk.new (((((((w1.setCell ⟨w.heap.size + 1, 0, none⟩ (.int .i64 9)).setCell ⟨w.heap.size + 1, 1, none⟩ (.string ⟨#[]⟩)).setCell ⟨w.heap.size + 1, 2, none⟩ (.int .i64 0)).setCell ⟨w.heap.size + 1, 3, none⟩ (.int .i64 0)).setCell ⟨w.heap.size + 1, 4, none⟩ (.int .i64 lo9)).setCell ⟨w.heap.size + 1, 5, none⟩ (.int .i64 hi9)).setCell ⟨w.heap.size + 1, 6, none⟩ (.slice (some ⟨w1.heap.size, 0, none⟩) 1 1)) #[.int .i64 op, .string nm, .int .i64 cmp, .int .i64 val, .int .i64 lo, .int .i64 hi, .slice a ks.length cap] 33
      simp only [World.size_setCell] at this
      exact this
    · intro t ht
      simp only [List.mem_cons, List.not_mem_nil, or_false] at ht
      subst ht
      exact I.out
  · have b3 : (op == 1) = false := by simpa using h3
    obtain ⟨c0, c1, c2, c3, c4, c5, c6⟩ := seven_cells B.out
    obtain ⟨r0, r1, r2, r3, r4, r5, r6⟩ := seven_cells BR.out
    have fr := fun i => BR.out.free i
    have hlt := BR.out.lt
    go_wp2
    have hb7 := (blk7 BR.out (.int .i64 9) (.string ⟨#[]⟩) (.int .i64 0) (.int .i64 0) (.int .i64 lo9) (.int .i64 hi9) (.slice (some ⟨w1.heap.size, 0, none⟩) 1 1)).alloc (.cells #[.int .i64 op, .string nm, .int .i64 cmp, .int .i64 val, .int .i64 lo, .int .i64 hi, .slice a ks.length cap] 33)
    have hq7 : Quiet w _ := (HQ.out.then (set7 w1 (w.heap.size + 1) (.int .i64 9) (.string ⟨#[]⟩) (.int .i64 0) (.int .i64 0) (.int .i64 lo9) (.int .i64 hi9) (.slice (some ⟨w1.heap.size, 0, none⟩) 1 1)) (fun i hi e => by omega)).alloc (.cells #[.int .i64 op, .string nm, .int .i64 cmp, .int .i64 val, .int .i64 lo, .int .i64 hi, .slice a ks.length cap] 33)
    clear r0 r1 r2 r3 r4 r5 r6
    obtain ⟨r0, r1, r2, r3, r4, r5, r6⟩ := seven_cells hb7
    refine bodyPost_ret (v := Ft.val (.nd ⟨{ z0 with op := 9, lo := lo9, hi := hi9 }, some ⟨w1.heap.size, 0, none⟩, 1⟩ [.nd ⟨⟨op, nm, cmp, val, lo, hi⟩, a, cap⟩ ks])) (by simp [results, Tryd.results100, go_sem, Ft.val, Tr.top, Tr.kids, z0, r0, r1, r2, r3, r4, r5, r6]) rfl ⟨_, rfl, by rw [HN.out]; rfl, ?_, hq7⟩
    refine In.made (T := [.nd ⟨⟨op, nm, cmp, val, lo, hi⟩, a, cap⟩ ks]) (ty := 33) ?_ (by simp [maxLen]) ?_ hq7 (by have := HQ.out.size; omega)
    · have := Blk.new (((((((w1.setCell ⟨w.heap.size + 1, 0, none⟩ (.int .i64 9)).setCell ⟨w.heap.size + 1, 1, none⟩ (.string ⟨#[]⟩)).setCell ⟨w.heap.size + 1, 2, none⟩ (.int .i64 0)).setCell ⟨w.heap.size + 1, 3, none⟩ (.int .i64 0)).setCell ⟨w.heap.size + 1, 4, none⟩ (.int .i64 lo9)).setCell ⟨w.heap.size + 1, 5, none⟩ (.int .i64 hi9)).setCell ⟨w.heap.size + 1, 6, none⟩ (.slice (some ⟨w1.heap.size, 0, none⟩) 1 1)) #[.int .i64 op, .string nm, .int .i64 cmp, .int .i64 val, .int .i64 lo, .int .i64 hi, .slice a ks.length cap] 33
      simp only [World.size_setCell] at this
      exact this
    · intro t ht
      simp only [List.mem_cons, List.not_mem_nil, or_false] at ht
      subst ht
      exact I.out

set_option maxRecDepth 100000 in
set_option maxHeartbeats 4000000 in
theorem iff14_walk (D : Nat → Prop) (X X2 : Ft) (w : World) (hD : ∀ k, D k → k < w.heap.size) (hn : In D w X) (h2n : In D w X2) (hk : X.top.n.op = 4 → X.kids ≠ []) (hk2 : X2.top.n.op = 4 → X2.kids ≠ []) : Calls Tryd.prog 102 #[X.val, X2.val] w (Makes D (nIff X.pl X2.pl) w) := by
  obtain ⟨⟨⟨op, nm, cmp, val, lo, hi⟩, a, cap⟩, ks⟩ := X
  have P : Hid ((Ft.pl (.nd ⟨⟨op, nm, cmp, val, lo, hi⟩, a, cap⟩ ks)).top.op = op) := pl_op2 _
  have I := Go.Lib.hid hn
  clear hn
  obtain ⟨⟨⟨op2, nm2, cmp2, val2, lo2, hi2⟩, a2, cap2⟩, ks2⟩ := X2
  have P2 : Hid ((Ft.pl (.nd ⟨⟨op2, nm2, cmp2, val2, lo2, hi2⟩, a2, cap2⟩ ks2)).top.op = op2) := pl_op2 _
  have I2 := Go.Lib.hid h2n
  clear h2n
  have HK := Go.Lib.hid hk
  have HK2 := Go.Lib.hid hk2
  clear hk hk2
  unfold Ft.val
  simp only [Tr.top, Tr.kids]
  go_enter Tryd.func102, Tryd.ntmps102
  go_upto_region 1 with (fail)
  have B : Hid (Blk (((w.alloc (.cells #[.int .i64 op, .string nm, .int .i64 cmp, .int .i64 val, .int .i64 lo, .int .i64 hi, .slice a ks.length cap] 33)).alloc (.cells #[.int .i64 op2, .string nm2, .int .i64 cmp2, .int .i64 val2, .int .i64 lo2, .int .i64 hi2, .slice a2 ks2.length cap2] 33)).alloc (.cells #[.int .i64 0, .string ⟨#[]⟩, .int .i64 0, .int .i64 0, .int .i64 0, .int .i64 0, .slice none 0 0] 33)) (w.heap.size) #[.int .i64 op, .string nm, .int .i64 cmp, .int .i64 val, .int .i64 lo, .int .i64 hi, .slice a ks.length cap] 33) := (((Blk.new _ _ _).alloc _).alloc _)
  have B2 : Hid (Blk (((w.alloc (.cells #[.int .i64 op, .string nm, .int .i64 cmp, .int .i64 val, .int .i64 lo, .int .i64 hi, .slice a ks.length cap] 33)).alloc (.cells #[.int .i64 op2, .string nm2, .int .i64 cmp2, .int .i64 val2, .int .i64 lo2, .int .i64 hi2, .slice a2 ks2.length cap2] 33)).alloc (.cells #[.int .i64 0, .string ⟨#[]⟩, .int .i64 0, .int .i64 0, .int .i64 0, .int .i64 0, .slice none 0 0] 33)) (w.heap.size + 1) #[.int .i64 op2, .string nm2, .int .i64 cmp2, .int .i64 val2, .int .i64 lo2, .int .i64 hi2, .slice a2 ks2.length cap2] 33) := ((alloc2 _ _ _ _).alloc _)
  have BR : Hid (Blk (((w.alloc (.cells #[.int .i64 op, .string nm, .int .i64 cmp, .int .i64 val, .int .i64 lo, .int .i64 hi, .slice a ks.length cap] 33)).alloc (.cells #[.int .i64 op2, .string nm2, .int .i64 cmp2, .int .i64 val2, .int .i64 lo2, .int .i64 hi2, .slice a2 ks2.length cap2] 33)).alloc (.cells #[.int .i64 0, .string ⟨#[]⟩, .int .i64 0, .int .i64 0, .int .i64 0, .int .i64 0, .slice none 0 0] 33)) (w.heap.size + 1 + 1) #[.int .i64 0, .string ⟨#[]⟩, .int .i64 0, .int .i64 0, .int .i64 0, .int .i64 0, .slice none 0 0] 33) := alloc3 _ _ _ _ _
  have HQ : Hid (Quiet w (((w.alloc (.cells #[.int .i64 op, .string nm, .int .i64 cmp, .int .i64 val, .int .i64 lo, .int .i64 hi, .slice a ks.length cap] 33)).alloc (.cells #[.int .i64 op2, .string nm2, .int .i64 cmp2, .int .i64 val2, .int .i64 lo2, .int .i64 hi2, .slice a2 ks2.length cap2] 33)).alloc (.cells #[.int .i64 0, .string ⟨#[]⟩, .int .i64 0, .int .i64 0, .int .i64 0, .int .i64 0, .slice none 0 0] 33))) := ((((Alters.refl _).alloc _).alloc _).alloc _)
  generalize (((w.alloc (.cells #[.int .i64 op, .string nm, .int .i64 cmp, .int .i64 val, .int .i64 lo, .int .i64 hi, .slice a ks.length cap] 33)).alloc (.cells #[.int .i64 op2, .string nm2, .int .i64 cmp2, .int .i64 val2, .int .i64 lo2, .int .i64 hi2, .slice a2 ks2.length cap2] 33)).alloc (.cells #[.int .i64 0, .string ⟨#[]⟩, .int .i64 0, .int .i64 0, .int .i64 0, .int .i64 0, .slice none 0 0] 33)) = w1 at *
  obtain ⟨c0, c1, c2, c3, c4, c5, c6⟩ := seven_cells B.out
  obtain ⟨c20, c21, c22, c23, c24, c25, c26⟩ := seven_cells B2.out
  obtain ⟨r0, r1, r2, r3, r4, r5, r6⟩ := seven_cells BR.out
  have fr := fun i => BR.out.free i
  have HS := Go.Lib.hid (same8_any D (.nd ⟨⟨op, nm, cmp, val, lo, hi⟩, a, cap⟩ ks) (.nd ⟨⟨op2, nm2, cmp2, val2, lo2, hi2⟩, a2, cap2⟩ ks2) _ (I.out.quiet HQ.out) (I2.out.quiet HQ.out))
  unfold Ft.val at HS
  simp only [Tr.top, Tr.kids] at HS
  go_wp2_with fail
  refine (HS.out).mono ?_
  rintro e w2 ⟨rfl, hq2⟩
  clear c0 c1 c2 c3 c4 c5 c6 c20 c21 c22 c23 c24 c25 c26 r0 r1 r2 r3 r4 r5 r6 fr
  replace B := Go.Lib.hid (hq2.blk B.out (by simp))
  replace B2 := Go.Lib.hid (hq2.blk B2.out (by simp))
  replace BR := Go.Lib.hid (hq2.blk BR.out (by simp))
  replace HQ := Go.Lib.hid (HQ.out.trans hq2)
  clear HS hq2
  cases hs : same (Ft.pl (.nd ⟨⟨op, nm, cmp, val, lo, hi⟩, a, cap⟩ ks)) (Ft.pl (.nd ⟨⟨op2, nm2, cmp2, val2, lo2, hi2⟩, a2, cap2⟩ ks2))
  rotate_left
  · have HN := Go.Lib.hid (nIff_same hs)
    obtain ⟨c0, c1, c2, c3, c4, c5, c6⟩ := seven_cells B.out
    obtain ⟨c20, c21, c22, c23, c24, c25, c26⟩ := seven_cells B2.out
    obtain ⟨r0, r1, r2, r3, r4, r5, r6⟩ := seven_cells BR.out
    have fr := fun i => BR.out.free i
    go_wp2
    have hb7 := blk7 BR.out (.int .i64 1) (.string ⟨#[]⟩) (.int .i64 0) (.int .i64 0) (.int .i64 0) (.int .i64 0) (.slice none 0 0)
    have hs7 := set7 w2 (w.heap.size + 1 + 1) (.int .i64 1) (.string ⟨#[]⟩) (.int .i64 0) (.int .i64 0) (.int .i64 0) (.int .i64 0) (.slice none 0 0)
    have hq7 : Quiet w _ := HQ.out.then hs7 (fun i hi e => by omega)
    clear r0 r1 r2 r3 r4 r5 r6
    obtain ⟨r0, r1, r2, r3, r4, r5, r6⟩ := seven_cells hb7
    exact bodyPost_ret (v := Ft.val (.nd ⟨{ z0 with op := 1 }, none, 0⟩ [])) (by simp [results, Tryd.results102, go_sem, Ft.val, Tr.top, Tr.kids, z0, r0, r1, r2, r3, r4, r5, r6]) rfl ⟨_, rfl, by rw [HN.out]; rfl, In.leaf _ _ _, hq7⟩
  by_cases h1 : op = 1
  · have HN := Go.Lib.hid (nIff_x1 hs (P.out.trans h1))
    have q1 : (op == 1) = true := by simpa using h1
    clear h1
    obtain ⟨c0, c1, c2, c3, c4, c5, c6⟩ := seven_cells B.out
    obtain ⟨c20, c21, c22, c23, c24, c25, c26⟩ := seven_cells B2.out
    obtain ⟨r0, r1, r2, r3, r4, r5, r6⟩ := seven_cells BR.out
    have fr := fun i => BR.out.free i
    go_wp2
    have hb7 := blk7 BR.out (.int .i64 op2) (.string nm2) (.int .i64 cmp2) (.int .i64 val2) (.int .i64 lo2) (.int .i64 hi2) (.slice a2 ks2.length cap2)
    have hs7 := set7 w2 (w.heap.size + 1 + 1) (.int .i64 op2) (.string nm2) (.int .i64 cmp2) (.int .i64 val2) (.int .i64 lo2) (.int .i64 hi2) (.slice a2 ks2.length cap2)
    have hq7 : Quiet w _ := HQ.out.then hs7 (fun i hi e => by omega)
    clear r0 r1 r2 r3 r4 r5 r6
    obtain ⟨r0, r1, r2, r3, r4, r5, r6⟩ := seven_cells hb7
    exact bodyPost_ret (v := Ft.val (.nd ⟨⟨op2, nm2, cmp2, val2, lo2, hi2⟩, a2, cap2⟩ ks2)) (by simp [results, Tryd.results102, go_sem, Ft.val, Tr.top, Tr.kids, r0, r1, r2, r3, r4, r5, r6]) rfl ⟨_, rfl, HN.out.symm, I2.out.also hq7, hq7⟩
  have b1 : (op == 1) = false := by simpa using h1
  by_cases h2 : op2 = 1
  · have HN := Go.Lib.hid (nIff_y1 hs (by rw [P.out]; exact h1) (P2.out.trans h2))
    have q2 : (op2 == 1) = true := by simpa using h2
    clear h2
    obtain ⟨c0, c1, c2, c3, c4, c5, c6⟩ := seven_cells B.out
    obtain ⟨c20, c21, c22, c23, c24, c25, c26⟩ := seven_cells B2.out
    obtain ⟨r0, r1, r2, r3, r4, r5, r6⟩ := seven_cells BR.out
    have fr := fun i => BR.out.free i
    go_wp2
    have hb7 := blk7 BR.out (.int .i64 op) (.string nm) (.int .i64 cmp) (.int .i64 val) (.int .i64 lo) (.int .i64 hi) (.slice a ks.length cap)
    have hs7 := set7 w2 (w.heap.size + 1 + 1) (.int .i64 op) (.string nm) (.int .i64 cmp) (.int .i64 val) (.int .i64 lo) (.int .i64 hi) (.slice a ks.length cap)
    have hq7 : Quiet w _ := HQ.out.then hs7 (fun i hi e => by omega)
    clear r0 r1 r2 r3 r4 r5 r6
    obtain ⟨r0, r1, r2, r3, r4, r5, r6⟩ := seven_cells hb7
    exact bodyPost_ret (v := Ft.val (.nd ⟨⟨op, nm, cmp, val, lo, hi⟩, a, cap⟩ ks)) (by simp [results, Tryd.results102, go_sem, Ft.val, Tr.top, Tr.kids, r0, r1, r2, r3, r4, r5, r6]) rfl ⟨_, rfl, HN.out.symm, I.out.also hq7, hq7⟩
  have b2 : (op2 == 1) = false := by simpa using h2
  by_cases h3 : op = 2
  · have HN := Go.Lib.hid (nIff_x2 hs (by rw [P.out]; exact h1) (by rw [P2.out]; exact h2) (P.out.trans h3))
    have HC := Go.Lib.hid (not14_walk D (.nd ⟨⟨op2, nm2, cmp2, val2, lo2, hi2⟩, a2, cap2⟩ ks2) w2 (I2.out.quiet HQ.out) HK2.out)
    unfold Ft.val at HC
    simp only [Tr.top, Tr.kids] at HC
    have q3 : (op == 2) = true := by simpa using h3
    clear h3
    obtain ⟨c0, c1, c2, c3, c4, c5, c6⟩ := seven_cells B.out
    obtain ⟨c20, c21, c22, c23, c24, c25, c26⟩ := seven_cells B2.out
    obtain ⟨r0, r1, r2, r3, r4, r5, r6⟩ := seven_cells BR.out
    have fr := fun i => BR.out.free i
    have hz9 : w.heap.size ≤ _ := HQ.out.size
    have hr9 := BR.out.lt
    have hd9 := hD
    go_wp2_with fail
    refine (HC.out).mono ?_
    rintro e w3 ⟨t3, rfl, hp3, hin3, hq3⟩
    clear c0 c1 c2 c3 c4 c5 c6 c20 c21 c22 c23 c24 c25 c26 r0 r1 r2 r3 r4 r5 r6 fr
    replace B := Go.Lib.hid (hq3.blk B.out (by simp))
    replace B2 := Go.Lib.hid (hq3.blk B2.out (by simp))
    replace BR := Go.Lib.hid (hq3.blk BR.out (by simp))
    replace HQ := Go.Lib.hid (HQ.out.trans hq3)
    obtain ⟨c0, c1, c2, c3, c4, c5, c6⟩ := seven_cells B.out
    obtain ⟨c20, c21, c22, c23, c24, c25, c26⟩ := seven_cells B2.out
    obtain ⟨r0, r1, r2, r3, r4, r5, r6⟩ := seven_cells BR.out
    have fr := fun i => BR.out.free i
    unfold Ft.val
    go_wp2
    have hb7 := blk7 BR.out (.int .i64 t3.top.n.op) (.string t3.top.n.nm) (.int .i64 t3.top.n.cmp) (.int .i64 t3.top.n.val) (.int .i64 t3.top.n.lo) (.int .i64 t3.top.n.hi) (.slice t3.top.a t3.kids.length t3.top.cap)
    have hs7 := set7 w3 (w.heap.size + 1 + 1) (.int .i64 t3.top.n.op) (.string t3.top.n.nm) (.int .i64 t3.top.n.cmp) (.int .i64 t3.top.n.val) (.int .i64 t3.top.n.lo) (.int .i64 t3.top.n.hi) (.slice t3.top.a t3.kids.length t3.top.cap)
    have hq7 : Quiet w _ := HQ.out.then hs7 (fun i hi e => by omega)
    clear r0 r1 r2 r3 r4 r5 r6
    obtain ⟨r0, r1, r2, r3, r4, r5, r6⟩ := seven_cells hb7
    exact bodyPost_ret (v := Ft.val t3) (by simp [results, Tryd.results102, go_sem, Ft.val, r0, r1, r2, r3, r4, r5, r6]) rfl ⟨_, rfl, hp3.trans HN.out.symm, (hin3.keep hs7 (fun k hk _ e => hk.elim (fun hk => by have := hd9 k hk; omega) (fun hk => by omega))).mono (fun k _ hk => hk.imp_right (fun h => by omega)), hq7⟩
  have b3 : (op == 2) = false := by simpa using h3
  by_cases h4 : op2 = 2
  · have HN := Go.Lib.hid (nIff_y2 hs (by rw [P.out]; exact h1) (by rw [P2.out]; exact h2) (by rw [P.out]; exact h3) (P2.out.trans h4))
    have HC := Go.Lib.hid (not14_walk D (.nd ⟨⟨op, nm, cmp, val, lo, hi⟩, a, cap⟩ ks) w2 (I.out.quiet HQ.out) HK.out)
    unfold Ft.val at HC
    simp only [Tr.top, Tr.kids] at HC
    have q4 : (op2 == 2) = true := by simpa using h4
    clear h4
    obtain ⟨c0, c1, c2, c3, c4, c5, c6⟩ := seven_cells B.out
    obtain ⟨c20, c21, c22, c23, c24, c25, c26⟩ := seven_cells B2.out
    obtain ⟨r0, r1, r2, r3, r4, r5, r6⟩ := seven_cells BR.out
    have fr := fun i => BR.out.free i
    have hz9 : w.heap.size ≤ _ := HQ.out.size
    have hr9 := BR.out.lt
    have hd9 := hD
    go_wp2_with fail
    refine (HC.out).mono ?_
    rintro e w3 ⟨t3, rfl, hp3, hin3, hq3⟩
    clear c0 c1 c2 c3 c4 c5 c6 c20 c21 c22 c23 c24 c25 c26 r0 r1 r2 r3 r4 r5 r6 fr
    replace B := Go.Lib.hid (hq3.blk B.out (by simp))
    replace B2 := Go.Lib.hid (hq3.blk B2.out (by simp))
    replace BR := Go.Lib.hid (hq3.blk BR.out (by simp))
    replace HQ := Go.Lib.hid (HQ.out.trans hq3)
    obtain ⟨c0, c1, c2, c3, c4, c5, c6⟩ := seven_cells B.out
    obtain ⟨c20, c21, c22, c23, c24, c25, c26⟩ := seven_cells B2.out
    obtain ⟨r0, r1, r2, r3, r4, r5, r6⟩ := seven_cells BR.out
    have fr := fun i => BR.out.free i
    unfold Ft.val
    go_wp2
    have hb7 := blk7 BR.out (.int .i64 t3.top.n.op) (.string t3.top.n.nm) (.int .i64 t3.top.n.cmp) (.int .i64 t3.top.n.val) (.int .i64 t3.top.n.lo) (.int .i64 t3.top.n.hi) (.slice t3.top.a t3.kids.length t3.top.cap)
    have hs7 := set7 w3 (w.heap.size + 1 + 1) (.int .i64 t3.top.n.op) (.string t3.top.n.nm) (.int .i64 t3.top.n.cmp) (.int .i64 t3.top.n.val) (.int .i64 t3.top.n.lo) (.int .i64 t3.top.n.hi) (.slice t3.top.a t3.kids.length t3.top.cap)
    have hq7 : Quiet w _ := HQ.out.then hs7 (fun i hi e => by omega)
    clear r0 r1 r2 r3 r4 r5 r6
    obtain ⟨r0, r1, r2, r3, r4, r5, r6⟩ := seven_cells hb7
    exact bodyPost_ret (v := Ft.val t3) (by simp [results, Tryd.results102, go_sem, Ft.val, r0, r1, r2, r3, r4, r5, r6]) rfl ⟨_, rfl, hp3.trans HN.out.symm, (hin3.keep hs7 (fun k hk _ e => hk.elim (fun hk => by have := hd9 k hk; omega) (fun hk => by omega))).mono (fun k _ hk => hk.imp_right (fun h => by omega)), hq7⟩
  have b4 : (op2 == 2) = false := by simpa using h4
  have HN := Go.Lib.hid (nIff_else hs (by rw [P.out]; exact h1) (by rw [P2.out]; exact h2) (by rw [P.out]; exact h3) (by rw [P2.out]; exact h4))
  obtain ⟨c0, c1, c2, c3, c4, c5, c6⟩ := seven_cells B.out
  obtain ⟨c20, c21, c22, c23, c24, c25, c26⟩ := seven_cells B2.out
  obtain ⟨r0, r1, r2, r3, r4, r5, r6⟩ := seven_cells BR.out
  have fr := fun i => BR.out.free i
  have hlt := BR.out.lt
  go_wp2
  have hb7 := (blk7 BR.out (.int .i64 8) (.string ⟨#[]⟩) (.int .i64 0) (.int .i64 0) (.int .i64 0) (.int .i64 0) (.slice (some ⟨w2.heap.size, 0, none⟩) 2 2)).alloc (.cells #[.int .i64 op, .string nm, .int .i64 cmp, .int .i64 val, .int .i64 lo, .int .i64 hi, .slice a ks.length cap, .int .i64 op2, .string nm2, .int .i64 cmp2, .int .i64 val2, .int .i64 lo2, .int .i64 hi2, .slice a2 ks2.length cap2] 33)
  have hq7 : Quiet w _ := (HQ.out.then (set7 w2 (w.heap.size + 1 + 1) (.int .i64 8) (.string ⟨#[]⟩) (.int .i64 0) (.int .i64 0) (.int .i64 0) (.int .i64 0) (.slice (some ⟨w2.heap.size, 0, none⟩) 2 2)) (fun i hi e => by omega)).alloc (.cells #[.int .i64 op, .string nm, .int .i64 cmp, .int .i64 val, .int .i64 lo, .int .i64 hi, .slice a ks.length cap, .int .i64 op2, .string nm2, .int .i64 cmp2, .int .i64 val2, .int .i64 lo2, .int .i64 hi2, .slice a2 ks2.length cap2] 33)
  clear r0 r1 r2 r3 r4 r5 r6
  obtain ⟨r0, r1, r2, r3, r4, r5, r6⟩ := seven_cells hb7
  refine bodyPost_ret (v := Ft.val (.nd ⟨{ z0 with op := 8 }, some ⟨w2.heap.size, 0, none⟩, 2⟩ [.nd ⟨⟨op, nm, cmp, val, lo, hi⟩, a, cap⟩ ks, .nd ⟨⟨op2, nm2, cmp2, val2, lo2, hi2⟩, a2, cap2⟩ ks2])) (by simp [results, Tryd.results102, go_sem, Ft.val, Tr.top, Tr.kids, z0, r0, r1, r2, r3, r4, r5, r6]) rfl ⟨_, rfl, by rw [HN.out]; rfl, ?_, hq7⟩
  refine In.made (T := [.nd ⟨⟨op, nm, cmp, val, lo, hi⟩, a, cap⟩ ks, .nd ⟨⟨op2, nm2, cmp2, val2, lo2, hi2⟩, a2, cap2⟩ ks2]) (ty := 33) ?_ (by simp [maxLen]) ?_ hq7 (by have := HQ.out.size; omega)
  · have := Blk.new (((((((w2.setCell ⟨w.heap.size + 1 + 1, 0, none⟩ (.int .i64 8)).setCell ⟨w.heap.size + 1 + 1, 1, none⟩ (.string ⟨#[]⟩)).setCell ⟨w.heap.size + 1 + 1, 2, none⟩ (.int .i64 0)).setCell ⟨w.heap.size + 1 + 1, 3, none⟩ (.int .i64 0)).setCell ⟨w.heap.size + 1 + 1, 4, none⟩ (.int .i64 0)).setCell ⟨w.heap.size + 1 + 1, 5, none⟩ (.int .i64 0)).setCell ⟨w.heap.size + 1 + 1, 6, none⟩ (.slice (some ⟨w2.heap.size, 0, none⟩) 2 2)) #[.int .i64 op, .string nm, .int .i64 cmp, .int .i64 val, .int .i64 lo, .int .i64 hi, .slice a ks.length cap, .int .i64 op2, .string nm2, .int .i64 cmp2, .int .i64 val2, .int .i64 lo2, .int .i64 hi2, .slice a2 ks2.length cap2] 33
    simp only [World.size_setCell] at this
    exact this
  · intro t ht
    simp only [List.mem_cons, List.not_mem_nil, or_false] at ht
    rcases ht with rfl | rfl
    · exact I.out
    · exact I2.out

set_option maxRecDepth 100000 in
set_option maxHeartbeats 4000000 in
theorem un14_walk (D : Nat → Prop) (X X2 : Ft) (lo9 hi9 : Int) (w : World) (hD : ∀ k, D k → k < w.heap.size) (hn : In D w X) (h2n : In D w X2) : Calls Tryd.prog 103 #[.int .i64 lo9, .int .i64 hi9, X.val, X2.val] w (Makes D (nUn lo9 hi9 X.pl X2.pl) w) := by
  obtain ⟨⟨⟨op, nm, cmp, val, lo, hi⟩, a, cap⟩, ks⟩ := X
  have P : Hid ((Ft.pl (.nd ⟨⟨op, nm, cmp, val, lo, hi⟩, a, cap⟩ ks)).top.op = op) := pl_op2 _
  have I := Go.Lib.hid hn
  clear hn
  obtain ⟨⟨⟨op2, nm2, cmp2, val2, lo2, hi2⟩, a2, cap2⟩, ks2⟩ := X2
  have P2 : Hid ((Ft.pl (.nd ⟨⟨op2, nm2, cmp2, val2, lo2, hi2⟩, a2, cap2⟩ ks2)).top.op = op2) := pl_op2 _
  have I2 := Go.Lib.hid h2n
  clear h2n
  unfold Ft.val
  simp only [Tr.top, Tr.kids]
  go_enter Tryd.func103, Tryd.ntmps103
  go_upto_region 1 with (fail)
  have B : Hid (Blk (((w.alloc (.cells #[.int .i64 op, .string nm, .int .i64 cmp, .int .i64 val, .int .i64 lo, .int .i64 hi, .slice a ks.length cap] 33)).alloc (.cells #[.int .i64 op2, .string nm2, .int .i64 cmp2, .int .i64 val2, .int .i64 lo2, .int .i64 hi2, .slice a2 ks2.length cap2] 33)).alloc (.cells #[.int .i64 0, .string ⟨#[]⟩, .int .i64 0, .int .i64 0, .int .i64 0, .int .i64 0, .slice none 0 0] 33)) (w.heap.size) #[.int .i64 op, .string nm, .int .i64 cmp, .int .i64 val, .int .i64 lo, .int .i64 hi, .slice a ks.length cap] 33) := (((Blk.new _ _ _).alloc _).alloc _)
  have B2 : Hid (Blk (((w.alloc (.cells #[.int .i64 op, .string nm, .int .i64 cmp, .int .i64 val, .int .i64 lo, .int .i64 hi, .slice a ks.length cap] 33)).alloc (.cells #[.int .i64 op2, .string nm2, .int .i64 cmp2, .int .i64 val2, .int .i64 lo2, .int .i64 hi2, .slice a2 ks2.length cap2] 33)).alloc (.cells #[.int .i64 0, .string ⟨#[]⟩, .int .i64 0, .int .i64 0, .int .i64 0, .int .i64 0, .slice none 0 0] 33)) (w.heap.size + 1) #[.int .i64 op2, .string nm2, .int .i64 cmp2, .int .i64 val2, .int .i64 lo2, .int .i64 hi2, .slice a2 ks2.length cap2] 33) := ((alloc2 _ _ _ _).alloc _)
  have BR : Hid (Blk (((w.alloc (.cells #[.int .i64 op, .string nm, .int .i64 cmp, .int .i64 val, .int .i64 lo, .int .i64 hi, .slice a ks.length cap] 33)).alloc (.cells #[.int .i64 op2, .string nm2, .int .i64 cmp2, .int .i64 val2, .int .i64 lo2, .int .i64 hi2, .slice a2 ks2.length cap2] 33)).alloc (.cells #[.int .i64 0, .string ⟨#[]⟩, .int .i64 0, .int .i64 0, .int .i64 0, .int .i64 0, .slice none 0 0] 33)) (w.heap.size + 1 + 1) #[.int .i64 0, .string ⟨#[]⟩, .int .i64 0, .int .i64 0, .int .i64 0, .int .i64 0, .slice none 0 0] 33) := alloc3 _ _ _ _ _
  have HQ : Hid (Quiet w (((w.alloc (.cells #[.int .i64 op, .string nm, .int .i64 cmp, .int .i64 val, .int .i64 lo, .int .i64 hi, .slice a ks.length cap] 33)).alloc (.cells #[.int .i64 op2, .string nm2, .int .i64 cmp2, .int .i64 val2, .int .i64 lo2, .int .i64 hi2, .slice a2 ks2.length cap2] 33)).alloc (.cells #[.int .i64 0, .string ⟨#[]⟩, .int .i64 0, .int .i64 0, .int .i64 0, .int .i64 0, .slice none 0 0] 33))) := ((((Alters.refl _).alloc _).alloc _).alloc _)
  generalize (((w.alloc (.cells #[.int .i64 op, .string nm, .int .i64 cmp, .int .i64 val, .int .i64 lo, .int .i64 hi, .slice a ks.length cap] 33)).alloc (.cells #[.int .i64 op2, .string nm2, .int .i64 cmp2, .int .i64 val2, .int .i64 lo2, .int .i64 hi2, .slice a2 ks2.length cap2] 33)).alloc (.cells #[.int .i64 0, .string ⟨#[]⟩, .int .i64 0, .int .i64 0, .int .i64 0, .int .i64 0, .slice none 0 0] 33)) = w1 at *
  by_cases h1 : op2 = 2
  · have HN := Go.Lib.hid (nUn_y2 (lo := lo9) (hi := hi9) (x := Ft.pl (.nd ⟨⟨op, nm, cmp, val, lo, hi⟩, a, cap⟩ ks)) (P2.out.trans h1))
    have q1 : (op2 == 2) = true := by simpa using h1
    clear h1
    obtain ⟨c0, c1, c2, c3, c4, c5, c6⟩ := seven_cells B.out
    obtain ⟨c20, c21, c22, c23, c24, c25, c26⟩ := seven_cells B2.out
    obtain ⟨r0, r1, r2, r3, r4, r5, r6⟩ := seven_cells BR.out
    have fr := fun i => BR.out.free i
    go_wp2
    have hb7 := blk7 BR.out (.int .i64 2) (.string ⟨#[]⟩) (.int .i64 0) (.int .i64 0) (.int .i64 0) (.int .i64 0) (.slice none 0 0)
    have hs7 := set7 w1 (w.heap.size + 1 + 1) (.int .i64 2) (.string ⟨#[]⟩) (.int .i64 0) (.int .i64 0) (.int .i64 0) (.int .i64 0) (.slice none 0 0)
    have hq7 : Quiet w _ := HQ.out.then hs7 (fun i hi e => by omega)
    clear r0 r1 r2 r3 r4 r5 r6
    obtain ⟨r0, r1, r2, r3, r4, r5, r6⟩ := seven_cells hb7
    exact bodyPost_ret (v := Ft.val (.nd ⟨{ z0 with op := 2 }, none, 0⟩ [])) (by simp [results, Tryd.results103, go_sem, Ft.val, Tr.top, Tr.kids, z0, r0, r1, r2, r3, r4, r5, r6]) rfl ⟨_, rfl, by rw [HN.out]; rfl, In.leaf _ _ _, hq7⟩
  have b1 : (op2 == 2) = false := by simpa using h1
  by_cases h2 : op = 2
  · have q1 : (op == 2) = true := by simpa using h2
    by_cases h3 : lo9 = 0
    · have HN := Go.Lib.hid (nUn_x20 (hi := hi9) (by rw [P2.out]; exact h1) (P.out.trans h2) h3)
      have q2 : (lo9 == 0) = true := by simpa using h3
      clear h2 h3
      obtain ⟨c0, c1, c2, c3, c4, c5, c6⟩ := seven_cells B.out
      obtain ⟨c20, c21, c22, c23, c24, c25, c26⟩ := seven_cells B2.out
      obtain ⟨r0, r1, r2, r3, r4, r5, r6⟩ := seven_cells BR.out
      have fr := fun i => BR.out.free i
      go_wp2
      have hb7 := blk7 BR.out (.int .i64 op2) (.string nm2) (.int .i64 cmp2) (.int .i64 val2) (.int .i64 lo2) (.int .i64 hi2) (.slice a2 ks2.length cap2)
      have hs7 := set7 w1 (w.heap.size + 1 + 1) (.int .i64 op2) (.string nm2) (.int .i64 cmp2) (.int .i64 val2) (.int .i64 lo2) (.int .i64 hi2) (.slice a2 ks2.length cap2)
      have hq7 : Quiet w _ := HQ.out.then hs7 (fun i hi e => by omega)
      clear r0 r1 r2 r3 r4 r5 r6
      obtain ⟨r0, r1, r2, r3, r4, r5, r6⟩ := seven_cells hb7
      exact bodyPost_ret (v := Ft.val (.nd ⟨⟨op2, nm2, cmp2, val2, lo2, hi2⟩, a2, cap2⟩ ks2)) (by simp [results, Tryd.results103, go_sem, Ft.val, Tr.top, Tr.kids, r0, r1, r2, r3, r4, r5, r6]) rfl ⟨_, rfl, HN.out.symm, I2.out.also hq7, hq7⟩
    · have HN := Go.Lib.hid (nUn_x2 (hi := hi9) (by rw [P2.out]; exact h1) (P.out.trans h2) h3)
      have q2 : (lo9 == 0) = false := by simpa using h3
      clear h2
      obtain ⟨c0, c1, c2, c3, c4, c5, c6⟩ := seven_cells B.out
      obtain ⟨c20, c21, c22, c23, c24, c25, c26⟩ := seven_cells B2.out
      obtain ⟨r0, r1, r2, r3, r4, r5, r6⟩ := seven_cells BR.out
      have fr := fun i => BR.out.free i
      go_wp2
      have hb7 := blk7 BR.out (.int .i64 2) (.string ⟨#[]⟩) (.int .i64 0) (.int .i64 0) (.int .i64 0) (.int .i64 0) (.slice none 0 0)
      have hs7 := set7 w1 (w.heap.size + 1 + 1) (.int .i64 2) (.string ⟨#[]⟩) (.int .i64 0) (.int .i64 0) (.int .i64 0) (.int .i64 0) (.slice none 0 0)
      have hq7 : Quiet w _ := HQ.out.then hs7 (fun i hi e => by omega)
      clear r0 r1 r2 r3 r4 r5 r6
      obtain ⟨r0, r1, r2, r3, r4, r5, r6⟩ := seven_cells hb7
      exact bodyPost_ret (v := Ft.val (.nd ⟨{ z0 with op := 2 }, none, 0⟩ [])) (by simp [results, Tryd.results103, go_sem, Ft.val, Tr.top, Tr.kids, z0, r0, r1, r2, r3, r4, r5, r6]) rfl ⟨_, rfl, by rw [HN.out]; rfl, In.leaf _ _ _, hq7⟩
  have b2 : (op == 2) = false := by simpa using h2
  by_cases h3 : op = 1
  · have HN := Go.Lib.hid (nUn_x1 (lo := lo9) (hi := hi9) (by rw [P2.out]; exact h1) (P.out.trans h3))
    have HC := Go.Lib.hid (ev14_walk D (.nd ⟨⟨op2, nm2, cmp2, val2, lo2, hi2⟩, a2, cap2⟩ ks2) lo9 hi9 w1 (I2.out.quiet HQ.out))
    unfold Ft.val at HC
    simp only [Tr.top, Tr.kids] at HC
    have q3 : (op == 1) = true := by simpa using h3
    clear h3
    obtain ⟨c0, c1, c2, c3, c4, c5, c6⟩ := seven_cells B.out
    obtain ⟨c20, c21, c22, c23, c24, c25, c26⟩ := seven_cells B2.out
    obtain ⟨r0, r1, r2, r3, r4, r5, r6⟩ := seven_cells BR.out
    have fr := fun i => BR.out.free i
    have hz9 : w.heap.size ≤ _ := HQ.out.size
    have hr9 := BR.out.lt
    have hd9 := hD
    go_wp2_with fail
    refine (HC.out).mono ?_
    rintro e w3 ⟨t3, rfl, hp3, hin3, hq3⟩
    clear c0 c1 c2 c3 c4 c5 c6 c20 c21 c22 c23 c24 c25 c26 r0 r1 r2 r3 r4 r5 r6 fr
    replace B := Go.Lib.hid (hq3.blk B.out (by simp))
    replace B2 := Go.Lib.hid (hq3.blk B2.out (by simp))
    replace BR := Go.Lib.hid (hq3.blk BR.out (by simp))
    replace HQ := Go.Lib.hid (HQ.out.trans hq3)
    obtain ⟨c0, c1, c2, c3, c4, c5, c6⟩ := seven_cells B.out
    obtain ⟨c20, c21, c22, c23, c24, c25, c26⟩ := seven_cells B2.out
    obtain ⟨r0, r1, r2, r3, r4, r5, r6⟩ := seven_cells BR.out
    have fr := fun i => BR.out.free i
    unfold Ft.val
    go_wp2
    have hb7 := blk7 BR.out (.int .i64 t3.top.n.op) (.string t3.top.n.nm) (.int .i64 t3.top.n.cmp) (.int .i64 t3.top.n.val) (.int .i64 t3.top.n.lo) (.int .i64 t3.top.n.hi) (.slice t3.top.a t3.kids.length t3.top.cap)
    have hs7 := set7 w3 (w.heap.size + 1 + 1) (.int .i64 t3.top.n.op) (.string t3.top.n.nm) (.int .i64 t3.top.n.cmp) (.int .i64 t3.top.n.val) (.int .i64 t3.top.n.lo) (.int .i64 t3.top.n.hi) (.slice t3.top.a t3.kids.length t3.top.cap)
    have hq7 : Quiet w _ := HQ.out.then hs7 (fun i hi e => by omega)
    clear r0 r1 r2 r3 r4 r5 r6
    obtain ⟨r0, r1, r2, r3, r4, r5, r6⟩ := seven_cells hb7
    exact bodyPost_ret (v := Ft.val t3) (by simp [results, Tryd.results103, go_sem, Ft.val, r0, r1, r2, r3, r4, r5, r6]) rfl ⟨_, rfl, hp3.trans HN.out.symm, (hin3.keep hs7 (fun k hk _ e => hk.elim (fun hk => by have := hd9 k hk; omega) (fun hk => by omega))).mono (fun k _ hk => hk.imp_right (fun h => by omega)), hq7⟩
  have b3 : (op == 1) = false := by simpa using h3
  by_cases h4 : op2 = 1 ∧ lo9 = 0
  · have HN := Go.Lib.hid (nUn_y1 (hi := hi9) (by rw [P2.out]; exact h1) (by rw [P.out]; exact h2) (by rw [P.out]; exact h3) (P2.out.trans h4.1) h4.2)
    have q1 : (op2 == 1) = true := by simpa using h4.1
    have q2 : (lo9 == 0) = true := by simpa using h4.2
    clear h4
    obtain ⟨c0, c1, c2, c3, c4, c5, c6⟩ := seven_cells B.out
    obtain ⟨c20, c21, c22, c23, c24, c25, c26⟩ := seven_cells B2.out
    obtain ⟨r0, r1, r2, r3, r4, r5, r6⟩ := seven_cells BR.out
    have fr := fun i => BR.out.free i
    go_wp2
    have hb7 := blk7 BR.out (.int .i64 1) (.string ⟨#[]⟩) (.int .i64 0) (.int .i64 0) (.int .i64 0) (.int .i64 0) (.slice none 0 0)
    have hs7 := set7 w1 (w.heap.size + 1 + 1) (.int .i64 1) (.string ⟨#[]⟩) (.int .i64 0) (.int .i64 0) (.int .i64 0) (.int .i64 0) (.slice none 0 0)
    have hq7 : Quiet w _ := HQ.out.then hs7 (fun i hi e => by omega)
    clear r0 r1 r2 r3 r4 r5 r6
    obtain ⟨r0, r1, r2, r3, r4, r5, r6⟩ := seven_cells hb7
    exact bodyPost_ret (v := Ft.val (.nd ⟨{ z0 with op := 1 }, none, 0⟩ [])) (by simp [results, Tryd.results103, go_sem, Ft.val, Tr.top, Tr.kids, z0, r0, r1, r2, r3, r4, r5, r6]) rfl ⟨_, rfl, by rw [HN.out]; rfl, In.leaf _ _ _, hq7⟩
  have HN := Go.Lib.hid (nUn_else (lo := lo9) (hi := hi9) (by rw [P2.out]; exact h1) (by rw [P.out]; exact h2) (by rw [P.out]; exact h3) (by rw [P2.out]; exact h4))
  by_cases h5 : op2 = 1
  · have h6 : lo9 ≠ 0 := fun h => h4 ⟨h5, h⟩
    have b6 : (lo9 == 0) = false := by simpa using h6
    have q1 : (op2 == 1) = true := by simpa using h5
    clear h4 h5
    obtain ⟨c0, c1, c2, c3, c4, c5, c6⟩ := seven_cells B.out
    obtain ⟨c20, c21, c22, c23, c24, c25, c26⟩ := seven_cells B2.out
    obtain ⟨r0, r1, r2, r3, r4, r5, r6⟩ := seven_cells BR.out
    have fr := fun i => BR.out.free i
    have hlt := BR.out.lt
    go_wp2
    have hb7 := (blk7 BR.out (.int .i64 11) (.string ⟨#[]⟩) (.int .i64 0) (.int .i64 0) (.int .i64 lo9) (.int .i64 hi9) (.slice (some ⟨w1.heap.size, 0, none⟩) 2 2)).alloc (.cells #[.int .i64 op, .string nm, .int .i64 cmp, .int .i64 val, .int .i64 lo, .int .i64 hi, .slice a ks.length cap, .int .i64 op2, .string nm2, .int .i64 cmp2, .int .i64 val2, .int .i64 lo2, .int .i64 hi2, .slice a2 ks2.length cap2] 33)
    have hq7 : Quiet w _ := (HQ.out.then (set7 w1 (w.heap.size + 1 + 1) (.int .i64 11) (.string ⟨#[]⟩) (.int .i64 0) (.int .i64 0) (.int .i64 lo9) (.int .i64 hi9) (.slice (some ⟨w1.heap.size, 0, none⟩) 2 2)) (fun i hi e => by omega)).alloc (.cells #[.int .i64 op, .string nm, .int .i64 cmp, .int .i64 val, .int .i64 lo, .int .i64 hi, .slice a ks.length cap, .int .i64 op2, .string nm2, .int .i64 cmp2, .int .i64 val2, .int .i64 lo2, .int .i64 hi2, .slice a2 ks2.length cap2] 33)
    clear r0 r1 r2 r3 r4 r5 r6
    obtain ⟨r0, r1, r2, r3, r4, r5, r6⟩ := seven_cells hb7
    refine bodyPost_ret (v := Ft.val (.nd ⟨{ z0 with op := 11, lo := lo9, hi := hi9 }, some ⟨w1.heap.size, 0, none⟩, 2⟩ [.nd ⟨⟨op, nm, cmp, val, lo, hi⟩, a, cap⟩ ks, .nd ⟨⟨op2, nm2, cmp2, val2, lo2, hi2⟩, a2, cap2⟩ ks2])) (by simp [results, Tryd.results103, go_sem, Ft.val, Tr.top, Tr.kids, z0, r0, r1, r2, r3, r4, r5, r6]) rfl ⟨_, rfl, by rw [HN.out]; rfl, ?_, hq7⟩
    refine In.made (T := [.nd ⟨⟨op, nm, cmp, val, lo, hi⟩, a, cap⟩ ks, .nd ⟨⟨op2, nm2, cmp2, val2, lo2, hi2⟩, a2, cap2⟩ ks2]) (ty := 33) ?_ (by simp [maxLen]) ?_ hq7 (by have := HQ.out.size; omega)
    · have := Blk.new (((((((w1.setCell ⟨w.heap.size + 1 + 1, 0, none⟩ (.int .i64 11)).setCell ⟨w.heap.size + 1 + 1, 1, none⟩ (.string ⟨#[]⟩)).setCell ⟨w.heap.size + 1 + 1, 2, none⟩ (.int .i64 0)).setCell ⟨w.heap.size + 1 + 1, 3, none⟩ (.int .i64 0)).setCell ⟨w.heap.size + 1 + 1, 4, none⟩ (.int .i64 lo9)).setCell ⟨w.heap.size + 1 + 1, 5, none⟩ (.int .i64 hi9)).setCell ⟨w.heap.size + 1 + 1, 6, none⟩ (.slice (some ⟨w1.heap.size, 0, none⟩) 2 2)) #[.int .i64 op, .string nm, .int .i64 cmp, .int .i64 val, .int .i64 lo, .int .i64 hi, .slice a ks.length cap, .int .i64 op2, .string nm2, .int .i64 cmp2, .int .i64 val2, .int .i64 lo2, .int .i64 hi2, .slice a2 ks2.length cap2] 33
      simp only [World.size_setCell] at this
      exact this
    · intro t ht
      simp only [List.mem_cons, List.not_mem_nil, or_false] at ht
      rcases ht with rfl | rfl
      · exact I.out
      · exact I2.out
  · have b5 : (op2 == 1) = false := by simpa using h5
    clear h4
    obtain ⟨c0, c1, c2, c3, c4, c5, c6⟩ := seven_cells B.out
    obtain ⟨c20, c21, c22, c23, c24, c25, c26⟩ := seven_cells B2.out
    obtain ⟨r0, r1, r2, r3, r4, r5, r6⟩ := seven_cells BR.out
    have fr := fun i => BR.out.free i
    have hlt := BR.out.lt
    go_wp2
    have hb7 := (blk7 BR.out (.int .i64 11) (.string ⟨#[]⟩) (.int .i64 0) (.int .i64 0) (.int .i64 lo9) (.int .i64 hi9) (.slice (some ⟨w1.heap.size, 0, none⟩) 2 2)).alloc (.cells #[.int .i64 op, .string nm, .int .i64 cmp, .int .i64 val, .int .i64 lo, .int .i64 hi, .slice a ks.length cap, .int .i64 op2, .string nm2, .int .i64 cmp2, .int .i64 val2, .int .i64 lo2, .int .i64 hi2, .slice a2 ks2.length cap2] 33)
    have hq7 : Quiet w _ := (HQ.out.then (set7 w1 (w.heap.size + 1 + 1) (.int .i64 11) (.string ⟨#[]⟩) (.int .i64 0) (.int .i64 0) (.int .i64 lo9) (.int .i64 hi9) (.slice (some ⟨w1.heap.size, 0, none⟩) 2 2)) (fun i hi e => by omega)).alloc (.cells #[.int .i64 op, .string nm, .int .i64 cmp, .int .i64 val, .int .i64 lo, .int .i64 hi, .slice a ks.length cap, .int .i64 op2, .string nm2, .int .i64 cmp2, .int .i64 val2, .int .i64 lo2, .int .i64 hi2, .slice a2 ks2.length cap2] 33)
    clear r0 r1 r2 r3 r4 r5 r6
    obtain ⟨r0, r1, r2, r3, r4, r5, r6⟩ := seven_cells hb7
    refine bodyPost_ret (v := Ft.val (.nd ⟨{ z0 with op := 11, lo := lo9, hi := hi9 }, some ⟨w1.heap.size, 0, none⟩, 2⟩ [.nd ⟨⟨op, nm, cmp, val, lo, hi⟩, a, cap⟩ ks, .nd ⟨⟨op2, nm2, cmp2, val2, lo2, hi2⟩, a2, cap2⟩ ks2])) (by simp [results, Tryd.results103, go_sem, Ft.val, Tr.top, Tr.kids, z0, r0, r1, r2, r3, r4, r5, r6]) rfl ⟨_, rfl, by rw [HN.out]; rfl, ?_, hq7⟩
    refine In.made (T := [.nd ⟨⟨op, nm, cmp, val, lo, hi⟩, a, cap⟩ ks, .nd ⟨⟨op2, nm2, cmp2, val2, lo2, hi2⟩, a2, cap2⟩ ks2]) (ty := 33) ?_ (by simp [maxLen]) ?_ hq7 (by have := HQ.out.size; omega)
    · have := Blk.new (((((((w1.setCell ⟨w.heap.size + 1 + 1, 0, none⟩ (.int .i64 11)).setCell ⟨w.heap.size + 1 + 1, 1, none⟩ (.string ⟨#[]⟩)).setCell ⟨w.heap.size + 1 + 1, 2, none⟩ (.int .i64 0)).setCell ⟨w.heap.size + 1 + 1, 3, none⟩ (.int .i64 0)).setCell ⟨w.heap.size + 1 + 1, 4, none⟩ (.int .i64 lo9)).setCell ⟨w.heap.size + 1 + 1, 5, none⟩ (.int .i64 hi9)).setCell ⟨w.heap.size + 1 + 1, 6, none⟩ (.slice (some ⟨w1.heap.size, 0, none⟩) 2 2)) #[.int .i64 op, .string nm, .int .i64 cmp, .int .i64 val, .int .i64 lo, .int .i64 hi, .slice a ks.length cap, .int .i64 op2, .string nm2, .int .i64 cmp2, .int .i64 val2, .int .i64 lo2, .int .i64 hi2, .slice a2 ks2.length cap2] 33
      simp only [World.size_setCell] at this
      exact this
    · intro t ht
      simp only [List.mem_cons, List.not_mem_nil, or_false] at ht
      rcases ht with rfl | rfl
      · exact I.out
      · exact I2.out
end Go.Proofs.YtnpcakakjhiboaaDoor
