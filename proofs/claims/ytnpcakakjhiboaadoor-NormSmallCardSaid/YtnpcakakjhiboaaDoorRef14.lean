/- The model's not, and, iff, ev, un. No condition. -/
import Derived.Test.YtnpcakakjhiboaaDoorNodes8
import Derived.Test.YtnpcakakjhiboaaDoorMem
import Derived.Test.YtnpcakakjhiboaaDoorForm
namespace Go.Proofs.YtnpcakakjhiboaaDoor
open Go.RowKit Go.Lo Go.WideShapes

set_option maxRecDepth 100000 in
set_option maxHeartbeats 1000000 in
theorem not14_walk (D : Nat → Prop) (x : Ft) (w : World) (hin : In D w x) (hk : x.top.n.op = 4 → x.kids ≠ []) : Calls Tryd.prog 99 #[x.val] w (Makes D (nNot x.pl) w) := by
  obtain ⟨⟨⟨op, nm, cmp, val, lo, hi⟩, a, cap⟩, ks⟩ := x
  have HI := Go.Lib.hid hin
  have HK := Go.Lib.hid hk
  have hn : nNot (Ft.pl (.nd ⟨⟨op, nm, cmp, val, lo, hi⟩, a, cap⟩ ks)) = if op = 1 then leaf 2 else if op = 2 then leaf 1 else if op = 4 then kid0 (Ft.pl (.nd ⟨⟨op, nm, cmp, val, lo, hi⟩, a, cap⟩ ks)) else nd1 4 (Ft.pl (.nd ⟨⟨op, nm, cmp, val, lo, hi⟩, a, cap⟩ ks)) := by unfold nNot; rw [pl_op]; rfl
  clear hin hk
  unfold Ft.val
  simp only [Tr.top, Tr.kids]
  by_cases h1 : op = 1
  · subst h1
    have HN := Go.Lib.hid (hn.trans (if_pos rfl))
    clear hn
    go_enter Tryd.func99, Tryd.ntmps99
    go_wp2
    obtain ⟨r0, r1, r2, r3, r4, r5, r6⟩ := seven_cells (alloc2 w (.cells #[.int .i64 1, .string nm, .int .i64 cmp, .int .i64 val, .int .i64 lo, .int .i64 hi, .slice a ks.length cap] 33) #[.int .i64 2, .string ⟨#[]⟩, .int .i64 0, .int .i64 0, .int .i64 0, .int .i64 0, .slice none 0 0] 33)
    exact bodyPost_ret (v := Ft.val (.nd ⟨{ z0 with op := 2 }, none, 0⟩ [])) (by simp [results, Tryd.results99, go_sem, Ft.val, Tr.top, Tr.kids, z0, r0, r1, r2, r3, r4, r5, r6]) rfl ⟨_, rfl, by rw [HN.out]; rfl, In.leaf _ _ _, ((Alters.refl _).alloc _).alloc _⟩
  by_cases h2 : op = 2
  · subst h2
    have HN := Go.Lib.hid (hn.trans (by rw [if_neg (by decide), if_pos rfl]))
    clear hn
    go_enter Tryd.func99, Tryd.ntmps99
    go_wp2
    obtain ⟨r0, r1, r2, r3, r4, r5, r6⟩ := seven_cells (alloc2 w (.cells #[.int .i64 2, .string nm, .int .i64 cmp, .int .i64 val, .int .i64 lo, .int .i64 hi, .slice a ks.length cap] 33) #[.int .i64 1, .string ⟨#[]⟩, .int .i64 0, .int .i64 0, .int .i64 0, .int .i64 0, .slice none 0 0] 33)
    exact bodyPost_ret (v := Ft.val (.nd ⟨{ z0 with op := 1 }, none, 0⟩ [])) (by simp [results, Tryd.results99, go_sem, Ft.val, Tr.top, Tr.kids, z0, r0, r1, r2, r3, r4, r5, r6]) rfl ⟨_, rfl, by rw [HN.out]; rfl, In.leaf _ _ _, ((Alters.refl _).alloc _).alloc _⟩
  have b1 : (op == 1) = false := by simpa using h1
  have b2 : (op == 2) = false := by simpa using h2
  by_cases h4 : op = 4
  · subst h4
    obtain ⟨kk, kr, rfl⟩ : ∃ k r, ks = k :: r := List.exists_cons_of_ne_nil (HK.out rfl)
    obtain ⟨b, o, rfl, hD, hc⟩ := HI.out.fs (by simp [Tr.kids])
    obtain ⟨d0, d1, d2, d3, d4, d5, d6⟩ := ((hc 0 kk rfl).keep (boxes1 w #[.int .i64 4, .string nm, .int .i64 cmp, .int .i64 val, .int .i64 lo, .int .i64 hi, .slice (some ⟨b, o, none⟩) (kk :: kr).length cap] 33).1 (by simp)).seven
    rw [Nat.zero_mul, Nat.add_zero] at d0 d1 d2 d3 d4 d5 d6
    rw [List.length_cons] at *
    have HN := Go.Lib.hid (hn.trans (by rw [if_neg (by decide), if_neg (by decide), if_pos rfl]))
    have HC := Go.Lib.hid (HI.out.kid (k := kk) (by simp [Tr.kids]))
    clear hn hc hD
    go_enter Tryd.func99, Tryd.ntmps99
    go_wp2
    obtain ⟨r0, r1, r2, r3, r4, r5, r6⟩ := seven_cells (alloc2 w (.cells #[.int .i64 4, .string nm, .int .i64 cmp, .int .i64 val, .int .i64 lo, .int .i64 hi, .slice (some ⟨b, o, none⟩) (kr.length + 1) cap] 33) #[.int .i64 kk.top.n.op, .string kk.top.n.nm, .int .i64 kk.top.n.cmp, .int .i64 kk.top.n.val, .int .i64 kk.top.n.lo, .int .i64 kk.top.n.hi, .slice kk.top.a kk.kids.length kk.top.cap] 33)
    exact bodyPost_ret (v := Ft.val kk) (by simp [results, Tryd.results99, go_sem, Ft.val, r0, r1, r2, r3, r4, r5, r6]) rfl ⟨_, rfl, by rw [HN.out, kid0, pl_kids]; rfl, HC.out.also (((Alters.refl _).alloc _).alloc _), ((Alters.refl _).alloc _).alloc _⟩
  have b4 : (op == 4) = false := by simpa using h4
  have HN := Go.Lib.hid (hn.trans (by rw [if_neg h1, if_neg h2, if_neg h4]))
  clear hn
  go_enter Tryd.func99, Tryd.ntmps99
  go_wp2
  obtain ⟨r0, r1, r2, r3, r4, r5, r6⟩ := seven_cells ((alloc2 w (.cells #[.int .i64 op, .string nm, .int .i64 cmp, .int .i64 val, .int .i64 lo, .int .i64 hi, .slice a ks.length cap] 33) #[.int .i64 4, .string ⟨#[]⟩, .int .i64 0, .int .i64 0, .int .i64 0, .int .i64 0, .slice (some ⟨w.heap.size + 1 + 1, 0, none⟩) 1 1] 33).alloc (.cells #[.int .i64 op, .string nm, .int .i64 cmp, .int .i64 val, .int .i64 lo, .int .i64 hi, .slice a ks.length cap] 33))
  refine bodyPost_ret (v := Ft.val (.nd ⟨{ z0 with op := 4 }, some ⟨w.heap.size + 1 + 1, 0, none⟩, 1⟩ [.nd ⟨⟨op, nm, cmp, val, lo, hi⟩, a, cap⟩ ks])) (by simp [results, Tryd.results99, go_sem, Ft.val, Tr.top, Tr.kids, z0, r0, r1, r2, r3, r4, r5, r6]) rfl ⟨_, rfl, by rw [HN.out]; rfl, ?_, (((Alters.refl _).alloc _).alloc _).alloc _⟩
  exact In.made (T := [.nd ⟨⟨op, nm, cmp, val, lo, hi⟩, a, cap⟩ ks]) (ty := 33) (alloc3 w _ _ _ _) (by simp [maxLen]) (by intro t ht; rw [List.mem_singleton] at ht; subst ht; exact HI.out) ((((Alters.refl _).alloc _).alloc _).alloc _) (by omega)

/-- What lies at the call: two formulas' boxes, and the result's. -/
theorem boxes2 (w : World) (xs ys : Array Value) (t : TypeId) : Quiet w (((w.alloc (.cells xs t)).alloc (.cells ys t)).alloc (.cells #[.int .i64 0, .string ⟨#[]⟩, .int .i64 0, .int .i64 0, .int .i64 0, .int .i64 0, .slice none 0 0] t)) ∧
    Blk (((w.alloc (.cells xs t)).alloc (.cells ys t)).alloc (.cells #[.int .i64 0, .string ⟨#[]⟩, .int .i64 0, .int .i64 0, .int .i64 0, .int .i64 0, .slice none 0 0] t)) w.heap.size xs t ∧
    Blk (((w.alloc (.cells xs t)).alloc (.cells ys t)).alloc (.cells #[.int .i64 0, .string ⟨#[]⟩, .int .i64 0, .int .i64 0, .int .i64 0, .int .i64 0, .slice none 0 0] t)) (w.heap.size + 1) ys t ∧
    Blk (((w.alloc (.cells xs t)).alloc (.cells ys t)).alloc (.cells #[.int .i64 0, .string ⟨#[]⟩, .int .i64 0, .int .i64 0, .int .i64 0, .int .i64 0, .slice none 0 0] t)) (w.heap.size + 1 + 1) #[.int .i64 0, .string ⟨#[]⟩, .int .i64 0, .int .i64 0, .int .i64 0, .int .i64 0, .slice none 0 0] t :=
  ⟨(((Alters.refl _).alloc _).alloc _).alloc _, ((Blk.new _ _ _).alloc _).alloc _, (alloc2 _ _ _ _).alloc _, alloc3 _ _ _ _ _⟩

set_option maxRecDepth 100000 in
set_option maxHeartbeats 2000000 in
theorem and14_walk (D : Nat → Prop) (x y : Ft) (w : World) (hx : In D w x) (hy : In D w y) : Calls Tryd.prog 101 #[x.val, y.val] w (Makes D (nAnd x.pl y.pl) w) := by
  obtain ⟨⟨⟨op, nm, cmp, val, lo, hi⟩, a, cap⟩, ks⟩ := x
  obtain ⟨⟨⟨op2, nm2, cmp2, val2, lo2, hi2⟩, a2, cap2⟩, ls⟩ := y
  have PX : Hid ((Ft.pl (.nd ⟨⟨op, nm, cmp, val, lo, hi⟩, a, cap⟩ ks)).top.op = op) := pl_op2 _
  have PY : Hid ((Ft.pl (.nd ⟨⟨op2, nm2, cmp2, val2, lo2, hi2⟩, a2, cap2⟩ ls)).top.op = op2) := pl_op2 _
  obtain ⟨hq, hb1, hb2, hb3⟩ := boxes2 w #[.int .i64 op, .string nm, .int .i64 cmp, .int .i64 val, .int .i64 lo, .int .i64 hi, .slice a ks.length cap] #[.int .i64 op2, .string nm2, .int .i64 cmp2, .int .i64 val2, .int .i64 lo2, .int .i64 hi2, .slice a2 ls.length cap2] 33
  have HX := Go.Lib.hid hx
  have HY := Go.Lib.hid hy
  have HS := Go.Lib.hid (same8_any D _ _ _ (hx.quiet hq) (hy.quiet hq))
  have HQ := Go.Lib.hid hq
  have HB1 := Go.Lib.hid hb1
  have HB2 := Go.Lib.hid hb2
  have HB3 := Go.Lib.hid hb3
  clear hx hy hq hb1 hb2 hb3
  unfold Ft.val at HS ⊢
  simp only [Tr.top, Tr.kids] at HS ⊢
  by_cases h1 : op = 2
  · subst h1
    have HN := Go.Lib.hid (nAnd_x2 (y := Ft.pl (.nd ⟨⟨op2, nm2, cmp2, val2, lo2, hi2⟩, a2, cap2⟩ ls)) PX.out)
    clear HS HB1 HB2 HB3 HQ
    go_enter Tryd.func101, Tryd.ntmps101
    go_wp2
    obtain ⟨r0, r1, r2, r3, r4, r5, r6⟩ := seven_cells (alloc3 w (.cells #[.int .i64 2, .string nm, .int .i64 cmp, .int .i64 val, .int .i64 lo, .int .i64 hi, .slice a ks.length cap] 33) (.cells #[.int .i64 op2, .string nm2, .int .i64 cmp2, .int .i64 val2, .int .i64 lo2, .int .i64 hi2, .slice a2 ls.length cap2] 33) #[.int .i64 2, .string ⟨#[]⟩, .int .i64 0, .int .i64 0, .int .i64 0, .int .i64 0, .slice none 0 0] 33)
    exact bodyPost_ret (v := Ft.val (.nd ⟨{ z0 with op := 2 }, none, 0⟩ [])) (by simp [results, Tryd.results101, go_sem, Ft.val, Tr.top, Tr.kids, z0, r0, r1, r2, r3, r4, r5, r6]) rfl ⟨_, rfl, HN.out.symm, In.leaf _ _ _, (((Alters.refl _).alloc _).alloc _).alloc _⟩
  have b1 : (op == 2) = false := by simpa using h1
  by_cases h2 : op2 = 2
  · subst h2
    have HN := Go.Lib.hid (nAnd_y2 (x := Ft.pl (.nd ⟨⟨op, nm, cmp, val, lo, hi⟩, a, cap⟩ ks)) PY.out)
    clear HS HB1 HB2 HB3 HQ
    go_enter Tryd.func101, Tryd.ntmps101
    go_wp2
    obtain ⟨r0, r1, r2, r3, r4, r5, r6⟩ := seven_cells (alloc3 w (.cells #[.int .i64 op, .string nm, .int .i64 cmp, .int .i64 val, .int .i64 lo, .int .i64 hi, .slice a ks.length cap] 33) (.cells #[.int .i64 2, .string nm2, .int .i64 cmp2, .int .i64 val2, .int .i64 lo2, .int .i64 hi2, .slice a2 ls.length cap2] 33) #[.int .i64 2, .string ⟨#[]⟩, .int .i64 0, .int .i64 0, .int .i64 0, .int .i64 0, .slice none 0 0] 33)
    exact bodyPost_ret (v := Ft.val (.nd ⟨{ z0 with op := 2 }, none, 0⟩ [])) (by simp [results, Tryd.results101, go_sem, Ft.val, Tr.top, Tr.kids, z0, r0, r1, r2, r3, r4, r5, r6]) rfl ⟨_, rfl, HN.out.symm, In.leaf _ _ _, (((Alters.refl _).alloc _).alloc _).alloc _⟩
  have b2 : (op2 == 2) = false := by simpa using h2
  by_cases h3 : op = 1
  · subst h3
    have HN := Go.Lib.hid (nAnd_x1 (x := Ft.pl _) (y := Ft.pl _) (by rw [PX.out]; exact h1) (by rw [PY.out]; exact h2) PX.out)
    clear HS HB1 HB2 HB3 HQ
    go_enter Tryd.func101, Tryd.ntmps101
    go_wp2
    obtain ⟨r0, r1, r2, r3, r4, r5, r6⟩ := seven_cells (alloc3 w (.cells #[.int .i64 1, .string nm, .int .i64 cmp, .int .i64 val, .int .i64 lo, .int .i64 hi, .slice a ks.length cap] 33) (.cells #[.int .i64 op2, .string nm2, .int .i64 cmp2, .int .i64 val2, .int .i64 lo2, .int .i64 hi2, .slice a2 ls.length cap2] 33) #[.int .i64 op2, .string nm2, .int .i64 cmp2, .int .i64 val2, .int .i64 lo2, .int .i64 hi2, .slice a2 ls.length cap2] 33)
    exact bodyPost_ret (v := Ft.val (.nd ⟨⟨op2, nm2, cmp2, val2, lo2, hi2⟩, a2, cap2⟩ ls)) (by simp [results, Tryd.results101, go_sem, Ft.val, Tr.top, Tr.kids, r0, r1, r2, r3, r4, r5, r6]) rfl ⟨_, rfl, HN.out.symm, HY.out.also ((((Alters.refl _).alloc _).alloc _).alloc _), (((Alters.refl _).alloc _).alloc _).alloc _⟩
  have b3 : (op == 1) = false := by simpa using h3
  by_cases h4 : op2 = 1
  · subst h4
    have HN := Go.Lib.hid (nAnd_y1 (x := Ft.pl _) (y := Ft.pl _) (by rw [PX.out]; exact h1) (by rw [PY.out]; exact h2) (by rw [PX.out]; exact h3) PY.out)
    clear HS HB1 HB2 HB3 HQ
    go_enter Tryd.func101, Tryd.ntmps101
    go_wp2
    obtain ⟨r0, r1, r2, r3, r4, r5, r6⟩ := seven_cells (alloc3 w (.cells #[.int .i64 op, .string nm, .int .i64 cmp, .int .i64 val, .int .i64 lo, .int .i64 hi, .slice a ks.length cap] 33) (.cells #[.int .i64 1, .string nm2, .int .i64 cmp2, .int .i64 val2, .int .i64 lo2, .int .i64 hi2, .slice a2 ls.length cap2] 33) #[.int .i64 op, .string nm, .int .i64 cmp, .int .i64 val, .int .i64 lo, .int .i64 hi, .slice a ks.length cap] 33)
    exact bodyPost_ret (v := Ft.val (.nd ⟨⟨op, nm, cmp, val, lo, hi⟩, a, cap⟩ ks)) (by simp [results, Tryd.results101, go_sem, Ft.val, Tr.top, Tr.kids, r0, r1, r2, r3, r4, r5, r6]) rfl ⟨_, rfl, HN.out.symm, HX.out.also ((((Alters.refl _).alloc _).alloc _).alloc _), (((Alters.refl _).alloc _).alloc _).alloc _⟩
  have b4 : (op2 == 1) = false := by simpa using h4
  go_enter Tryd.func101, Tryd.ntmps101
  go_wp2_with fail
  refine HS.out.mono ?_
  rintro e w3 ⟨rfl, hq3⟩
  have HQ3 := Go.Lib.hid (HQ.out.trans hq3)
  have hb1 := hq3.blk HB1.out (by simp)
  have hb2 := hq3.blk HB2.out (by simp)
  have hb3 := hq3.blk HB3.out (by simp)
  obtain ⟨c0, c1, c2, c3, c4, c5, c6⟩ := seven_cells hb1
  obtain ⟨e0, e1, e2, e3, e4, e5, e6⟩ := seven_cells hb2
  obtain ⟨r0, r1, r2, r3, r4, r5, r6⟩ := seven_cells hb3
  have fr := fun i => hb3.free i
  clear HS HB1 HB2 HB3 HQ hq3 hb1 hb2
  cases hs : same (Ft.pl (.nd ⟨⟨op, nm, cmp, val, lo, hi⟩, a, cap⟩ ks)) (Ft.pl (.nd ⟨⟨op2, nm2, cmp2, val2, lo2, hi2⟩, a2, cap2⟩ ls))
  · have HN := Go.Lib.hid (nAnd_else (x := Ft.pl _) (y := Ft.pl _) (by rw [PX.out]; exact h1) (by rw [PY.out]; exact h2) (by rw [PX.out]; exact h3) (by rw [PY.out]; exact h4) hs)
    have hlt := hb3.lt
    have hb7 := (blk7 hb3 (.int .i64 5) (.string ⟨#[]⟩) (.int .i64 0) (.int .i64 0) (.int .i64 0) (.int .i64 0) (.slice (some ⟨w3.heap.size, 0, none⟩) 2 2)).alloc (.cells #[.int .i64 op, .string nm, .int .i64 cmp, .int .i64 val, .int .i64 lo, .int .i64 hi, .slice a ks.length cap, .int .i64 op2, .string nm2, .int .i64 cmp2, .int .i64 val2, .int .i64 lo2, .int .i64 hi2, .slice a2 ls.length cap2] 33)
    have HB7 := Go.Lib.hid hb7
    clear hb3 hb7
    go_wp2
    clear r0 r1 r2 r3 r4 r5 r6
    obtain ⟨r0, r1, r2, r3, r4, r5, r6⟩ := seven_cells HB7.out
    have hs7 := set7 w3 (w.heap.size + 1 + 1) (.int .i64 5) (.string ⟨#[]⟩) (.int .i64 0) (.int .i64 0) (.int .i64 0) (.int .i64 0) (.slice (some ⟨w3.heap.size, 0, none⟩) 2 2)
    have hq4 : Quiet w _ := (HQ3.out.then hs7 (fun i hi e => by omega)).alloc (.cells #[.int .i64 op, .string nm, .int .i64 cmp, .int .i64 val, .int .i64 lo, .int .i64 hi, .slice a ks.length cap, .int .i64 op2, .string nm2, .int .i64 cmp2, .int .i64 val2, .int .i64 lo2, .int .i64 hi2, .slice a2 ls.length cap2] 33)
    refine bodyPost_ret (v := Ft.val (.nd ⟨{ z0 with op := 5 }, some ⟨w3.heap.size, 0, none⟩, 2⟩ [.nd ⟨⟨op, nm, cmp, val, lo, hi⟩, a, cap⟩ ks, .nd ⟨⟨op2, nm2, cmp2, val2, lo2, hi2⟩, a2, cap2⟩ ls])) (by simp [results, Tryd.results101, go_sem, Ft.val, Tr.top, Tr.kids, z0, r0, r1, r2, r3, r4, r5, r6]) rfl ⟨_, rfl, by rw [HN.out]; rfl, ?_, hq4⟩
    refine In.made (T := [.nd ⟨⟨op, nm, cmp, val, lo, hi⟩, a, cap⟩ ks, .nd ⟨⟨op2, nm2, cmp2, val2, lo2, hi2⟩, a2, cap2⟩ ls]) (ty := 33) ?_ (by simp [maxLen]) ?_ hq4 (by omega)
    · have := Blk.new (((((((w3.setCell ⟨w.heap.size + 1 + 1, 0, none⟩ (.int .i64 5)).setCell ⟨w.heap.size + 1 + 1, 1, none⟩ (.string ⟨#[]⟩)).setCell ⟨w.heap.size + 1 + 1, 2, none⟩ (.int .i64 0)).setCell ⟨w.heap.size + 1 + 1, 3, none⟩ (.int .i64 0)).setCell ⟨w.heap.size + 1 + 1, 4, none⟩ (.int .i64 0)).setCell ⟨w.heap.size + 1 + 1, 5, none⟩ (.int .i64 0)).setCell ⟨w.heap.size + 1 + 1, 6, none⟩ (.slice (some ⟨w3.heap.size, 0, none⟩) 2 2)) #[.int .i64 op, .string nm, .int .i64 cmp, .int .i64 val, .int .i64 lo, .int .i64 hi, .slice a ks.length cap, .int .i64 op2, .string nm2, .int .i64 cmp2, .int .i64 val2, .int .i64 lo2, .int .i64 hi2, .slice a2 ls.length cap2] 33
      simp only [World.size_setCell] at this
      exact this
    · intro t ht
      simp only [List.mem_cons, List.not_mem_nil, or_false] at ht
      rcases ht with rfl | rfl
      · exact HX.out
      · exact HY.out
  · have HN := Go.Lib.hid (nAnd_same (x := Ft.pl _) (y := Ft.pl _) (by rw [PX.out]; exact h1) (by rw [PY.out]; exact h2) (by rw [PX.out]; exact h3) hs)
    clear hb3
    go_wp2
    have hs7 := set7 w3 (w.heap.size + 1 + 1) (.int .i64 op) (.string nm) (.int .i64 cmp) (.int .i64 val) (.int .i64 lo) (.int .i64 hi) (.slice a ks.length cap)
    have hq4 : Quiet w _ := HQ3.out.then hs7 (fun i hi e => by omega)
    exact bodyPost_ret (v := Ft.val (.nd ⟨⟨op, nm, cmp, val, lo, hi⟩, a, cap⟩ ks)) (by simp [results, Tryd.results101, go_sem, Ft.val, Tr.top, Tr.kids, r0, r1, r2, r3, r4, r5, r6]) rfl ⟨_, rfl, HN.out.symm, HX.out.also hq4, hq4⟩
end Go.Proofs.YtnpcakakjhiboaaDoor
