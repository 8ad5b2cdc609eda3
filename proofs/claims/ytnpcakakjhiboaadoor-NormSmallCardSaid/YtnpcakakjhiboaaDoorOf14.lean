/- The model's Of. No condition. -/
import Derived.Test.YtnpcakakjhiboaaDoorMade14
import Derived.Test.YtnpcakakjhiboaaDoorNodes8
import Derived.Test.YtnpcakakjhiboaaDoorNfP
namespace Go.Proofs.YtnpcakakjhiboaaDoor
open Go.RowKit Go.Lo Go.WideShapes

set_option maxRecDepth 100000 in
set_option maxHeartbeats 4000000 in
theorem of14_v (D : Nat → Prop) (t : Ft) (w : World) (hin : In D w t) (hsz : t.size ≤ 10000) (hD : ∀ k, w.heap.size ≤ k → D k) : Calls Tryd.prog 26 #[t.val] w (Gives D (normOf (Ft.pl t)) w) := by
  have hd1 : In (fun k => D k ∧ k ≠ w.heap.size + 1) w t := hin.cut.mono (fun k _ h => ⟨h.1, by omega⟩)
  have HI := Go.Lib.hid hd1
  have HSZ := Go.Lib.hid hsz
  have HD := Go.Lib.hid hD
  clear hin hsz hD hd1
  unfold Ft.val
  go_enter Tryd.func26, Tryd.ntmps26
  go_upto_region 1 with (fail)
  have B : Hid (Blk ((w.alloc (.cells #[.int .i64 t.top.n.op, .string t.top.n.nm, .int .i64 t.top.n.cmp, .int .i64 t.top.n.val, .int .i64 t.top.n.lo, .int .i64 t.top.n.hi, .slice t.top.a t.kids.length t.top.cap] 33)).alloc (.cells #[.int .i64 0, .string ⟨#[]⟩, .int .i64 0, .int .i64 0, .int .i64 0, .int .i64 0, .slice none 0 0] 33)) w.heap.size #[.int .i64 t.top.n.op, .string t.top.n.nm, .int .i64 t.top.n.cmp, .int .i64 t.top.n.val, .int .i64 t.top.n.lo, .int .i64 t.top.n.hi, .slice t.top.a t.kids.length t.top.cap] 33) := (Blk.new _ _ _).alloc _
  have BR : Hid (Blk ((w.alloc (.cells #[.int .i64 t.top.n.op, .string t.top.n.nm, .int .i64 t.top.n.cmp, .int .i64 t.top.n.val, .int .i64 t.top.n.lo, .int .i64 t.top.n.hi, .slice t.top.a t.kids.length t.top.cap] 33)).alloc (.cells #[.int .i64 0, .string ⟨#[]⟩, .int .i64 0, .int .i64 0, .int .i64 0, .int .i64 0, .slice none 0 0] 33)) (w.heap.size + 1) #[.int .i64 0, .string ⟨#[]⟩, .int .i64 0, .int .i64 0, .int .i64 0, .int .i64 0, .slice none 0 0] 33) := alloc2 _ _ _ _
  have HQ : Hid (Quiet w ((w.alloc (.cells #[.int .i64 t.top.n.op, .string t.top.n.nm, .int .i64 t.top.n.cmp, .int .i64 t.top.n.val, .int .i64 t.top.n.lo, .int .i64 t.top.n.hi, .slice t.top.a t.kids.length t.top.cap] 33)).alloc (.cells #[.int .i64 0, .string ⟨#[]⟩, .int .i64 0, .int .i64 0, .int .i64 0, .int .i64 0, .slice none 0 0] 33))) := ((Alters.refl _).alloc _).alloc _
  generalize (w.alloc _).alloc _ = w1 at *
  obtain ⟨c0, c1, c2, c3, c4, c5, c6⟩ := seven_cells B.out
  have HS := Go.Lib.hid (first8_walk _ t (by have := HSZ.out; omega) w1 (HI.out.quiet HQ.out))
  unfold Ft.val at HS
  go_wp2_with fail
  refine HS.out.mono ?_
  rintro e w2 ⟨rfl, hq2⟩
  clear c0 c1 c2 c3 c4 c5 c6 HS
  replace B := Go.Lib.hid (hq2.blk B.out (by simp))
  replace BR := Go.Lib.hid (hq2.blk BR.out (by simp))
  replace HQ := Go.Lib.hid (HQ.out.trans hq2)
  clear hq2
  by_cases hf : first (Ft.pl t) = 0
  rotate_left
  · have b1 : (first (Ft.pl t) == 0) = false := by simpa using hf
    have b2 : (first (Ft.pl t) != 0) = true := by simpa using hf
    have HN := Go.Lib.hid (show normOf (Ft.pl t) = leaf 0 by unfold normOf; rw [if_neg hf])
    clear hf
    obtain ⟨r0, r1, r2, r3, r4, r5, r6⟩ := seven_cells BR.out
    have fr := fun i => BR.out.free i
    go_wp2
    have hb7 := blk7 BR.out (.int .i64 0) (.string ⟨#[]⟩) (.int .i64 0) (.int .i64 0) (.int .i64 0) (.int .i64 0) (.slice none 0 0)
    have hs7 := set7 w2 (w.heap.size + 1) (.int .i64 0) (.string ⟨#[]⟩) (.int .i64 0) (.int .i64 0) (.int .i64 0) (.int .i64 0) (.slice none 0 0)
    have hq7 : Quiet w _ := HQ.out.then hs7 (fun i hi e => by omega)
    clear r0 r1 r2 r3 r4 r5 r6
    obtain ⟨r0, r1, r2, r3, r4, r5, r6⟩ := seven_cells hb7
    exact bodyPost_ret (v := Ft.val (.nd ⟨{ z0 with op := 0 }, none, 0⟩ [])) (by simp [results, Tryd.results26, go_sem, Ft.val, Tr.top, Tr.kids, z0, r0, r1, r2, r3, r4, r5, r6]) rfl ⟨_, rfl, ⟨_, rfl, by rw [HN.out]; rfl, In.leaf _ _ _⟩, hq7⟩
  · have b1 : (first (Ft.pl t) == 0) = true := by simpa using hf
    have b2 : (first (Ft.pl t) != 0) = false := by simpa using hf
    have hsd := (first_zero _).1 hf
    have HN := Go.Lib.hid (normOf_sound hsd)
    have HM := Go.Lib.hid (made14_v t hsd (fun k => D k ∧ k ≠ w.heap.size + 1) w2 (HI.out.quiet HQ.out) (fun k hk => ⟨HD.out k (by have := HQ.out.size; omega), by have := BR.out.lt; omega⟩))
    clear hf hsd
    unfold Ft.val at HM
    obtain ⟨c0, c1, c2, c3, c4, c5, c6⟩ := seven_cells B.out
    go_wp2_with fail
    refine HM.out.mono ?_
    rintro e w3 ⟨v, rfl, ⟨t9, rfl, hp9, hi9⟩, hq9⟩
    clear c0 c1 c2 c3 c4 c5 c6 HM
    replace BR := Go.Lib.hid (hq9.blk BR.out (by simp))
    replace HQ := Go.Lib.hid (HQ.out.trans hq9)
    have HI9 := Go.Lib.hid hi9
    have HP9 := Go.Lib.hid hp9
    clear hi9 hp9 hq9
    unfold Ft.val
    obtain ⟨r0, r1, r2, r3, r4, r5, r6⟩ := seven_cells BR.out
    have fr := fun i => BR.out.free i
    go_wp2
    have hb7 := blk7 BR.out (.int .i64 t9.top.n.op) (.string t9.top.n.nm) (.int .i64 t9.top.n.cmp) (.int .i64 t9.top.n.val) (.int .i64 t9.top.n.lo) (.int .i64 t9.top.n.hi) (.slice t9.top.a t9.kids.length t9.top.cap)
    have hs7 := set7 w3 (w.heap.size + 1) (.int .i64 t9.top.n.op) (.string t9.top.n.nm) (.int .i64 t9.top.n.cmp) (.int .i64 t9.top.n.val) (.int .i64 t9.top.n.lo) (.int .i64 t9.top.n.hi) (.slice t9.top.a t9.kids.length t9.top.cap)
    have hq7 : Quiet w _ := HQ.out.then hs7 (fun i hi e => by omega)
    clear r0 r1 r2 r3 r4 r5 r6
    obtain ⟨r0, r1, r2, r3, r4, r5, r6⟩ := seven_cells hb7
    exact bodyPost_ret (v := Ft.val t9) (by simp [results, Tryd.results26, go_sem, Ft.val, r0, r1, r2, r3, r4, r5, r6]) rfl ⟨_, rfl, ⟨t9, rfl, HP9.out.trans HN.out.symm, (HI9.out.keep hs7 (fun k hk _ e => hk.2 e)).mono (fun k _ hk => hk.1)⟩, hq7⟩
end Go.Proofs.YtnpcakakjhiboaaDoor
