/- norm's closures: what becomes of a node of each kind. No condition. -/
import Derived.Test.YtnpcakakjhiboaaDoorVal14
import Derived.Test.YtnpcakakjhiboaaDoorNorm3
import Derived.Test.YtnpcakakjhiboaaDoorCalm
import Derived.Test.YtnpcakakjhiboaaDoorMade14
namespace Go.Proofs.YtnpcakakjhiboaaDoor
open Go.RowKit Go.Lo Go.WideShapes

/-- What lies where a closure goes on: the boxes of what was made, the result's, and the maker's where there is one. -/
structure ClosAt (w : World) (D : Nat → Prop) (X Y : Ft) (f g : Fm) (c : Bool) (bm : Nat) (M : Ft) (W : World) : Prop where
  bx : Blk W w.heap.size (Ft.cells X).toArray 28
  bz : Blk W (w.heap.size + 1) (Ft.cells Y).toArray 28
  res : Blk W (w.heap.size + 1 + 1) #[.int .i64 0, .string ⟨#[]⟩, .int .i64 0, .int .i64 0, .int .i64 0, .int .i64 0, .slice none 0 0] 28
  mx : MadeIn D f (Ft.val X) W
  my : MadeIn D g (Ft.val Y) W
  mkr : c = true → Blk W bm (Ft.cells M).toArray 126
  quiet : Quiet w W
  big : w.heap.size + 3 ≤ W.heap.size

theorem ClosAt.keep {w : World} {D : Nat → Prop} {X Y : Ft} {f g : Fm} {c : Bool} {bm : Nat} {M : Ft} (W W' : World) (hq : Quiet W W') (h : ClosAt w D X Y f g c bm M W) : ClosAt w D X Y f g c bm M W' :=
  ⟨hq.blk h.bx (by simp), hq.blk h.bz (by simp), hq.blk h.res (by simp), h.mx.quiet hq, h.my.quiet hq, fun hc => hq.blk (h.mkr hc) (by simp), h.quiet.trans hq, Nat.le_trans h.big hq.size⟩

theorem clos_start {w : World} {D : Nat → Prop} {X Y : Ft} {f g : Fm} {c : Bool} {bm : Nat} {M : Ft} (hx : MadeIn D f (Ft.val X) w) (hy : MadeIn D g (Ft.val Y) w) (hm : c = true → Blk w bm (Ft.cells M).toArray 126) :
    ClosAt w (fun k => D k ∧ k ≠ w.heap.size + 1 + 1) X Y f g c bm M (((w.alloc (.cells #[.int .i64 X.top.n.op, .string X.top.n.nm, .int .i64 X.top.n.cmp, .int .i64 X.top.n.val, .int .i64 X.top.n.lo, .int .i64 X.top.n.hi, .slice X.top.a X.kids.length X.top.cap] 28)).alloc (.cells #[.int .i64 Y.top.n.op, .string Y.top.n.nm, .int .i64 Y.top.n.cmp, .int .i64 Y.top.n.val, .int .i64 Y.top.n.lo, .int .i64 Y.top.n.hi, .slice Y.top.a Y.kids.length Y.top.cap] 28)).alloc (.cells #[.int .i64 0, .string ⟨#[]⟩, .int .i64 0, .int .i64 0, .int .i64 0, .int .i64 0, .slice none 0 0] 28)) := by
  have hq : Quiet w (((w.alloc (.cells #[.int .i64 X.top.n.op, .string X.top.n.nm, .int .i64 X.top.n.cmp, .int .i64 X.top.n.val, .int .i64 X.top.n.lo, .int .i64 X.top.n.hi, .slice X.top.a X.kids.length X.top.cap] 28)).alloc (.cells #[.int .i64 Y.top.n.op, .string Y.top.n.nm, .int .i64 Y.top.n.cmp, .int .i64 Y.top.n.val, .int .i64 Y.top.n.lo, .int .i64 Y.top.n.hi, .slice Y.top.a Y.kids.length Y.top.cap] 28)).alloc (.cells #[.int .i64 0, .string ⟨#[]⟩, .int .i64 0, .int .i64 0, .int .i64 0, .int .i64 0, .slice none 0 0] 28)) := (((Alters.refl _).alloc _).alloc _).alloc _
  exact ⟨((Blk.new _ _ _).alloc _).alloc _, (alloc2 _ _ _ _).alloc _, alloc3 _ _ _ _ _, (hx.mono (fun k hk hd => ⟨hd, by omega⟩)).quiet hq, (hy.mono (fun k hk hd => ⟨hd, by omega⟩)).quiet hq, fun hc => hq.blk (hm hc) (by simp), hq, by simp⟩

theorem clos_ends {w W : World} {D D1 : Nat → Prop} {X Y : Ft} {f g : Fm} {c : Bool} {bm : Nat} {M t : Ft} {r : Fm} (hd : (fun k => D k ∧ k ≠ w.heap.size + 1 + 1) = D1) (hA : ClosAt w D1 X Y f g c bm M W) (hi : In D1 W t) (hp : Ft.pl t = r) :
    Gives D r w (.returned (Ft.val t)) (((((((W.setCell ⟨w.heap.size + 1 + 1, 0, none⟩ (.int .i64 t.top.n.op)).setCell ⟨w.heap.size + 1 + 1, 1, none⟩ (.string t.top.n.nm)).setCell ⟨w.heap.size + 1 + 1, 2, none⟩ (.int .i64 t.top.n.cmp)).setCell ⟨w.heap.size + 1 + 1, 3, none⟩ (.int .i64 t.top.n.val)).setCell ⟨w.heap.size + 1 + 1, 4, none⟩ (.int .i64 t.top.n.lo)).setCell ⟨w.heap.size + 1 + 1, 5, none⟩ (.int .i64 t.top.n.hi)).setCell ⟨w.heap.size + 1 + 1, 6, none⟩ (.slice t.top.a t.kids.length t.top.cap)) ∧ Blk (((((((W.setCell ⟨w.heap.size + 1 + 1, 0, none⟩ (.int .i64 t.top.n.op)).setCell ⟨w.heap.size + 1 + 1, 1, none⟩ (.string t.top.n.nm)).setCell ⟨w.heap.size + 1 + 1, 2, none⟩ (.int .i64 t.top.n.cmp)).setCell ⟨w.heap.size + 1 + 1, 3, none⟩ (.int .i64 t.top.n.val)).setCell ⟨w.heap.size + 1 + 1, 4, none⟩ (.int .i64 t.top.n.lo)).setCell ⟨w.heap.size + 1 + 1, 5, none⟩ (.int .i64 t.top.n.hi)).setCell ⟨w.heap.size + 1 + 1, 6, none⟩ (.slice t.top.a t.kids.length t.top.cap)) (w.heap.size + 1 + 1) #[.int .i64 t.top.n.op, .string t.top.n.nm, .int .i64 t.top.n.cmp, .int .i64 t.top.n.val, .int .i64 t.top.n.lo, .int .i64 t.top.n.hi, .slice t.top.a t.kids.length t.top.cap] 28 := by
  have hs7 := set7 W (w.heap.size + 1 + 1) (.int .i64 t.top.n.op) (.string t.top.n.nm) (.int .i64 t.top.n.cmp) (.int .i64 t.top.n.val) (.int .i64 t.top.n.lo) (.int .i64 t.top.n.hi) (.slice t.top.a t.kids.length t.top.cap)
  subst hd
  exact ⟨⟨_, rfl, ⟨t, rfl, hp, (hi.keep hs7 (fun k hk _ e => hk.2 e)).mono (fun k _ hk => hk.1)⟩, hA.quiet.then hs7 (fun i hi e => by omega)⟩, blk7 hA.res _ _ _ _ _ _ _⟩

theorem and8_v {D : Nat → Prop} {f g : Fm} {v u : Value} {w : World} (hD : ∀ k, w.heap.size ≤ k → D k) (h : MadeIn D f v w) (h2 : MadeIn D g u w) (hz : g.size ≤ 1000000) : Calls Tryd.prog 140 #[v, u] w (Gives D (nAnd f g) w) := by
  obtain ⟨t, rfl, rfl, h3⟩ := h
  obtain ⟨s, rfl, rfl, h5⟩ := h2
  exact (and8_walk _ t s w h3.cut h5.cut (by rw [← Tr.map_size Hd.n]; exact hz)).mono fun _ _ h => gives_of hD h

theorem iff8_v {D : Nat → Prop} {f g : Fm} {v u : Value} {w : World} (hD : ∀ k, w.heap.size ≤ k → D k) (h : MadeIn D f v w) (h2 : MadeIn D g u w) (h4 : Has4 f) (h4' : Has4 g) (hz : g.size ≤ 1000000) : Calls Tryd.prog 143 #[v, u] w (Gives D (nIff f g) w) := by
  obtain ⟨t, rfl, rfl, h3⟩ := h
  obtain ⟨s, rfl, rfl, h5⟩ := h2
  exact (iff8_walk _ t s w (fun k h => h.2) h3.cut h5.cut (has4_top h4) (has4_top h4') (by rw [← Tr.map_size Hd.n]; exact hz)).mono fun _ _ h => gives_of hD h

set_option maxRecDepth 100000 in
set_option maxHeartbeats 4000000 in
theorem clos1_v {D : Nat → Prop} {f g : Fm} {v u : Value} {w : World} (hD : ∀ k, w.heap.size ≤ k → D k) (hv : MadeIn D f v w) (hu : MadeIn D g u w) (h4 : Has4 f) : Calls Tryd.prog 138 #[v, u] w (Gives D (nNot f) w) := by
  obtain ⟨X, rfl, hpx, hix⟩ := hv
  obtain ⟨Y, rfl, hpy, hiy⟩ := hu
  have hA := clos_start (c := false) (bm := 0) (M := X) ⟨X, rfl, hpx, hix⟩ ⟨Y, rfl, hpy, hiy⟩ (by simp)
  have hD1 : ∀ W : World, w.heap.size + 3 ≤ W.heap.size → ∀ k, W.heap.size ≤ k → D k ∧ k ≠ w.heap.size + 1 + 1 := fun W hW k hk => ⟨hD k (by omega), by omega⟩
  generalize hDe : (fun k => D k ∧ k ≠ w.heap.size + 1 + 1) = D1 at *
  have HDE := Go.Lib.hid hDe
  have HD1 : Hid (∀ W : World, w.heap.size + 3 ≤ W.heap.size → ∀ k, W.heap.size ≤ k → D1 k) := fun W hW k hk => by rw [← hDe]; exact hD1 W hW k hk
  have HA := Go.Lib.hid hA
  clear hA hDe hD1 hD hpx hix hpy hiy
  unfold Ft.val
  go_enter Tryd.func138, Tryd.ntmps138
  go_upto_region 1 with (fail)
  generalize ((w.alloc _).alloc _).alloc _ = w1 at *
  have hS := HA.out
  obtain ⟨x0, x1, x2, x3, x4, x5, x6⟩ := seven_cells (show Blk w1 w.heap.size #[.int .i64 X.top.n.op, .string X.top.n.nm, .int .i64 X.top.n.cmp, .int .i64 X.top.n.val, .int .i64 X.top.n.lo, .int .i64 X.top.n.hi, .slice X.top.a X.kids.length X.top.cap] 28 from hS.bx)
  have fr := fun i => hS.res.free i
  obtain ⟨r0, r1, r2, r3, r4, r5, r6⟩ := seven_cells hS.res
  clear hS
  have HC := Go.Lib.hid (not8_v (HD1.out w1 HA.out.big) HA.out.mx h4)
  unfold Ft.val at HC
  go_wp2_with fail
  refine HC.out.mono ?_
  rintro e W ⟨v, rfl, ⟨t9, rfl, hp9, hi9⟩, hq9⟩
  have hS := HA.out.keep _ _ hq9
  clear r0 r1 r2 r3 r4 r5 r6 fr HC
  unfold Ft.val
  have fr := fun i => hS.res.free i
  obtain ⟨hg, hb⟩ := clos_ends HDE.out hS hi9 hp9
  have HG := Go.Lib.hid hg
  clear hg hp9 hi9 hq9
  obtain ⟨r0, r1, r2, r3, r4, r5, r6⟩ := seven_cells hS.res
  have HSS := Go.Lib.hid hS
  clear hS
  go_wp2
  clear r0 r1 r2 r3 r4 r5 r6
  obtain ⟨r0, r1, r2, r3, r4, r5, r6⟩ := seven_cells hb
  exact bodyPost_ret (v := Ft.val t9) (by simp [results, Tryd.results138, go_sem, Ft.val, r0, r1, r2, r3, r4, r5, r6]) rfl HG.out
set_option maxRecDepth 100000 in
set_option maxHeartbeats 4000000 in
theorem clos2_v {D : Nat → Prop} {f g : Fm} {v u : Value} {w : World} (hD : ∀ k, w.heap.size ≤ k → D k) (hv : MadeIn D f v w) (hu : MadeIn D g u w) (h4 : Has4 f) (h5 : Has4 g) (hz : g.size ≤ 100000) : Calls Tryd.prog 141 #[v, u] w (Gives D (nNot (nAnd (nNot f) (nNot g))) w) := by
  obtain ⟨X, rfl, hpx, hix⟩ := hv
  obtain ⟨Y, rfl, hpy, hiy⟩ := hu
  have hA := clos_start (c := false) (bm := 0) (M := X) ⟨X, rfl, hpx, hix⟩ ⟨Y, rfl, hpy, hiy⟩ (by simp)
  have hD1 : ∀ W : World, w.heap.size + 3 ≤ W.heap.size → ∀ k, W.heap.size ≤ k → D k ∧ k ≠ w.heap.size + 1 + 1 := fun W hW k hk => ⟨hD k (by omega), by omega⟩
  generalize hDe : (fun k => D k ∧ k ≠ w.heap.size + 1 + 1) = D1 at *
  have HDE := Go.Lib.hid hDe
  have HD1 : Hid (∀ W : World, w.heap.size + 3 ≤ W.heap.size → ∀ k, W.heap.size ≤ k → D1 k) := fun W hW k hk => by rw [← hDe]; exact hD1 W hW k hk
  have HA := Go.Lib.hid hA
  clear hA hDe hD1 hD hpx hix hpy hiy
  unfold Ft.val
  go_enter Tryd.func141, Tryd.ntmps141
  go_upto_region 1 with (fail)
  generalize ((w.alloc _).alloc _).alloc _ = w1 at *
  refine wp_region_wants (by kernel_rfl) (by kernel_rfl) (by kernel_rfl) (by kernel_rfl) (ClosAt w D1 X Y f g false 0 X) (fun _ _ hq h => h.keep _ _ hq) [Want.fm D1 (f), Want.fm D1 (nNot (f)), Want.fm D1 (g), Want.fm D1 (nNot (g)), Want.fm D1 (nAnd (nNot f) (nNot g)), Want.fm D1 (nNot (nAnd (nNot f) (nNot g)))] (HA.out.keep _ _ ((Alters.refl _).drew)) (by decide) ?_
  refine Steps.cons ?_ (Steps.cons ?_ (Steps.cons ?_ (Steps.cons ?_ (Steps.cons ?_ (Steps.cons ?_ (Steps.last ?_))))))
  · intro u W K hS hF hK
    simp only [putsFrom, Act.put, Nat.reduceAdd, List.setIfInBounds_toArray, List.set_cons_zero, List.set_cons_succ] at hK ⊢
    clear hF
    obtain ⟨x0, x1, x2, x3, x4, x5, x6⟩ := seven_cells (show Blk W w.heap.size #[.int .i64 X.top.n.op, .string X.top.n.nm, .int .i64 X.top.n.cmp, .int .i64 X.top.n.val, .int .i64 X.top.n.lo, .int .i64 X.top.n.hi, .slice X.top.a X.kids.length X.top.cap] 28 from hS.bx)
    go_simp
    exact hK.out _ _ (Alters.refl _) hS.mx
  · intro u W K hS hF hK
    have f0 : MadeIn D1 (f) (u 0) W := hF 0 (by kernel_rfl)
    simp only [putsFrom, Act.put, Nat.reduceAdd, List.setIfInBounds_toArray, List.set_cons_zero, List.set_cons_succ] at hK ⊢
    clear hF
    go_simp
    refine (not8_v (HD1.out W hS.big) f0 (h4)).mono ?_
    rintro e W2 ⟨v, rfl, hm, hq⟩
    exact hK.out _ _ hq hm
  · intro u W K hS hF hK
    simp only [putsFrom, Act.put, Nat.reduceAdd, List.setIfInBounds_toArray, List.set_cons_zero, List.set_cons_succ] at hK ⊢
    clear hF
    obtain ⟨x0, x1, x2, x3, x4, x5, x6⟩ := seven_cells (show Blk W (w.heap.size + 1) #[.int .i64 Y.top.n.op, .string Y.top.n.nm, .int .i64 Y.top.n.cmp, .int .i64 Y.top.n.val, .int .i64 Y.top.n.lo, .int .i64 Y.top.n.hi, .slice Y.top.a Y.kids.length Y.top.cap] 28 from hS.bz)
    go_simp
    exact hK.out _ _ (Alters.refl _) hS.my
  · intro u W K hS hF hK
    have f2 : MadeIn D1 (g) (u 2) W := hF 2 (by kernel_rfl)
    simp only [putsFrom, Act.put, Nat.reduceAdd, List.setIfInBounds_toArray, List.set_cons_zero, List.set_cons_succ] at hK ⊢
    clear hF
    go_simp
    refine (not8_v (HD1.out W hS.big) f2 (h5)).mono ?_
    rintro e W2 ⟨v, rfl, hm, hq⟩
    exact hK.out _ _ hq hm
  · intro u W K hS hF hK
    have f1 : MadeIn D1 (nNot f) (u 1) W := hF 1 (by kernel_rfl)
    have f3 : MadeIn D1 (nNot g) (u 3) W := hF 3 (by kernel_rfl)
    simp only [putsFrom, Act.put, Nat.reduceAdd, List.setIfInBounds_toArray, List.set_cons_zero, List.set_cons_succ] at hK ⊢
    clear hF
    go_simp
    refine (and8_v (HD1.out W hS.big) f1 f3 (by have := nNot_size g; omega)).mono ?_
    rintro e W2 ⟨v, rfl, hm, hq⟩
    exact hK.out _ _ hq hm
  · intro u W K hS hF hK
    have f4 : MadeIn D1 (nAnd (nNot f) (nNot g)) (u 4) W := hF 4 (by kernel_rfl)
    simp only [putsFrom, Act.put, Nat.reduceAdd, List.setIfInBounds_toArray, List.set_cons_zero, List.set_cons_succ] at hK ⊢
    clear hF
    go_simp
    refine (not8_v (HD1.out W hS.big) f4 (h4.not.and h5.not)).mono ?_
    rintro e W2 ⟨v, rfl, hm, hq⟩
    exact hK.out _ _ hq hm
  · intro u W hS hF
    have f5 : MadeIn D1 (nNot (nAnd (nNot f) (nNot g))) (u 5) W := hF 5 (by simp)
    simp only [putsFrom, Act.put, Nat.reduceAdd, List.setIfInBounds_toArray, List.set_cons_zero, List.set_cons_succ]
    clear hF
    obtain ⟨t9, e9, hp9, hi9⟩ := f5
    simp only [e9]
    unfold Ft.val
    have fr := fun i => hS.res.free i
    obtain ⟨hg, hb⟩ := clos_ends HDE.out hS hi9 hp9
    have HG := Go.Lib.hid hg
    clear hg hp9 hi9 e9
    obtain ⟨r0, r1, r2, r3, r4, r5, r6⟩ := seven_cells hS.res
    have HSS := Go.Lib.hid hS
    clear hS
    go_simp
    go_wp2
    clear r0 r1 r2 r3 r4 r5 r6
    obtain ⟨r0, r1, r2, r3, r4, r5, r6⟩ := seven_cells hb
    exact bodyPost_ret (v := Ft.val t9) (by simp [results, Tryd.results141, go_sem, Ft.val, r0, r1, r2, r3, r4, r5, r6]) rfl HG.out
set_option maxRecDepth 100000 in
set_option maxHeartbeats 4000000 in
theorem clos3_v {D : Nat → Prop} {f g : Fm} {v u : Value} {w : World} (hD : ∀ k, w.heap.size ≤ k → D k) (hv : MadeIn D f v w) (hu : MadeIn D g u w) (h4 : Has4 f) (h5 : Has4 g) (hz : g.size ≤ 100000) : Calls Tryd.prog 142 #[v, u] w (Gives D (nNot (nAnd f (nNot g))) w) := by
  obtain ⟨X, rfl, hpx, hix⟩ := hv
  obtain ⟨Y, rfl, hpy, hiy⟩ := hu
  have hA := clos_start (c := false) (bm := 0) (M := X) ⟨X, rfl, hpx, hix⟩ ⟨Y, rfl, hpy, hiy⟩ (by simp)
  have hD1 : ∀ W : World, w.heap.size + 3 ≤ W.heap.size → ∀ k, W.heap.size ≤ k → D k ∧ k ≠ w.heap.size + 1 + 1 := fun W hW k hk => ⟨hD k (by omega), by omega⟩
  generalize hDe : (fun k => D k ∧ k ≠ w.heap.size + 1 + 1) = D1 at *
  have HDE := Go.Lib.hid hDe
  have HD1 : Hid (∀ W : World, w.heap.size + 3 ≤ W.heap.size → ∀ k, W.heap.size ≤ k → D1 k) := fun W hW k hk => by rw [← hDe]; exact hD1 W hW k hk
  have HA := Go.Lib.hid hA
  clear hA hDe hD1 hD hpx hix hpy hiy
  unfold Ft.val
  go_enter Tryd.func142, Tryd.ntmps142
  go_upto_region 1 with (fail)
  generalize ((w.alloc _).alloc _).alloc _ = w1 at *
  refine wp_region_wants (by kernel_rfl) (by kernel_rfl) (by kernel_rfl) (by kernel_rfl) (ClosAt w D1 X Y f g false 0 X) (fun _ _ hq h => h.keep _ _ hq) [Want.fm D1 (f), Want.fm D1 (g), Want.fm D1 (nNot (g)), Want.fm D1 (nAnd (f) (nNot g)), Want.fm D1 (nNot (nAnd f (nNot g)))] (HA.out.keep _ _ ((Alters.refl _).drew)) (by decide) ?_
  refine Steps.cons ?_ (Steps.cons ?_ (Steps.cons ?_ (Steps.cons ?_ (Steps.cons ?_ (Steps.last ?_)))))
  · intro u W K hS hF hK
    simp only [putsFrom, Act.put, Nat.reduceAdd, List.setIfInBounds_toArray, List.set_cons_zero, List.set_cons_succ] at hK ⊢
    clear hF
    obtain ⟨x0, x1, x2, x3, x4, x5, x6⟩ := seven_cells (show Blk W w.heap.size #[.int .i64 X.top.n.op, .string X.top.n.nm, .int .i64 X.top.n.cmp, .int .i64 X.top.n.val, .int .i64 X.top.n.lo, .int .i64 X.top.n.hi, .slice X.top.a X.kids.length X.top.cap] 28 from hS.bx)
    go_simp
    exact hK.out _ _ (Alters.refl _) hS.mx
  · intro u W K hS hF hK
    simp only [putsFrom, Act.put, Nat.reduceAdd, List.setIfInBounds_toArray, List.set_cons_zero, List.set_cons_succ] at hK ⊢
    clear hF
    obtain ⟨x0, x1, x2, x3, x4, x5, x6⟩ := seven_cells (show Blk W (w.heap.size + 1) #[.int .i64 Y.top.n.op, .string Y.top.n.nm, .int .i64 Y.top.n.cmp, .int .i64 Y.top.n.val, .int .i64 Y.top.n.lo, .int .i64 Y.top.n.hi, .slice Y.top.a Y.kids.length Y.top.cap] 28 from hS.bz)
    go_simp
    exact hK.out _ _ (Alters.refl _) hS.my
  · intro u W K hS hF hK
    have f1 : MadeIn D1 (g) (u 1) W := hF 1 (by kernel_rfl)
    simp only [putsFrom, Act.put, Nat.reduceAdd, List.setIfInBounds_toArray, List.set_cons_zero, List.set_cons_succ] at hK ⊢
    clear hF
    go_simp
    refine (not8_v (HD1.out W hS.big) f1 (h5)).mono ?_
    rintro e W2 ⟨v, rfl, hm, hq⟩
    exact hK.out _ _ hq hm
  · intro u W K hS hF hK
    have f0 : MadeIn D1 (f) (u 0) W := hF 0 (by kernel_rfl)
    have f2 : MadeIn D1 (nNot g) (u 2) W := hF 2 (by kernel_rfl)
    simp only [putsFrom, Act.put, Nat.reduceAdd, List.setIfInBounds_toArray, List.set_cons_zero, List.set_cons_succ] at hK ⊢
    clear hF
    go_simp
    refine (and8_v (HD1.out W hS.big) f0 f2 (by have := nNot_size g; omega)).mono ?_
    rintro e W2 ⟨v, rfl, hm, hq⟩
    exact hK.out _ _ hq hm
  · intro u W K hS hF hK
    have f3 : MadeIn D1 (nAnd f (nNot g)) (u 3) W := hF 3 (by kernel_rfl)
    simp only [putsFrom, Act.put, Nat.reduceAdd, List.setIfInBounds_toArray, List.set_cons_zero, List.set_cons_succ] at hK ⊢
    clear hF
    go_simp
    refine (not8_v (HD1.out W hS.big) f3 (h4.and h5.not)).mono ?_
    rintro e W2 ⟨v, rfl, hm, hq⟩
    exact hK.out _ _ hq hm
  · intro u W hS hF
    have f4 : MadeIn D1 (nNot (nAnd f (nNot g))) (u 4) W := hF 4 (by simp)
    simp only [putsFrom, Act.put, Nat.reduceAdd, List.setIfInBounds_toArray, List.set_cons_zero, List.set_cons_succ]
    clear hF
    obtain ⟨t9, e9, hp9, hi9⟩ := f4
    simp only [e9]
    unfold Ft.val
    have fr := fun i => hS.res.free i
    obtain ⟨hg, hb⟩ := clos_ends HDE.out hS hi9 hp9
    have HG := Go.Lib.hid hg
    clear hg hp9 hi9 e9
    obtain ⟨r0, r1, r2, r3, r4, r5, r6⟩ := seven_cells hS.res
    have HSS := Go.Lib.hid hS
    clear hS
    go_simp
    go_wp2
    clear r0 r1 r2 r3 r4 r5 r6
    obtain ⟨r0, r1, r2, r3, r4, r5, r6⟩ := seven_cells hb
    exact bodyPost_ret (v := Ft.val t9) (by simp [results, Tryd.results142, go_sem, Ft.val, r0, r1, r2, r3, r4, r5, r6]) rfl HG.out
set_option maxRecDepth 100000 in
set_option maxHeartbeats 4000000 in
theorem clos4_v {D : Nat → Prop} {f g : Fm} {v u : Value} {w : World} (hD : ∀ k, w.heap.size ≤ k → D k) (hv : MadeIn D f v w) (hu : MadeIn D g u w) (bm : Nat) (M : Ft) (hm : Blk w bm (Ft.cells M).toArray 126) : Calls Tryd.prog 144 #[v, u, .pointer (some ⟨bm, 0, none⟩)] w (Gives D (nEv M.top.n.lo M.top.n.hi f) w) := by
  obtain ⟨X, rfl, hpx, hix⟩ := hv
  obtain ⟨Y, rfl, hpy, hiy⟩ := hu
  have hA := clos_start (c := true) (bm := bm) (M := M) ⟨X, rfl, hpx, hix⟩ ⟨Y, rfl, hpy, hiy⟩ (fun _ => hm)
  have hD1 : ∀ W : World, w.heap.size + 3 ≤ W.heap.size → ∀ k, W.heap.size ≤ k → D k ∧ k ≠ w.heap.size + 1 + 1 := fun W hW k hk => ⟨hD k (by omega), by omega⟩
  generalize hDe : (fun k => D k ∧ k ≠ w.heap.size + 1 + 1) = D1 at *
  have HDE := Go.Lib.hid hDe
  have HD1 : Hid (∀ W : World, w.heap.size + 3 ≤ W.heap.size → ∀ k, W.heap.size ≤ k → D1 k) := fun W hW k hk => by rw [← hDe]; exact hD1 W hW k hk
  have HA := Go.Lib.hid hA
  clear hA hDe hD1 hD hpx hix hpy hiy hm
  unfold Ft.val
  go_enter Tryd.func144, Tryd.ntmps144
  go_upto_region 1 with (fail)
  generalize ((w.alloc _).alloc _).alloc _ = w1 at *
  have hS := HA.out
  obtain ⟨x0, x1, x2, x3, x4, x5, x6⟩ := seven_cells (show Blk w1 w.heap.size #[.int .i64 X.top.n.op, .string X.top.n.nm, .int .i64 X.top.n.cmp, .int .i64 X.top.n.val, .int .i64 X.top.n.lo, .int .i64 X.top.n.hi, .slice X.top.a X.kids.length X.top.cap] 28 from hS.bx)
  obtain ⟨m0, m1, m2, m3, m4, m5, m6⟩ := seven_cells (show Blk w1 bm #[.int .i64 M.top.n.op, .string M.top.n.nm, .int .i64 M.top.n.cmp, .int .i64 M.top.n.val, .int .i64 M.top.n.lo, .int .i64 M.top.n.hi, .slice M.top.a M.kids.length M.top.cap] 126 from hS.mkr rfl)
  have fr := fun i => hS.res.free i
  obtain ⟨r0, r1, r2, r3, r4, r5, r6⟩ := seven_cells hS.res
  clear hS
  have HC := Go.Lib.hid (ev8_v (m := M) (HD1.out w1 HA.out.big) HA.out.mx)
  unfold Ft.val at HC
  go_wp2_with fail
  refine HC.out.mono ?_
  rintro e W ⟨v, rfl, ⟨t9, rfl, hp9, hi9⟩, hq9⟩
  have hS := HA.out.keep _ _ hq9
  clear r0 r1 r2 r3 r4 r5 r6 fr HC
  unfold Ft.val
  have fr := fun i => hS.res.free i
  obtain ⟨hg, hb⟩ := clos_ends HDE.out hS hi9 hp9
  have HG := Go.Lib.hid hg
  clear hg hp9 hi9 hq9
  obtain ⟨r0, r1, r2, r3, r4, r5, r6⟩ := seven_cells hS.res
  have HSS := Go.Lib.hid hS
  clear hS
  go_wp2
  clear r0 r1 r2 r3 r4 r5 r6
  obtain ⟨r0, r1, r2, r3, r4, r5, r6⟩ := seven_cells hb
  exact bodyPost_ret (v := Ft.val t9) (by simp [results, Tryd.results144, go_sem, Ft.val, r0, r1, r2, r3, r4, r5, r6]) rfl HG.out
set_option maxRecDepth 100000 in
set_option maxHeartbeats 4000000 in
theorem clos5_v {D : Nat → Prop} {f g : Fm} {v u : Value} {w : World} (hD : ∀ k, w.heap.size ≤ k → D k) (hv : MadeIn D f v w) (hu : MadeIn D g u w) (bm : Nat) (M : Ft) (hm : Blk w bm (Ft.cells M).toArray 126) (h4 : Has4 f) : Calls Tryd.prog 146 #[v, u, .pointer (some ⟨bm, 0, none⟩)] w (Gives D (nNot (nEv M.top.n.lo M.top.n.hi (nNot f))) w) := by
  obtain ⟨X, rfl, hpx, hix⟩ := hv
  obtain ⟨Y, rfl, hpy, hiy⟩ := hu
  have hA := clos_start (c := true) (bm := bm) (M := M) ⟨X, rfl, hpx, hix⟩ ⟨Y, rfl, hpy, hiy⟩ (fun _ => hm)
  have hD1 : ∀ W : World, w.heap.size + 3 ≤ W.heap.size → ∀ k, W.heap.size ≤ k → D k ∧ k ≠ w.heap.size + 1 + 1 := fun W hW k hk => ⟨hD k (by omega), by omega⟩
  generalize hDe : (fun k => D k ∧ k ≠ w.heap.size + 1 + 1) = D1 at *
  have HDE := Go.Lib.hid hDe
  have HD1 : Hid (∀ W : World, w.heap.size + 3 ≤ W.heap.size → ∀ k, W.heap.size ≤ k → D1 k) := fun W hW k hk => by rw [← hDe]; exact hD1 W hW k hk
  have HA := Go.Lib.hid hA
  clear hA hDe hD1 hD hpx hix hpy hiy hm
  unfold Ft.val
  go_enter Tryd.func146, Tryd.ntmps146
  go_upto_region 1 with (fail)
  generalize ((w.alloc _).alloc _).alloc _ = w1 at *
  refine wp_region_wants (by kernel_rfl) (by kernel_rfl) (by kernel_rfl) (by kernel_rfl) (ClosAt w D1 X Y f g true bm M) (fun _ _ hq h => h.keep _ _ hq) [Want.is (Ft.val M), Want.fm D1 (f), Want.fm D1 (nNot (f)), Want.fm D1 (nEv M.top.n.lo M.top.n.hi (nNot f)), Want.fm D1 (nNot (nEv M.top.n.lo M.top.n.hi (nNot f)))] (HA.out.keep _ _ ((Alters.refl _).drew)) (by decide) ?_
  refine Steps.cons ?_ (Steps.cons ?_ (Steps.cons ?_ (Steps.cons ?_ (Steps.cons ?_ (Steps.last ?_)))))
  · intro u W K hS hF hK
    simp only [putsFrom, Act.put, Nat.reduceAdd, List.setIfInBounds_toArray, List.set_cons_zero, List.set_cons_succ] at hK ⊢
    clear hF
    obtain ⟨x0, x1, x2, x3, x4, x5, x6⟩ := seven_cells (show Blk W bm #[.int .i64 M.top.n.op, .string M.top.n.nm, .int .i64 M.top.n.cmp, .int .i64 M.top.n.val, .int .i64 M.top.n.lo, .int .i64 M.top.n.hi, .slice M.top.a M.kids.length M.top.cap] 126 from hS.mkr rfl)
    go_simp
    exact hK.out _ _ (Alters.refl _) rfl
  · intro u W K hS hF hK
    simp only [putsFrom, Act.put, Nat.reduceAdd, List.setIfInBounds_toArray, List.set_cons_zero, List.set_cons_succ] at hK ⊢
    clear hF
    obtain ⟨x0, x1, x2, x3, x4, x5, x6⟩ := seven_cells (show Blk W w.heap.size #[.int .i64 X.top.n.op, .string X.top.n.nm, .int .i64 X.top.n.cmp, .int .i64 X.top.n.val, .int .i64 X.top.n.lo, .int .i64 X.top.n.hi, .slice X.top.a X.kids.length X.top.cap] 28 from hS.bx)
    go_simp
    exact hK.out _ _ (Alters.refl _) hS.mx
  · intro u W K hS hF hK
    have f1 : MadeIn D1 (f) (u 1) W := hF 1 (by kernel_rfl)
    simp only [putsFrom, Act.put, Nat.reduceAdd, List.setIfInBounds_toArray, List.set_cons_zero, List.set_cons_succ] at hK ⊢
    clear hF
    go_simp
    refine (not8_v (HD1.out W hS.big) f1 (h4)).mono ?_
    rintro e W2 ⟨v, rfl, hm, hq⟩
    exact hK.out _ _ hq hm
  · intro u W K hS hF hK
    have f0 : u 0 = Ft.val M := hF 0 (by kernel_rfl)
    have f2 : MadeIn D1 (nNot f) (u 2) W := hF 2 (by kernel_rfl)
    simp only [putsFrom, Act.put, Nat.reduceAdd, List.setIfInBounds_toArray, List.set_cons_zero, List.set_cons_succ, f0] at hK ⊢
    clear hF
    go_simp
    refine (ev8_v (m := M) (HD1.out W hS.big) f2).mono ?_
    rintro e W2 ⟨v, rfl, hm, hq⟩
    exact hK.out _ _ hq hm
  · intro u W K hS hF hK
    have f3 : MadeIn D1 (nEv M.top.n.lo M.top.n.hi (nNot f)) (u 3) W := hF 3 (by kernel_rfl)
    simp only [putsFrom, Act.put, Nat.reduceAdd, List.setIfInBounds_toArray, List.set_cons_zero, List.set_cons_succ] at hK ⊢
    clear hF
    go_simp
    refine (not8_v (HD1.out W hS.big) f3 (h4.not.ev)).mono ?_
    rintro e W2 ⟨v, rfl, hm, hq⟩
    exact hK.out _ _ hq hm
  · intro u W hS hF
    have f4 : MadeIn D1 (nNot (nEv M.top.n.lo M.top.n.hi (nNot f))) (u 4) W := hF 4 (by simp)
    simp only [putsFrom, Act.put, Nat.reduceAdd, List.setIfInBounds_toArray, List.set_cons_zero, List.set_cons_succ]
    clear hF
    obtain ⟨t9, e9, hp9, hi9⟩ := f4
    simp only [e9]
    unfold Ft.val
    have fr := fun i => hS.res.free i
    obtain ⟨hg, hb⟩ := clos_ends HDE.out hS hi9 hp9
    have HG := Go.Lib.hid hg
    clear hg hp9 hi9 e9
    obtain ⟨r0, r1, r2, r3, r4, r5, r6⟩ := seven_cells hS.res
    have HSS := Go.Lib.hid hS
    clear hS
    go_simp
    go_wp2
    clear r0 r1 r2 r3 r4 r5 r6
    obtain ⟨r0, r1, r2, r3, r4, r5, r6⟩ := seven_cells hb
    exact bodyPost_ret (v := Ft.val t9) (by simp [results, Tryd.results146, go_sem, Ft.val, r0, r1, r2, r3, r4, r5, r6]) rfl HG.out
set_option maxRecDepth 100000 in
set_option maxHeartbeats 4000000 in
theorem clos6_v {D : Nat → Prop} {f g : Fm} {v u : Value} {w : World} (hD : ∀ k, w.heap.size ≤ k → D k) (hv : MadeIn D f v w) (hu : MadeIn D g u w) (bm : Nat) (M : Ft) (hm : Blk w bm (Ft.cells M).toArray 126) (h4 : Has4 f) (h5 : Has4 g) : Calls Tryd.prog 148 #[v, u, .pointer (some ⟨bm, 0, none⟩)] w (Gives D (nNot (nUn M.top.n.lo M.top.n.hi (nNot f) (nNot g))) w) := by
  obtain ⟨X, rfl, hpx, hix⟩ := hv
  obtain ⟨Y, rfl, hpy, hiy⟩ := hu
  have hA := clos_start (c := true) (bm := bm) (M := M) ⟨X, rfl, hpx, hix⟩ ⟨Y, rfl, hpy, hiy⟩ (fun _ => hm)
  have hD1 : ∀ W : World, w.heap.size + 3 ≤ W.heap.size → ∀ k, W.heap.size ≤ k → D k ∧ k ≠ w.heap.size + 1 + 1 := fun W hW k hk => ⟨hD k (by omega), by omega⟩
  generalize hDe : (fun k => D k ∧ k ≠ w.heap.size + 1 + 1) = D1 at *
  have HDE := Go.Lib.hid hDe
  have HD1 : Hid (∀ W : World, w.heap.size + 3 ≤ W.heap.size → ∀ k, W.heap.size ≤ k → D1 k) := fun W hW k hk => by rw [← hDe]; exact hD1 W hW k hk
  have HA := Go.Lib.hid hA
  clear hA hDe hD1 hD hpx hix hpy hiy hm
  unfold Ft.val
  go_enter Tryd.func148, Tryd.ntmps148
  go_upto_region 1 with (fail)
  generalize ((w.alloc _).alloc _).alloc _ = w1 at *
  refine wp_region_wants (by kernel_rfl) (by kernel_rfl) (by kernel_rfl) (by kernel_rfl) (ClosAt w D1 X Y f g true bm M) (fun _ _ hq h => h.keep _ _ hq) [Want.is (Ft.val M), Want.fm D1 (f), Want.fm D1 (nNot (f)), Want.fm D1 (g), Want.fm D1 (nNot (g)), Want.fm D1 (nUn M.top.n.lo M.top.n.hi (nNot f) (nNot g)), Want.fm D1 (nNot (nUn M.top.n.lo M.top.n.hi (nNot f) (nNot g)))] (HA.out.keep _ _ ((Alters.refl _).drew)) (by decide) ?_
  refine Steps.cons ?_ (Steps.cons ?_ (Steps.cons ?_ (Steps.cons ?_ (Steps.cons ?_ (Steps.cons ?_ (Steps.cons ?_ (Steps.last ?_)))))))
  · intro u W K hS hF hK
    simp only [putsFrom, Act.put, Nat.reduceAdd, List.setIfInBounds_toArray, List.set_cons_zero, List.set_cons_succ] at hK ⊢
    clear hF
    obtain ⟨x0, x1, x2, x3, x4, x5, x6⟩ := seven_cells (show Blk W bm #[.int .i64 M.top.n.op, .string M.top.n.nm, .int .i64 M.top.n.cmp, .int .i64 M.top.n.val, .int .i64 M.top.n.lo, .int .i64 M.top.n.hi, .slice M.top.a M.kids.length M.top.cap] 126 from hS.mkr rfl)
    go_simp
    exact hK.out _ _ (Alters.refl _) rfl
  · intro u W K hS hF hK
    simp only [putsFrom, Act.put, Nat.reduceAdd, List.setIfInBounds_toArray, List.set_cons_zero, List.set_cons_succ] at hK ⊢
    clear hF
    obtain ⟨x0, x1, x2, x3, x4, x5, x6⟩ := seven_cells (show Blk W w.heap.size #[.int .i64 X.top.n.op, .string X.top.n.nm, .int .i64 X.top.n.cmp, .int .i64 X.top.n.val, .int .i64 X.top.n.lo, .int .i64 X.top.n.hi, .slice X.top.a X.kids.length X.top.cap] 28 from hS.bx)
    go_simp
    exact hK.out _ _ (Alters.refl _) hS.mx
  · intro u W K hS hF hK
    have f1 : MadeIn D1 (f) (u 1) W := hF 1 (by kernel_rfl)
    simp only [putsFrom, Act.put, Nat.reduceAdd, List.setIfInBounds_toArray, List.set_cons_zero, List.set_cons_succ] at hK ⊢
    clear hF
    go_simp
    refine (not8_v (HD1.out W hS.big) f1 (h4)).mono ?_
    rintro e W2 ⟨v, rfl, hm, hq⟩
    exact hK.out _ _ hq hm
  · intro u W K hS hF hK
    simp only [putsFrom, Act.put, Nat.reduceAdd, List.setIfInBounds_toArray, List.set_cons_zero, List.set_cons_succ] at hK ⊢
    clear hF
    obtain ⟨x0, x1, x2, x3, x4, x5, x6⟩ := seven_cells (show Blk W (w.heap.size + 1) #[.int .i64 Y.top.n.op, .string Y.top.n.nm, .int .i64 Y.top.n.cmp, .int .i64 Y.top.n.val, .int .i64 Y.top.n.lo, .int .i64 Y.top.n.hi, .slice Y.top.a Y.kids.length Y.top.cap] 28 from hS.bz)
    go_simp
    exact hK.out _ _ (Alters.refl _) hS.my
  · intro u W K hS hF hK
    have f3 : MadeIn D1 (g) (u 3) W := hF 3 (by kernel_rfl)
    simp only [putsFrom, Act.put, Nat.reduceAdd, List.setIfInBounds_toArray, List.set_cons_zero, List.set_cons_succ] at hK ⊢
    clear hF
    go_simp
    refine (not8_v (HD1.out W hS.big) f3 (h5)).mono ?_
    rintro e W2 ⟨v, rfl, hm, hq⟩
    exact hK.out _ _ hq hm
  · intro u W K hS hF hK
    have f0 : u 0 = Ft.val M := hF 0 (by kernel_rfl)
    have f2 : MadeIn D1 (nNot f) (u 2) W := hF 2 (by kernel_rfl)
    have f4 : MadeIn D1 (nNot g) (u 4) W := hF 4 (by kernel_rfl)
    simp only [putsFrom, Act.put, Nat.reduceAdd, List.setIfInBounds_toArray, List.set_cons_zero, List.set_cons_succ, f0] at hK ⊢
    clear hF
    go_simp
    refine (un8_v (m := M) (HD1.out W hS.big) f2 f4).mono ?_
    rintro e W2 ⟨v, rfl, hm, hq⟩
    exact hK.out _ _ hq hm
  · intro u W K hS hF hK
    have f5 : MadeIn D1 (nUn M.top.n.lo M.top.n.hi (nNot f) (nNot g)) (u 5) W := hF 5 (by kernel_rfl)
    simp only [putsFrom, Act.put, Nat.reduceAdd, List.setIfInBounds_toArray, List.set_cons_zero, List.set_cons_succ] at hK ⊢
    clear hF
    go_simp
    refine (not8_v (HD1.out W hS.big) f5 (h4.not.un h5.not)).mono ?_
    rintro e W2 ⟨v, rfl, hm, hq⟩
    exact hK.out _ _ hq hm
  · intro u W hS hF
    have f6 : MadeIn D1 (nNot (nUn M.top.n.lo M.top.n.hi (nNot f) (nNot g))) (u 6) W := hF 6 (by simp)
    simp only [putsFrom, Act.put, Nat.reduceAdd, List.setIfInBounds_toArray, List.set_cons_zero, List.set_cons_succ]
    clear hF
    obtain ⟨t9, e9, hp9, hi9⟩ := f6
    simp only [e9]
    unfold Ft.val
    have fr := fun i => hS.res.free i
    obtain ⟨hg, hb⟩ := clos_ends HDE.out hS hi9 hp9
    have HG := Go.Lib.hid hg
    clear hg hp9 hi9 e9
    obtain ⟨r0, r1, r2, r3, r4, r5, r6⟩ := seven_cells hS.res
    have HSS := Go.Lib.hid hS
    clear hS
    go_simp
    go_wp2
    clear r0 r1 r2 r3 r4 r5 r6
    obtain ⟨r0, r1, r2, r3, r4, r5, r6⟩ := seven_cells hb
    exact bodyPost_ret (v := Ft.val t9) (by simp [results, Tryd.results148, go_sem, Ft.val, r0, r1, r2, r3, r4, r5, r6]) rfl HG.out
end Go.Proofs.YtnpcakakjhiboaaDoor
