/- norm.Core: whether a formula is so already. No condition. -/
import Derived.Test.YtnpcakakjhiboaaDoorNormOf
import Derived.Test.YtnpcakakjhiboaaDoorSame9
import Derived.Test.YtnpcakakjhiboaaDoorEach
namespace Go.Proofs.YtnpcakakjhiboaaDoor
open Go.RowKit Go.Lo Go.WideShapes

structure CoreAt (D : Nat → Prop) (w : World) (t : Ft) (W : World) : Prop where
  box : Blk W w.heap.size (Ft.cells t).toArray 28
  inn : In D W t
  shapes : Shapes W
  quiet : Quiet w W

theorem CoreAt.keep {D : Nat → Prop} {w : World} {t : Ft} {W W' : World} (h : CoreAt D w t W) (hq : Quiet W W') : CoreAt D w t W' :=
  ⟨hq.blk h.box (by simp), h.inn.quiet hq, h.shapes.keep hq (by simp), h.quiet.trans hq⟩

set_option maxRecDepth 100000 in
set_option maxHeartbeats 4000000 in
theorem core_walk (D : Nat → Prop) (t : Ft) (w : World) (hin : In D w t) (hS : Shapes w) (hsz : t.size ≤ 10000) : Calls Tryd.prog 29 #[t.val] w (Said (.bool (core (Ft.pl t))) w) := by
  have HI := Go.Lib.hid hin
  have HSH := Go.Lib.hid hS
  have HSZ := Go.Lib.hid hsz
  clear hin hS hsz
  have HS31 : Hid (∀ W, CoreAt D w t W → Calls Tryd.prog 31 #[Ft.val t] W (Said (.bool (decide (first (Ft.pl t) = 0))) W)) := fun W h => sound_walk D t W h.inn h.shapes (by have := HSZ.out; omega)
  unfold Ft.val
  go_enter Tryd.func29, Tryd.ntmps29
  go_upto_region 1 with (fail)
  have hq : Quiet w (w.alloc (.cells #[.int .i64 t.top.n.op, .string t.top.n.nm, .int .i64 t.top.n.cmp, .int .i64 t.top.n.val, .int .i64 t.top.n.lo, .int .i64 t.top.n.hi, .slice t.top.a t.kids.length t.top.cap] 28)) := (Alters.refl _).alloc _
  have HA : Hid (CoreAt D w t (w.alloc (.cells #[.int .i64 t.top.n.op, .string t.top.n.nm, .int .i64 t.top.n.cmp, .int .i64 t.top.n.val, .int .i64 t.top.n.lo, .int .i64 t.top.n.hi, .slice t.top.a t.kids.length t.top.cap] 28))) := ⟨Blk.new _ _ _, HI.out.quiet hq, HSH.out.keep hq (by simp), hq⟩
  clear hq
  generalize w.alloc _ = w1 at *
  by_cases hf : first (Ft.pl t) = 0
  · have hd : decide (first (Ft.pl t) = 0) = true := by simpa using hf
    rw [hd] at HS31
    have HN := Go.Lib.hid (show core (Ft.pl t) = same (Ft.pl t) (normOf (Ft.pl t)) by unfold core; rw [hd, Bool.true_and])
    clear hf hd
    refine wp_region_wants (by kernel_rfl) (by kernel_rfl) (by kernel_rfl) (by kernel_rfl) (CoreAt D w t) (fun _ _ hq h => h.keep hq) [Want.is (Ft.val t), Want.is (.bool true), Want.is (.bool true), Want.is (Ft.val t), Want.is (Ft.val t), Want.fm (fun k => D k ∨ w.heap.size ≤ k) (normOf (Ft.pl t)), Want.is (.bool (same (Ft.pl t) (normOf (Ft.pl t)))), Want.is (.bool (same (Ft.pl t) (normOf (Ft.pl t))))] (HA.out.keep ((Alters.refl _).drew)) (by decide) ?_
    refine Steps.cons ?_ (Steps.cons ?_ (Steps.cons ?_ (Steps.cons ?_ (Steps.cons ?_ (Steps.cons ?_ (Steps.cons ?_ (Steps.cons ?_ (Steps.last ?_))))))))
    · intro u W K hS hF hK
      simp only [putsFrom, Act.put, Nat.reduceAdd, List.setIfInBounds_toArray, List.set_cons_zero, List.set_cons_succ] at hK ⊢
      clear hF
      obtain ⟨x0, x1, x2, x3, x4, x5, x6⟩ := (boxed_at hS.box).seven
      simp only [Nat.zero_add] at x0 x1 x2 x3 x4 x5 x6
      go_simp
      exact hK.out _ _ (Alters.refl _) rfl
    · intro u W K hS hF hK
      have f0 : u 0 = Ft.val t := hF 0 (by kernel_rfl)
      simp only [putsFrom, Act.put, Nat.reduceAdd, List.setIfInBounds_toArray, List.set_cons_zero, List.set_cons_succ, f0] at hK ⊢
      clear hF
      go_simp
      refine ((show Calls Tryd.prog 31 #[Ft.val t] W (Said (.bool true) W) from HS31.out W hS)).mono ?_
      rintro e W2 ⟨rfl, hq⟩
      exact hK.out _ _ hq rfl
    · intro u W K hS hF hK
      have f1 : u 1 = .bool true := hF 1 (by kernel_rfl)
      simp only [putsFrom, Act.put, Nat.reduceAdd, List.setIfInBounds_toArray, List.set_cons_zero, List.set_cons_succ, f1] at hK ⊢
      clear hF
      go_simp
      exact hK.out _ _ (Alters.refl _) rfl
    · intro u W K hS hF hK
      have f2 : u 2 = .bool true := hF 2 (by kernel_rfl)
      simp only [putsFrom, Act.put, Nat.reduceAdd, List.setIfInBounds_toArray, List.set_cons_zero, List.set_cons_succ, f2] at hK ⊢
      clear hF
      obtain ⟨x0, x1, x2, x3, x4, x5, x6⟩ := (boxed_at hS.box).seven
      simp only [Nat.zero_add] at x0 x1 x2 x3 x4 x5 x6
      go_simp
      exact hK.out _ _ (Alters.refl _) rfl
    · intro u W K hS hF hK
      have f2 : u 2 = .bool true := hF 2 (by kernel_rfl)
      simp only [putsFrom, Act.put, Nat.reduceAdd, List.setIfInBounds_toArray, List.set_cons_zero, List.set_cons_succ, f2] at hK ⊢
      clear hF
      obtain ⟨x0, x1, x2, x3, x4, x5, x6⟩ := (boxed_at hS.box).seven
      simp only [Nat.zero_add] at x0 x1 x2 x3 x4 x5 x6
      go_simp
      exact hK.out _ _ (Alters.refl _) rfl
    · intro u W K hS hF hK
      have f2 : u 2 = .bool true := hF 2 (by kernel_rfl)
      have f4 : u 4 = Ft.val t := hF 4 (by kernel_rfl)
      simp only [putsFrom, Act.put, Nat.reduceAdd, List.setIfInBounds_toArray, List.set_cons_zero, List.set_cons_succ, f2, f4] at hK ⊢
      clear hF
      go_simp
      refine (normOf_v (fun k => D k ∨ w.heap.size ≤ k) t W (hS.inn.mono (fun k _ h => .inl h)) hS.shapes HSZ.out (fun k hk => .inr (by have := hS.quiet.size; omega))).mono ?_
      rintro e W2 ⟨v, rfl, hm, hq⟩
      exact hK.out _ _ hq hm
    · intro u W K hS hF hK
      have f2 : u 2 = .bool true := hF 2 (by kernel_rfl)
      have f3 : u 3 = Ft.val t := hF 3 (by kernel_rfl)
      have f5 : MadeIn (fun k => D k ∨ w.heap.size ≤ k) (normOf (Ft.pl t)) (u 5) W := hF 5 (by kernel_rfl)
      simp only [putsFrom, Act.put, Nat.reduceAdd, List.setIfInBounds_toArray, List.set_cons_zero, List.set_cons_succ, f2, f3] at hK ⊢
      clear hF
      obtain ⟨t9, e9, hp9, hi9⟩ := f5
      simp only [e9] at hK ⊢
      go_simp
      refine (same9_walk (fun k => D k ∨ w.heap.size ≤ k) t t9 W (hS.inn.mono (fun k _ h => .inl h)) hi9 (by have := HSZ.out; omega)).mono ?_
      rintro e W2 ⟨rfl, hq⟩
      rw [hp9]
      exact hK.out _ _ hq rfl
    · intro u W K hS hF hK
      have f2 : u 2 = .bool true := hF 2 (by kernel_rfl)
      have f6 : u 6 = .bool (same (Ft.pl t) (normOf (Ft.pl t))) := hF 6 (by kernel_rfl)
      simp only [putsFrom, Act.put, Nat.reduceAdd, List.setIfInBounds_toArray, List.set_cons_zero, List.set_cons_succ, f2, f6] at hK ⊢
      clear hF
      go_simp
      exact hK.out _ _ (Alters.refl _) rfl
    · intro u W hS hF
      have f7 : u 7 = .bool (same (Ft.pl t) (normOf (Ft.pl t))) := hF 7 (by simp)
      simp only [putsFrom, Act.put, Nat.reduceAdd, List.setIfInBounds_toArray, List.set_cons_zero, List.set_cons_succ, f7]
      clear hF f7
      have HS := Go.Lib.hid hS
      clear hS
      go_simp
      go_wp2
      go_ret
      exact ⟨by rw [HN.out]; rfl, HS.out.quiet⟩
  · have hd : decide (first (Ft.pl t) = 0) = false := by simpa using hf
    rw [hd] at HS31
    have HN := Go.Lib.hid (show core (Ft.pl t) = false by unfold core; rw [hd, Bool.false_and])
    clear hf hd
    refine wp_region_wants (by kernel_rfl) (by kernel_rfl) (by kernel_rfl) (by kernel_rfl) (CoreAt D w t) (fun _ _ hq h => h.keep hq) [Want.is (Ft.val t), Want.is (.bool false), Want.is (.bool false), Want.any, Want.any, Want.any, Want.any, Want.is (.bool false)] (HA.out.keep ((Alters.refl _).drew)) (by decide) ?_
    refine Steps.cons ?_ (Steps.cons ?_ (Steps.cons ?_ (Steps.cons ?_ (Steps.cons ?_ (Steps.cons ?_ (Steps.cons ?_ (Steps.cons ?_ (Steps.last ?_))))))))
    · intro u W K hS hF hK
      simp only [putsFrom, Act.put, Nat.reduceAdd, List.setIfInBounds_toArray, List.set_cons_zero, List.set_cons_succ] at hK ⊢
      clear hF
      obtain ⟨x0, x1, x2, x3, x4, x5, x6⟩ := (boxed_at hS.box).seven
      simp only [Nat.zero_add] at x0 x1 x2 x3 x4 x5 x6
      go_simp
      exact hK.out _ _ (Alters.refl _) rfl
    · intro u W K hS hF hK
      have f0 : u 0 = Ft.val t := hF 0 (by kernel_rfl)
      simp only [putsFrom, Act.put, Nat.reduceAdd, List.setIfInBounds_toArray, List.set_cons_zero, List.set_cons_succ, f0] at hK ⊢
      clear hF
      go_simp
      refine ((show Calls Tryd.prog 31 #[Ft.val t] W (Said (.bool false) W) from HS31.out W hS)).mono ?_
      rintro e W2 ⟨rfl, hq⟩
      exact hK.out _ _ hq rfl
    · intro u W K hS hF hK
      have f1 : u 1 = .bool false := hF 1 (by kernel_rfl)
      simp only [putsFrom, Act.put, Nat.reduceAdd, List.setIfInBounds_toArray, List.set_cons_zero, List.set_cons_succ, f1] at hK ⊢
      clear hF
      go_simp
      exact hK.out _ _ (Alters.refl _) rfl
    · intro u W K hS hF hK
      have f2 : u 2 = .bool false := hF 2 (by kernel_rfl)
      simp only [putsFrom, Act.put, Nat.reduceAdd, List.setIfInBounds_toArray, List.set_cons_zero, List.set_cons_succ, f2] at hK ⊢
      clear hF
      go_simp
      exact hK.out _ _ (Alters.refl _) trivial
    · intro u W K hS hF hK
      have f2 : u 2 = .bool false := hF 2 (by kernel_rfl)
      simp only [putsFrom, Act.put, Nat.reduceAdd, List.setIfInBounds_toArray, List.set_cons_zero, List.set_cons_succ, f2] at hK ⊢
      clear hF
      go_simp
      exact hK.out _ _ (Alters.refl _) trivial
    · intro u W K hS hF hK
      have f2 : u 2 = .bool false := hF 2 (by kernel_rfl)
      simp only [putsFrom, Act.put, Nat.reduceAdd, List.setIfInBounds_toArray, List.set_cons_zero, List.set_cons_succ, f2] at hK ⊢
      clear hF
      go_simp
      exact hK.out _ _ (Alters.refl _) trivial
    · intro u W K hS hF hK
      have f2 : u 2 = .bool false := hF 2 (by kernel_rfl)
      simp only [putsFrom, Act.put, Nat.reduceAdd, List.setIfInBounds_toArray, List.set_cons_zero, List.set_cons_succ, f2] at hK ⊢
      clear hF
      go_simp
      exact hK.out _ _ (Alters.refl _) trivial
    · intro u W K hS hF hK
      have f2 : u 2 = .bool false := hF 2 (by kernel_rfl)
      simp only [putsFrom, Act.put, Nat.reduceAdd, List.setIfInBounds_toArray, List.set_cons_zero, List.set_cons_succ, f2] at hK ⊢
      clear hF
      go_simp
      exact hK.out _ _ (Alters.refl _) rfl
    · intro u W hS hF
      have f7 : u 7 = .bool (false) := hF 7 (by simp)
      simp only [putsFrom, Act.put, Nat.reduceAdd, List.setIfInBounds_toArray, List.set_cons_zero, List.set_cons_succ, f7]
      clear hF f7
      have HS := Go.Lib.hid hS
      clear hS
      go_simp
      go_wp2
      go_ret
      exact ⟨by rw [HN.out]; rfl, HS.out.quiet⟩
end Go.Proofs.YtnpcakakjhiboaaDoor
