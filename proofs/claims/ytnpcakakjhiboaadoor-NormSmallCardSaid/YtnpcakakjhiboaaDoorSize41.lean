/- formula.Size: how many nodes. No condition. -/
import Derived.Test.YtnpcakakjhiboaaDoorEach
namespace Go.Proofs.YtnpcakakjhiboaaDoor
open Go.RowKit Go.Lo Go.WideShapes
attribute [local go_sem] Oper.semAt_some

/-- What stands where formula.Size goes round: the formula, its box, the count. -/
structure SizeAt (D : Nat → Prop) (w : World) (t : Ft) (n : Int) (W : World) : Prop where
  box : AtP W w.heap.size 0 t
  inn : In D W t
  res : Blk W (w.heap.size + 1) #[.int .i64 n] 3
  quiet : Quiet w W

theorem SizeAt.keep {D p : Nat → Prop} {w : World} {t : Ft} {r : Int} {W W' : World} (h : SizeAt D w t r W) (hA : Alters p W W') (hD : ∀ k, D k → k < w.heap.size) (hp : ∀ k, k ≤ w.heap.size + 1 → ¬ p k) : SizeAt D w t r W' :=
  ⟨h.box.keep hA (hp _ (by omega)), h.inn.keep hA (fun k hk _ => hp k (by have := hD k hk; omega)), hA.blk h.res (hp _ (by omega)), h.quiet.then hA (fun i hi hpi => absurd hpi (hp i (by omega)))⟩

set_option maxRecDepth 100000 in
set_option maxHeartbeats 2000000 in
theorem size41_walk (D : Nat → Prop) (t : Ft) (w : World) (hin : In D w t) (hsz : t.size ≤ 1000000) : Calls Tryd.prog 41 #[t.val] w (Said (.int .i64 t.size) w) := by
  have hin1 : In (fun k => k < w.heap.size) w t := hin.mono (fun k hk _ => hk)
  obtain ⟨⟨⟨op, nm, cmp, val, lo, hi⟩, a, cap⟩, ks⟩ := t
  unfold Ft.val
  simp only [Tr.top, Tr.kids]
  refine (callsIn_wide (n := 9)).1 ?_
  refine callsIn_of_wp_marks Tryd.func41 rfl trivial ?_ rfl
  simp only [Tryd.ntmps41, List.size_toArray, List.length_cons, List.length_nil, Nat.reduceAdd, Nat.reduceSub, Array.replicate_succ, Array.replicate_zero, List.push_toArray, List.append_toArray, List.nil_append, List.cons_append]
  gi_wp2_with fail
  refine ⟨trivial, (callsIn_wide.2 (each_walk _ _)).mono ?_⟩
  rintro e w1 ⟨rfl, rfl⟩
  gi_wp2_with fail
  have hb0 : Blk (((w.alloc (.cells #[.int .i64 op, .string nm, .int .i64 cmp, .int .i64 val, .int .i64 lo, .int .i64 hi, .slice a ks.length cap] 28)).alloc (.cells #[.int .i64 0] 3)).alloc (.cells #[.pointer (some ⟨w.heap.size, 0, none⟩)] 89)) w.heap.size (Ft.cells (.nd ⟨⟨op, nm, cmp, val, lo, hi⟩, a, cap⟩ ks)).toArray 28 := ((Blk.new _ _ _).alloc _).alloc _
  have hb1 : Blk (((w.alloc (.cells #[.int .i64 op, .string nm, .int .i64 cmp, .int .i64 val, .int .i64 lo, .int .i64 hi, .slice a ks.length cap] 28)).alloc (.cells #[.int .i64 0] 3)).alloc (.cells #[.pointer (some ⟨w.heap.size, 0, none⟩)] 89)) (w.heap.size + 1) #[.int .i64 0] 3 := (alloc2 _ _ _ _).alloc _
  have hb2 : Blk (((w.alloc (.cells #[.int .i64 op, .string nm, .int .i64 cmp, .int .i64 val, .int .i64 lo, .int .i64 hi, .slice a ks.length cap] 28)).alloc (.cells #[.int .i64 0] 3)).alloc (.cells #[.pointer (some ⟨w.heap.size, 0, none⟩)] 89)) (w.heap.size + 1 + 1) #[.pointer (some ⟨w.heap.size, 0, none⟩)] 89 := alloc3 _ _ _ _ _
  have hq : Quiet w (((w.alloc (.cells #[.int .i64 op, .string nm, .int .i64 cmp, .int .i64 val, .int .i64 lo, .int .i64 hi, .slice a ks.length cap] 28)).alloc (.cells #[.int .i64 0] 3)).alloc (.cells #[.pointer (some ⟨w.heap.size, 0, none⟩)] 89)) := (((Alters.refl _).alloc _).alloc _).alloc _
  have hz : (((w.alloc (.cells #[.int .i64 op, .string nm, .int .i64 cmp, .int .i64 val, .int .i64 lo, .int .i64 hi, .slice a ks.length cap] 28)).alloc (.cells #[.int .i64 0] 3)).alloc (.cells #[.pointer (some ⟨w.heap.size, 0, none⟩)] 89)).heap.size = w.heap.size + 3 := by simp
  generalize ((w.alloc _).alloc _).alloc _ = w0 at *
  have hT : SizeAt (fun k => k < w.heap.size) w (.nd ⟨⟨op, nm, cmp, val, lo, hi⟩, a, cap⟩ ks) 0 w0 := ⟨boxed_at hb0, hin1.quiet hq, hb1, hq⟩
  have hseq := each1_seq (fun k => k ≤ w.heap.size) (fun k => k = w.heap.size + 1 ∨ w.heap.size + 3 ≤ k) (w.heap.size + 1 + 1) w.heap.size 0 (.nd ⟨⟨op, nm, cmp, val, lo, hi⟩, a, cap⟩ ks) w0 (hb2.cell 0 rfl) (by omega) (fun k hk => by omega) hT.box (Nat.le_refl _) (hT.inn.mono (fun k _ hk => Nat.le_of_lt hk)) hsz
  have hlen := vis_length ⟨w.heap.size, 0, none⟩ 1 (.nd ⟨⟨op, nm, cmp, val, lo, hi⟩, a, cap⟩ ks)
  generalize vis ⟨w.heap.size, 0, none⟩ 1 (.nd ⟨⟨op, nm, cmp, val, lo, hi⟩, a, cap⟩ ks) = L at *
  generalize htt : (Tr.nd ⟨⟨op, nm, cmp, val, lo, hi⟩, a, cap⟩ ks : Ft) = tt at *
  have HZ := Go.Lib.hid hz
  have HLEN := Go.Lib.hid hlen
  have HSZ := Go.Lib.hid hsz
  have HT := Go.Lib.hid hT
  have HSEQ := Go.Lib.hid hseq
  clear hlen hsz hb0 hb1 hb2 hq hz hT hseq  hin hin1 htt
  refine wpIn_rangeC rfl (by omega) (gf := 110) (lb := #[.pointer (some ⟨w.heap.size + 1 + 1, 0, none⟩)]) rfl trivial (enters_of Tryd.func110 (by kernel_rfl) rfl) (Z := fun k => k = w.heap.size + 1 ∨ w.heap.size + 3 ≤ k) (by rw [HZ.out]; intro k hk; exact .inr hk) HSEQ.out (fun _ => rfl)
    (fun pre D W => SizeAt (fun k => k < w.heap.size) w tt pre.length W) (fun c pre D W => False) (fun _ => False) (by simp)
    (fun s D A B hA hs => hs.keep hA (fun k hk => hk) (fun k hk h => by have := HZ.out; omega)) (fun c s D A B hA hs => hs) HT.out
    (fun x a' _ => a' = { tmps := #[.agg #[.int .i64 op, .string nm, .int .i64 cmp, .int .i64 val, .int .i64 lo, .int .i64 hi, .slice a ks.length cap], .pointer (some ⟨w.heap.size, 0, none⟩), .int .i64 0, .pointer (some ⟨w.heap.size + 1, 0, none⟩), .func (.func 110) #[] #[.pointer (some ⟨w.heap.size + 1 + 1, 0, none⟩)], .pointer (some x.ad), .int .i64 x.dp, undef, undef, undef], defers := [] })
    ?assign ?ax ?body ?done ?stop
  case assign =>
    intro l pre x rest D W K hL hI hlt hK
    unfold Vi.enc
    gi_wp2
    exact hK _ _ (Alters.refl _) (by kernel_rfl)
  case ax =>
    intro x a' W W' l _ _ _ h
    exact h
  case body =>
    rintro l pre x rest a' D W hL hlt hA rfl hD
    have c1 := hA.res.cell 0 rfl
    have f1 := hA.res.free 0
    have hpl : pre.length < 1000000 := by
      have := congrArg List.length hL
      rw [HLEN.out] at this
      simp at this
      have := HSZ.out
      omega
    have HA := Go.Lib.hid hA
    have HD := Go.Lib.hid hD
    clear hA hD hL
    gi_wp2
    have e2 : (((pre ++ [x]).length : Nat) : Int) = (pre.length : Int) + 1 := by simp
    have hs : Alters (fun k => k = w.heap.size + 1) W (W.setCell ⟨w.heap.size + 1, 0, none⟩ (.int .i64 ((pre.length : Int) + 1))) := (Alters.refl (p := fun k => k = w.heap.size + 1) W).set (q := ⟨w.heap.size + 1, 0, none⟩) (fun _ => rfl) _
    refine ⟨hs.mono (fun k _ e => .inr ⟨.inl e, by rw [HZ.out]; omega⟩), fun _ => False, fun k h => h.elim, ?_⟩
    show SizeAt (fun k => k < w.heap.size) w tt (((pre ++ [x]).length : Nat) : Int) _
    rw [e2]
    exact ⟨HA.out.box.keep hs (by omega), HA.out.inn.keep hs (fun k hk _ e => by omega), HA.out.res.set 0 _, HA.out.quiet.then hs (fun i hi e => by omega)⟩
  case done =>
    rintro d D W hd hA hDd hdef
    have c1 := hA.res.cell 0 rfl
    have f1 := hA.res.free 0
    have HA := Go.Lib.hid hA
    clear hA
    gi_wp2
    refine ⟨by simp, .inl ⟨_, _, rfl, run_takeDeferred hdef, ?_⟩⟩
    have hA3 : Alters (fun k => k = d) W (W.putObj d (.deferred none)) := alters_putObj _ _ _ rfl
    have hqq := HA.out.quiet.then hA3 (fun i hi e => by have := HZ.out; omega)
    generalize W.putObj d _ = W9 at *
    exact ⟨.int .i64 L.length, by simp [results, Tryd.results41, go_sem], by rw [HLEN.out], hqq⟩
  case stop =>
    rintro d c pre x rest D W hd hL h hDd hdef
    exact h.elim
end Go.Proofs.YtnpcakakjhiboaaDoor
