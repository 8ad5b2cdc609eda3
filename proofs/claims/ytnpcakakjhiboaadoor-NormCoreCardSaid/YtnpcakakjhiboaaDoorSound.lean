/- formula.Sound: whether nothing is wrong with any node. No condition. -/
import Derived.Test.YtnpcakakjhiboaaDoorEach
import Derived.Test.YtnpcakakjhiboaaDoorWrong9
import Derived.Test.YtnpcakakjhiboaaDoorRef14
import Derived.Shelf.Abstract
namespace Go.Proofs.YtnpcakakjhiboaaDoor
open Go.RowKit Go.Lo Go.WideShapes
attribute [local go_sem] Oper.semAt_some

theorem Shapes.keep {p : Nat → Prop} {w w' : World} (h : Shapes w) (hA : Alters p w w') (hp : ¬ p 0) : Shapes w' := fun k h1 h2 => hA.cell (h k h1 h2) hp

theorem Shapes.lt {w : World} (h : Shapes w) : 0 < w.heap.size := block_lt_of_cell (h 1 (by omega) (by omega))

/-- What stands where formula.Sound goes round: the formula, its box, the result. -/
structure SoundAt (D : Nat → Prop) (w : World) (t : Ft) (r : Bool) (W : World) : Prop where
  box : AtP W w.heap.size 0 t
  inn : In D W t
  res : Blk W (w.heap.size + 1) #[.bool r] 4
  shapes : Shapes W
  quiet : Quiet w W

theorem SoundAt.keep {D p : Nat → Prop} {w : World} {t : Ft} {r : Bool} {W W' : World} (h : SoundAt D w t r W) (hA : Alters p W W') (hD : ∀ k, D k → k < w.heap.size) (hp : ∀ k, k ≤ w.heap.size + 1 → ¬ p k) : SoundAt D w t r W' :=
  ⟨h.box.keep hA (hp _ (by omega)), h.inn.keep hA (fun k hk _ => hp k (by have := hD k hk; omega)), hA.blk h.res (hp _ (by omega)), h.shapes.keep hA (hp 0 (by omega)), h.quiet.then hA (fun i hi hpi => absurd hpi (hp i (by omega)))⟩

theorem boxed_at {w : World} {b : Nat} {ty : TypeId} {t : Ft} (h : Blk w b (Ft.cells t).toArray ty) : AtP w b 0 t := fun j u hu => by
  rw [Nat.zero_add]
  exact h.cell j (by simpa using hu)

theorem sound_iff (t : Ft) (A : Addr) (d : Nat) : sound t.pl ↔ ∀ v, v ∈ vis A d t → wrong v.t.pl = 0 := by
  have e : t.pl.pre = (vis A d t).map (fun v => Ft.pl v.t) := by
    show (Tr.map Hd.n t).pre = _
    rw [Tr.map_pre, ← vis_pre t A d, List.map_map]
    rfl
  unfold sound
  rw [e]
  simp

set_option maxRecDepth 100000 in
set_option maxHeartbeats 2000000 in
theorem sound_walk (D : Nat → Prop) (t : Ft) (w : World) (hin : In D w t) (hS : Shapes w) (hsz : t.size ≤ 1000000) : Calls Tryd.prog 31 #[t.val] w (Said (.bool (decide (first t.pl = 0))) w) := by
  have hin1 : In (fun k => k < w.heap.size) w t := hin.mono (fun k hk _ => hk)
  obtain ⟨⟨⟨op, nm, cmp, val, lo, hi⟩, a, cap⟩, ks⟩ := t
  unfold Ft.val
  simp only [Tr.top, Tr.kids]
  refine (callsIn_wide (n := 9)).1 ?_
  refine callsIn_of_wp_marks Tryd.func31 rfl trivial ?_ rfl
  simp only [Tryd.ntmps31, List.size_toArray, List.length_cons, List.length_nil, Nat.reduceAdd, Nat.reduceSub, Array.replicate_succ, Array.replicate_zero, List.push_toArray, List.append_toArray, List.nil_append, List.cons_append]
  gi_wp2_with fail
  refine ⟨trivial, (callsIn_wide.2 (each_walk _ _)).mono ?_⟩
  rintro e w1 ⟨rfl, rfl⟩
  gi_wp2_with fail
  have hb0 : Blk (((w.alloc (.cells #[.int .i64 op, .string nm, .int .i64 cmp, .int .i64 val, .int .i64 lo, .int .i64 hi, .slice a ks.length cap] 28)).alloc (.cells #[.bool false] 4)).alloc (.cells #[.pointer (some ⟨w.heap.size, 0, none⟩)] 89)) w.heap.size (Ft.cells (.nd ⟨⟨op, nm, cmp, val, lo, hi⟩, a, cap⟩ ks)).toArray 28 := ((Blk.new _ _ _).alloc _).alloc _
  have hb1 : Blk (((w.alloc (.cells #[.int .i64 op, .string nm, .int .i64 cmp, .int .i64 val, .int .i64 lo, .int .i64 hi, .slice a ks.length cap] 28)).alloc (.cells #[.bool false] 4)).alloc (.cells #[.pointer (some ⟨w.heap.size, 0, none⟩)] 89)) (w.heap.size + 1) #[.bool false] 4 := (alloc2 _ _ _ _).alloc _
  have hb2 : Blk (((w.alloc (.cells #[.int .i64 op, .string nm, .int .i64 cmp, .int .i64 val, .int .i64 lo, .int .i64 hi, .slice a ks.length cap] 28)).alloc (.cells #[.bool false] 4)).alloc (.cells #[.pointer (some ⟨w.heap.size, 0, none⟩)] 89)) (w.heap.size + 1 + 1) #[.pointer (some ⟨w.heap.size, 0, none⟩)] 89 := alloc3 _ _ _ _ _
  have hq : Quiet w (((w.alloc (.cells #[.int .i64 op, .string nm, .int .i64 cmp, .int .i64 val, .int .i64 lo, .int .i64 hi, .slice a ks.length cap] 28)).alloc (.cells #[.bool false] 4)).alloc (.cells #[.pointer (some ⟨w.heap.size, 0, none⟩)] 89)) := (((Alters.refl _).alloc _).alloc _).alloc _
  have hz : (((w.alloc (.cells #[.int .i64 op, .string nm, .int .i64 cmp, .int .i64 val, .int .i64 lo, .int .i64 hi, .slice a ks.length cap] 28)).alloc (.cells #[.bool false] 4)).alloc (.cells #[.pointer (some ⟨w.heap.size, 0, none⟩)] 89)).heap.size = w.heap.size + 3 := by simp
  generalize ((w.alloc _).alloc _).alloc _ = w0 at *
  have hT : SoundAt (fun k => k < w.heap.size) w (.nd ⟨⟨op, nm, cmp, val, lo, hi⟩, a, cap⟩ ks) false w0 := ⟨boxed_at hb0, hin1.quiet hq, hb1, hS.keep hq (by simp), hq⟩
  have hseq := each1_seq (fun k => k ≤ w.heap.size) (fun k => k = w.heap.size + 1 ∨ w.heap.size + 3 ≤ k) (w.heap.size + 1 + 1) w.heap.size 0 (.nd ⟨⟨op, nm, cmp, val, lo, hi⟩, a, cap⟩ ks) w0 (hb2.cell 0 rfl) (by omega) (fun k hk => by omega) hT.box (Nat.le_refl _) (hT.inn.mono (fun k _ hk => Nat.le_of_lt hk)) hsz
  have hsi := sound_iff (.nd ⟨⟨op, nm, cmp, val, lo, hi⟩, a, cap⟩ ks) ⟨w.heap.size, 0, none⟩ 1
  have hva : ∀ W : World, SoundAt (fun k => k < w.heap.size) w (.nd ⟨⟨op, nm, cmp, val, lo, hi⟩, a, cap⟩ ks) false W → ∀ v, v ∈ vis ⟨w.heap.size, 0, none⟩ 1 (.nd ⟨⟨op, nm, cmp, val, lo, hi⟩, a, cap⟩ ks) → ∃ b o, v.ad = ⟨b, o, none⟩ ∧ AtP W b o v.t := fun W hW v hv => by
    obtain ⟨b, o, h1, -, h3, -⟩ := vis_at (D := fun k => k ≤ w.heap.size) _ w.heap.size 0 1 hW.box (Nat.le_refl _) (hW.inn.mono (fun k _ hk => Nat.le_of_lt hk)) v hv
    exact ⟨b, o, h1, h3⟩
  generalize vis ⟨w.heap.size, 0, none⟩ 1 (.nd ⟨⟨op, nm, cmp, val, lo, hi⟩, a, cap⟩ ks) = L at *
  generalize htt : (Tr.nd ⟨⟨op, nm, cmp, val, lo, hi⟩, a, cap⟩ ks : Ft) = tt at *
  have HZ := Go.Lib.hid hz
  have HSI := Go.Lib.hid hsi
  have HVA := Go.Lib.hid hva
  have HT := Go.Lib.hid hT
  have HSEQ := Go.Lib.hid hseq
  clear hb0 hb1 hb2 hq hz hT hseq hsi hva hS hin hin1 htt hsz
  refine wpIn_rangeC rfl (by omega) (gf := 110) (lb := #[.pointer (some ⟨w.heap.size + 1 + 1, 0, none⟩)]) rfl trivial (enters_of Tryd.func110 (by kernel_rfl) rfl) (Z := fun k => k = w.heap.size + 1 ∨ w.heap.size + 3 ≤ k) (by rw [HZ.out]; intro k hk; exact .inr hk) HSEQ.out (fun _ => rfl)
    (fun pre D W => SoundAt (fun k => k < w.heap.size) w tt false W ∧ (∀ v, v ∈ pre → wrong v.t.pl = 0)) (fun c pre D W => c = .ret ∧ SoundAt (fun k => k < w.heap.size) w tt false W ∧ ∃ v, v ∈ pre ∧ wrong v.t.pl ≠ 0) (fun _ => False) (by simp)
    (fun s D A B hA hs => ⟨hs.1.keep hA (fun k hk => hk) (fun k hk h => by have := HZ.out; omega), hs.2⟩) (fun c s D A B hA hs => ⟨hs.1, hs.2.1.keep hA (fun k hk => hk) (fun k hk h => by have := HZ.out; omega), hs.2.2⟩) ⟨HT.out, by simp⟩
    (fun x a' _ => a' = { tmps := #[.agg #[.int .i64 op, .string nm, .int .i64 cmp, .int .i64 val, .int .i64 lo, .int .i64 hi, .slice a ks.length cap], .pointer (some ⟨w.heap.size, 0, none⟩), .pointer (some ⟨w.heap.size + 1, 0, none⟩), .pointer (some x.ad), .func (.func 110) #[] #[.pointer (some ⟨w.heap.size + 1 + 1, 0, none⟩)], .pointer (some x.ad), .int .i64 x.dp, undef, undef, undef], defers := [] })
    ?assign ?ax ?body ?done ?stop
  case assign =>
    intro l pre x rest D W K hL hI hlt hK
    unfold Vi.enc
    gi_wp2
    exact hK _ _ (Alters.refl _) rfl
  case ax =>
    intro x a' W W' l _ _ _ h
    exact h
  case body =>
    rintro l pre x rest a' D W hL hlt ⟨hA, hpre⟩ rfl hD
    obtain ⟨b, o, hxe, hat⟩ := HVA.out W hA x (by rw [hL]; simp)
    have HW := Go.Lib.hid (wrong9_walk x.t b o W hat hA.shapes)
    have HA := Go.Lib.hid hA
    have HP := Go.Lib.hid hpre
    have HD := Go.Lib.hid hD
    have HL := Go.Lib.hid hL
    rw [hxe]
    clear hxe hat hA hpre hD hL
    gi_wp2_with fail
    refine ⟨trivial, (callsIn_wide.2 HW.out).mono ?_⟩
    rintro e w2 ⟨rfl, hq2⟩
    have hA2 := HA.out.keep hq2 (fun k hk => hk) (by simp)
    have HQ2 := Go.Lib.hid hq2
    have c1 := hA2.res.cell 0 rfl
    have f1 := hA2.res.free 0
    have HA2 := Go.Lib.hid hA2
    generalize hz : wrong x.t.pl = z
    have HZZ := Go.Lib.hid hz
    clear hA2 hq2 hz
    by_cases h0 : z = 0
    · have b1 : (z == 0) = true := by simpa using h0
      have b2 : (z != 0) = false := by simpa using h0
      have HZ0 := Go.Lib.hid (HZZ.out.trans h0)
      clear h0
      gi_wp2
      exact ⟨HQ2.out.to, fun _ => False, fun k h => h.elim, HA2.out, fun v hv => by
        rcases List.mem_append.1 hv with h | h
        · exact HP.out v h
        · obtain rfl : v = x := by simpa using h
          exact HZ0.out⟩
    · have b1 : (z == 0) = false := by simpa using h0
      have b2 : (z != 0) = true := by simpa using h0
      have HZ0 := Go.Lib.hid (show wrong x.t.pl ≠ 0 by rw [HZZ.out]; exact h0)
      clear h0
      gi_wp2
      have hs : Alters (fun k => k = w.heap.size + 1) w2 (w2.setCell ⟨w.heap.size + 1, 0, none⟩ (.bool false)) := (Alters.refl (p := fun k => k = w.heap.size + 1) w2).set (q := ⟨w.heap.size + 1, 0, none⟩) (fun _ => rfl) _
      refine ⟨(HQ2.out.to (p := fun k => D k ∨ ((k = w.heap.size + 1 ∨ w.heap.size + 3 ≤ k) ∧ k < w0.heap.size))).trans (hs.mono (fun k _ e => .inr ⟨.inl e, by rw [HZ.out]; omega⟩)), fun _ => False, fun k h => h.elim, rfl, ?_, x, by simp, HZ0.out⟩
      exact ⟨HA2.out.box.keep hs (by omega), HA2.out.inn.keep hs (fun k hk _ e => by omega), HA2.out.res.set 0 _, HA2.out.shapes.keep hs (by omega), HA2.out.quiet.then hs (fun i hi e => by omega)⟩
  case done =>
    rintro d D W hd ⟨hA, hpre⟩ hDd hdef
    have c1 := hA.res.cell 0 rfl
    have f1 := hA.res.free 0
    have HA := Go.Lib.hid hA
    have HP := Go.Lib.hid hpre
    clear hA hpre
    gi_wp2
    have hs : Alters (fun k => k = w.heap.size + 1) W (W.setCell ⟨w.heap.size + 1, 0, none⟩ (.bool true)) := (Alters.refl (p := fun k => k = w.heap.size + 1) W).set (q := ⟨w.heap.size + 1, 0, none⟩) (fun _ => rfl) _
    have hdef2 : (W.setCell ⟨w.heap.size + 1, 0, none⟩ (.bool true)).heap[d]? = some (.deferred (some [])) := (Below.heap_setCell _ _ _ _ (by have := HZ.out; simp; omega)).trans hdef
    refine ⟨by simp, .inl ⟨_, _, rfl, run_takeDeferred hdef2, ?_⟩⟩
    have hA3 : Alters (fun k => k = d) (W.setCell ⟨w.heap.size + 1, 0, none⟩ (.bool true)) ((W.setCell ⟨w.heap.size + 1, 0, none⟩ (.bool true)).putObj d (.deferred none)) := alters_putObj _ _ _ rfl
    have hb := hA3.blk (HA.out.res.set 0 (.bool true)) (by have := HZ.out; omega)
    have c9 := hb.cell 0 rfl
    have hf : first (Ft.pl tt) = 0 := (first_zero _).2 (HSI.out.2 HP.out)
    have hqq := (HA.out.quiet.then hs (fun i hi e => by omega)).then hA3 (fun i hi e => by have := HZ.out; omega)
    generalize (W.setCell _ _).putObj d _ = W9 at *
    refine ⟨.bool true, by simp [results, Tryd.results31, go_sem, c9], by rw [hf]; rfl, hqq⟩
  case stop =>
    rintro d c pre x rest D W hd hL ⟨rfl, hA, hbad⟩ hDd hdef
    have c1 := hA.res.cell 0 rfl
    have HA := Go.Lib.hid hA
    have HL := Go.Lib.hid hL
    have HB := Go.Lib.hid hbad
    clear hA hL hbad
    gi_wp2
    refine ⟨by simp, .inl ⟨_, _, rfl, run_takeDeferred hdef, ?_⟩⟩
    have hA3 : Alters (fun k => k = d) W (W.putObj d (.deferred none)) := alters_putObj _ _ _ rfl
    have hb := hA3.blk HA.out.res (by have := HZ.out; omega)
    have c9 := hb.cell 0 rfl
    obtain ⟨v, hv, hv0⟩ := HB.out
    have hf : first (Ft.pl tt) ≠ 0 := fun h => hv0 (HSI.out.1 ((first_zero _).1 h) v (by
      rw [HL.out, show pre ++ x :: rest = (pre ++ [x]) ++ rest by simp]
      exact List.mem_append_left _ hv))
    have hqq := HA.out.quiet.then hA3 (fun i hi e => by have := HZ.out; omega)
    generalize W.putObj d _ = W9 at *
    refine ⟨.bool false, by simp [results, Tryd.results31, go_sem, c9], by simp [hf], hqq⟩
end Go.Proofs.YtnpcakakjhiboaaDoor
