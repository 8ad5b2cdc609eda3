/- formula.Check: what is wrong with a formula. No condition. -/
import Derived.Test.YtnpcakakjhiboaaDoorEach
import Derived.Test.YtnpcakakjhiboaaDoorHorQ
namespace Go.Proofs.YtnpcakakjhiboaaDoor
open Go Go.RowKit Go.Lo Go.WideShapes
attribute [local go_sem] Oper.semAt_some

def dpStep (m : Nat) (v : Vi) : Nat := max m v.dp

theorem visL_deep (ks : List Ft) (h : ∀ k, k ∈ ks → ∀ (A : Addr) (d m : Nat), (vis A d k).foldl dpStep m + 1 = max (m + 1) (d + k.deep)) : ∀ (A : Addr) (d m : Nat), d ≤ m + 1 → (visL A d ks).foldl dpStep m + 1 = max (m + 1) (d + Tr.deepL ks) := by
  induction ks with
  | nil => intro A d m hm; simp only [visL, List.foldl_nil, Tr.deepL]; omega
  | cons k ks ih =>
    intro A d m hm
    have h1 := h k (by simp) A d m
    have h2 := ih (fun k hk => h k (by simp [hk])) (nextAd A) d ((vis A d k).foldl dpStep m) (by omega)
    simp only [visL, List.foldl_append, Tr.deepL]
    rw [h2, h1]
    omega

theorem vis_deep (t : Ft) : ∀ (A : Addr) (d m : Nat), (vis A d t).foldl dpStep m + 1 = max (m + 1) (d + t.deep) := by
  induction t using Tr.ind with
  | h x ks ih =>
    intro A d m
    have := visL_deep ks ih (kidAd x.a) (d + 1) (max m d) (by omega)
    simp only [vis, List.foldl_cons, Tr.deep]
    have e : dpStep m ⟨A, d, .nd x ks⟩ = max m d := rfl
    rw [e, this]
    omega

theorem firstOf_last (l : List Fm) (x : Fm) : firstOf (l ++ [x]) = if firstOf l ≠ 0 then firstOf l else wrong x := by
  induction l with
  | nil =>
    simp only [List.nil_append, firstOf]
    by_cases h : wrong x = 0 <;> simp [h]
  | cons a l ih =>
    simp only [List.cons_append, firstOf, ih]
    by_cases h : wrong a = 0 <;> simp [h]

theorem vis_first (A : Addr) (t : Ft) : firstOf ((vis A 1 t).map fun v => Ft.pl v.t) = first t.pl := by
  unfold first
  congr 1
  show _ = (Tr.map Hd.n t).pre
  rw [Tr.map_pre, ← vis_pre t A 1, List.map_map]
  rfl

theorem dp_mono (l : List Vi) : ∀ m : Nat, m ≤ l.foldl dpStep m := by
  induction l with
  | nil => intro m; exact Nat.le_refl _
  | cons v l ih => intro m; have := ih (dpStep m v); simp only [List.foldl_cons]; unfold dpStep at this ⊢; omega

/-- What stands where formula.Check goes round. -/
structure CheckAt (D : Nat → Prop) (w : World) (t : Ft) (n m : Nat) (f r : Int) (W : World) : Prop where
  box : AtP W w.heap.size 0 t
  inn : In D W t
  res : Blk W (w.heap.size + 1) #[.int .i64 r] 39
  many : Blk W (w.heap.size + 1 + 1) #[.int .i64 (n : Int)] 3
  most : Blk W (w.heap.size + 1 + 1 + 1) #[.int .i64 (m : Int)] 3
  fst : Blk W (w.heap.size + 1 + 1 + 1 + 1) #[.int .i64 f] 39
  shapes : Shapes W
  quiet : Quiet w W

theorem CheckAt.keep {D p : Nat → Prop} {w : World} {t : Ft} {n m : Nat} {f r : Int} {W W' : World} (h : CheckAt D w t n m f r W) (hA : Alters p W W') (hD : ∀ k, D k → k < w.heap.size) (hp : ∀ k, k ≤ w.heap.size + 4 → ¬ p k) : CheckAt D w t n m f r W' :=
  ⟨h.box.keep hA (hp _ (by omega)), h.inn.keep hA (fun k hk _ => hp k (by have := hD k hk; omega)), hA.blk h.res (hp _ (by omega)), hA.blk h.many (hp _ (by omega)), hA.blk h.most (hp _ (by omega)), hA.blk h.fst (hp _ (by omega)), h.shapes.keep hA (hp 0 (by omega)), h.quiet.then hA (fun i hi hpi => absurd hpi (hp i (by omega)))⟩

theorem CheckAt.set {D : Nat → Prop} {w : World} {t : Ft} {n m : Nat} {f r : Int} {W : World} (h : CheckAt D w t n m f r W) (hD : ∀ k, D k → k < w.heap.size) (h0 : 0 < w.heap.size) :
    (∀ x : Int, CheckAt D w t n m f x (W.setCell ⟨w.heap.size + 1, 0, none⟩ (.int .i64 x))) ∧ (∀ x : Nat, CheckAt D w t x m f r (W.setCell ⟨w.heap.size + 1 + 1, 0, none⟩ (.int .i64 (x : Int)))) ∧
      (∀ x : Nat, CheckAt D w t n x f r (W.setCell ⟨w.heap.size + 1 + 1 + 1, 0, none⟩ (.int .i64 (x : Int)))) ∧ (∀ x : Int, CheckAt D w t n m x r (W.setCell ⟨w.heap.size + 1 + 1 + 1 + 1, 0, none⟩ (.int .i64 x))) := by
  have hs : ∀ (b : Nat) (v : Value), Alters (fun k => k = b) W (W.setCell ⟨b, 0, none⟩ v) := fun b v => (Alters.refl (p := fun k => k = b) W).set (q := ⟨b, 0, none⟩) (fun _ => rfl) _
  have hin : ∀ (b : Nat) (v : Value), w.heap.size ≤ b → In D (W.setCell ⟨b, 0, none⟩ v) t := fun b v hb => h.inn.keep (hs b v) (fun k hk _ e => by have := hD k hk; omega)
  have hq : ∀ (b : Nat) (v : Value), w.heap.size ≤ b → Quiet w (W.setCell ⟨b, 0, none⟩ v) := fun b v hb => h.quiet.then (hs b v) (fun i hi e => by omega)
  refine ⟨fun x => ?_, fun x => ?_, fun x => ?_, fun x => ?_⟩
  · exact ⟨h.box.keep (hs _ _) (by omega), hin _ _ (by omega), h.res.set 0 _, (hs _ _).blk h.many (by omega), (hs _ _).blk h.most (by omega), (hs _ _).blk h.fst (by omega), h.shapes.keep (hs _ _) (by omega), hq _ _ (by omega)⟩
  · exact ⟨h.box.keep (hs _ _) (by omega), hin _ _ (by omega), (hs _ _).blk h.res (by omega), h.many.set 0 _, (hs _ _).blk h.most (by omega), (hs _ _).blk h.fst (by omega), h.shapes.keep (hs _ _) (by omega), hq _ _ (by omega)⟩
  · exact ⟨h.box.keep (hs _ _) (by omega), hin _ _ (by omega), (hs _ _).blk h.res (by omega), (hs _ _).blk h.many (by omega), h.most.set 0 _, (hs _ _).blk h.fst (by omega), h.shapes.keep (hs _ _) (by omega), hq _ _ (by omega)⟩
  · exact ⟨h.box.keep (hs _ _) (by omega), hin _ _ (by omega), (hs _ _).blk h.res (by omega), (hs _ _).blk h.many (by omega), (hs _ _).blk h.most (by omega), h.fst.set 0 _, h.shapes.keep (hs _ _) (by omega), hq _ _ (by omega)⟩

theorem alter1 {w0 W : World} {D Z : Nat → Prop} {b : Nat} (v : Value) (hZ : Z b) (hb : b < w0.heap.size) : Alters (fun k => D k ∨ (Z k ∧ k < w0.heap.size)) W (W.setCell ⟨b, 0, none⟩ v) :=
  ((Alters.refl (p := fun k => k = b) W).set (q := ⟨b, 0, none⟩) (fun _ => rfl) v).mono (fun k _ e => .inr ⟨by rw [e]; exact hZ, by omega⟩)

set_option maxRecDepth 100000 in
set_option maxHeartbeats 1000000 in
theorem check70_walk (D : Nat → Prop) (t : Ft) (w : World) (hin : In D w t) (hS : Shapes w) (hsz : t.size ≤ 1000000) : Calls Tryd.prog 70 #[t.val] w (Said (.int .i64 (checkF t.pl)) w) := by
  have hin1 : In (fun k => k < w.heap.size) w t := hin.mono (fun k hk _ => hk)
  obtain ⟨⟨⟨op, nm, cmp, val, lo, hi⟩, a, cap⟩, ks⟩ := t
  unfold Ft.val
  simp only [Tr.top, Tr.kids]
  refine (callsIn_wide (n := 9)).1 ?_
  refine callsIn_of_wp_marks Tryd.func70 rfl trivial ?_ rfl
  simp only [Tryd.ntmps70, List.size_toArray, List.length_cons, List.length_nil, Nat.reduceAdd, Nat.reduceSub, Array.replicate_succ, Array.replicate_zero, List.push_toArray, List.append_toArray, List.nil_append, List.cons_append]
  gi_wp2_with fail
  refine ⟨trivial, (callsIn_wide.2 (each_walk _ _)).mono ?_⟩
  rintro e w1 ⟨rfl, rfl⟩
  gi_wp2_with fail
  have hb0 : Blk ((((((w.alloc (.cells #[.int .i64 op, .string nm, .int .i64 cmp, .int .i64 val, .int .i64 lo, .int .i64 hi, .slice a ks.length cap] 28)).alloc (.cells #[.int .i64 0] 39)).alloc (.cells #[.int .i64 0] 3)).alloc (.cells #[.int .i64 0] 3)).alloc (.cells #[.int .i64 0] 39)).alloc (.cells #[.pointer (some ⟨w.heap.size, 0, none⟩)] 89)) w.heap.size (Ft.cells (.nd ⟨⟨op, nm, cmp, val, lo, hi⟩, a, cap⟩ ks)).toArray 28 := (((((Blk.new _ _ _).alloc _).alloc _).alloc _).alloc _).alloc _
  have hb1 : Blk ((((((w.alloc (.cells #[.int .i64 op, .string nm, .int .i64 cmp, .int .i64 val, .int .i64 lo, .int .i64 hi, .slice a ks.length cap] 28)).alloc (.cells #[.int .i64 0] 39)).alloc (.cells #[.int .i64 0] 3)).alloc (.cells #[.int .i64 0] 3)).alloc (.cells #[.int .i64 0] 39)).alloc (.cells #[.pointer (some ⟨w.heap.size, 0, none⟩)] 89)) (w.heap.size + 1) #[.int .i64 0] 39 := ((((alloc2 _ _ _ _).alloc _).alloc _).alloc _).alloc _
  have hb2 : Blk ((((((w.alloc (.cells #[.int .i64 op, .string nm, .int .i64 cmp, .int .i64 val, .int .i64 lo, .int .i64 hi, .slice a ks.length cap] 28)).alloc (.cells #[.int .i64 0] 39)).alloc (.cells #[.int .i64 0] 3)).alloc (.cells #[.int .i64 0] 3)).alloc (.cells #[.int .i64 0] 39)).alloc (.cells #[.pointer (some ⟨w.heap.size, 0, none⟩)] 89)) (w.heap.size + 1 + 1) #[.int .i64 0] 3 := (((alloc3 _ _ _ _ _).alloc _).alloc _).alloc _
  have hb3 : Blk ((((((w.alloc (.cells #[.int .i64 op, .string nm, .int .i64 cmp, .int .i64 val, .int .i64 lo, .int .i64 hi, .slice a ks.length cap] 28)).alloc (.cells #[.int .i64 0] 39)).alloc (.cells #[.int .i64 0] 3)).alloc (.cells #[.int .i64 0] 3)).alloc (.cells #[.int .i64 0] 39)).alloc (.cells #[.pointer (some ⟨w.heap.size, 0, none⟩)] 89)) (w.heap.size + 1 + 1 + 1) #[.int .i64 0] 3 := ((alloc4 _ _ _ _ _ _).alloc _).alloc _
  have hb4 : Blk ((((((w.alloc (.cells #[.int .i64 op, .string nm, .int .i64 cmp, .int .i64 val, .int .i64 lo, .int .i64 hi, .slice a ks.length cap] 28)).alloc (.cells #[.int .i64 0] 39)).alloc (.cells #[.int .i64 0] 3)).alloc (.cells #[.int .i64 0] 3)).alloc (.cells #[.int .i64 0] 39)).alloc (.cells #[.pointer (some ⟨w.heap.size, 0, none⟩)] 89)) (w.heap.size + 1 + 1 + 1 + 1) #[.int .i64 0] 39 := by
    have := (alloc4 (w.alloc (.cells #[.int .i64 op, .string nm, .int .i64 cmp, .int .i64 val, .int .i64 lo, .int .i64 hi, .slice a ks.length cap] 28)) (.cells #[.int .i64 0] 39) (.cells #[.int .i64 0] 3) (.cells #[.int .i64 0] 3) #[.int .i64 0] 39).alloc (.cells #[.pointer (some ⟨w.heap.size, 0, none⟩)] 89)
    rwa [World.size_alloc] at this
  have hb5 : Blk ((((((w.alloc (.cells #[.int .i64 op, .string nm, .int .i64 cmp, .int .i64 val, .int .i64 lo, .int .i64 hi, .slice a ks.length cap] 28)).alloc (.cells #[.int .i64 0] 39)).alloc (.cells #[.int .i64 0] 3)).alloc (.cells #[.int .i64 0] 3)).alloc (.cells #[.int .i64 0] 39)).alloc (.cells #[.pointer (some ⟨w.heap.size, 0, none⟩)] 89)) (w.heap.size + 1 + 1 + 1 + 1 + 1) #[.pointer (some ⟨w.heap.size, 0, none⟩)] 89 := by
    have := alloc4 ((w.alloc (.cells #[.int .i64 op, .string nm, .int .i64 cmp, .int .i64 val, .int .i64 lo, .int .i64 hi, .slice a ks.length cap] 28)).alloc (.cells #[.int .i64 0] 39)) (.cells #[.int .i64 0] 3) (.cells #[.int .i64 0] 3) (.cells #[.int .i64 0] 39) #[.pointer (some ⟨w.heap.size, 0, none⟩)] 89
    rwa [World.size_alloc, World.size_alloc] at this
  have hq : Quiet w ((((((w.alloc (.cells #[.int .i64 op, .string nm, .int .i64 cmp, .int .i64 val, .int .i64 lo, .int .i64 hi, .slice a ks.length cap] 28)).alloc (.cells #[.int .i64 0] 39)).alloc (.cells #[.int .i64 0] 3)).alloc (.cells #[.int .i64 0] 3)).alloc (.cells #[.int .i64 0] 39)).alloc (.cells #[.pointer (some ⟨w.heap.size, 0, none⟩)] 89)) := ((((((Alters.refl _).alloc _).alloc _).alloc _).alloc _).alloc _).alloc _
  have hz : ((((((w.alloc (.cells #[.int .i64 op, .string nm, .int .i64 cmp, .int .i64 val, .int .i64 lo, .int .i64 hi, .slice a ks.length cap] 28)).alloc (.cells #[.int .i64 0] 39)).alloc (.cells #[.int .i64 0] 3)).alloc (.cells #[.int .i64 0] 3)).alloc (.cells #[.int .i64 0] 39)).alloc (.cells #[.pointer (some ⟨w.heap.size, 0, none⟩)] 89)).heap.size = w.heap.size + 6 := by simp
  generalize (((((w.alloc _).alloc _).alloc _).alloc _).alloc _).alloc _ = w0 at *
  have hT : CheckAt (fun k => k < w.heap.size) w (.nd ⟨⟨op, nm, cmp, val, lo, hi⟩, a, cap⟩ ks) 0 0 0 0 w0 := ⟨boxed_at hb0, hin1.quiet hq, hb1, hb2, hb3, hb4, hS.keep hq (by simp), hq⟩
  have hseq := each1_seq (fun k => k ≤ w.heap.size) (fun k => (w.heap.size + 1 ≤ k ∧ k ≤ w.heap.size + 1 + 1 + 1 + 1) ∨ w.heap.size + 6 ≤ k) (w.heap.size + 1 + 1 + 1 + 1 + 1) w.heap.size 0 (.nd ⟨⟨op, nm, cmp, val, lo, hi⟩, a, cap⟩ ks) w0 (hb5.cell 0 rfl) (by omega) (fun k hk => by omega) hT.box (Nat.le_refl _) (hT.inn.mono (fun k _ hk => Nat.le_of_lt hk)) hsz
  have hlen := vis_length ⟨w.heap.size, 0, none⟩ 1 (.nd ⟨⟨op, nm, cmp, val, lo, hi⟩, a, cap⟩ ks)
  have hdeep := vis_deep (.nd ⟨⟨op, nm, cmp, val, lo, hi⟩, a, cap⟩ ks) ⟨w.heap.size, 0, none⟩ 1 0
  have hfirst := vis_first ⟨w.heap.size, 0, none⟩ (.nd ⟨⟨op, nm, cmp, val, lo, hi⟩, a, cap⟩ ks)
  have hva : ∀ (n m : Nat) (f r : Int) (W : World), CheckAt (fun k => k < w.heap.size) w (.nd ⟨⟨op, nm, cmp, val, lo, hi⟩, a, cap⟩ ks) n m f r W → ∀ v, v ∈ vis ⟨w.heap.size, 0, none⟩ 1 (.nd ⟨⟨op, nm, cmp, val, lo, hi⟩, a, cap⟩ ks) → ∃ b o, v.ad = ⟨b, o, none⟩ ∧ b ≤ w.heap.size ∧ AtP W b o v.t := fun n m f r W hW v hv => by
    obtain ⟨b, o, h1, h2, h3, -⟩ := vis_at (D := fun k => k ≤ w.heap.size) _ w.heap.size 0 1 hW.box (Nat.le_refl _) (hW.inn.mono (fun k _ hk => Nat.le_of_lt hk)) v hv
    exact ⟨b, o, h1, h2, h3⟩
  generalize vis ⟨w.heap.size, 0, none⟩ 1 (.nd ⟨⟨op, nm, cmp, val, lo, hi⟩, a, cap⟩ ks) = L at *
  generalize htt : (Tr.nd ⟨⟨op, nm, cmp, val, lo, hi⟩, a, cap⟩ ks : Ft) = tt at *
  have HV : Hid (checkF (Ft.pl tt) = if 48 < L.length then 23 else if 12 < L.foldl dpStep 0 then 22 else firstOf (L.map fun v : Vi => Ft.pl v.t)) := Go.Lib.hid (by
    rw [checkF, show (Ft.pl tt).size = tt.size from Tr.map_size _ _, show (Ft.pl tt).deep = tt.deep from Tr.map_deep _ _, hlen, hfirst, show L.foldl dpStep 0 = tt.deep by omega])
  have h0 := hS.lt
  have HZ := Go.Lib.hid hz
  have HVA := Go.Lib.hid hva
  have HT := Go.Lib.hid hT
  have HSEQ := Go.Lib.hid hseq
  have H0 := Go.Lib.hid h0
  clear hlen hsz hb0 hb1 hb2 hb3 hb4 hb5 hq hz hT hseq hin hin1 htt hdeep hfirst hva hS h0
  refine wpIn_rangeC rfl (by omega) (gf := 110) (lb := #[.pointer (some ⟨w.heap.size + 1 + 1 + 1 + 1 + 1, 0, none⟩)]) rfl trivial (enters_of Tryd.func110 (by kernel_rfl) rfl) (Z := fun k => (w.heap.size + 1 ≤ k ∧ k ≤ w.heap.size + 1 + 1 + 1 + 1) ∨ w.heap.size + 6 ≤ k) (by rw [HZ.out]; intro k hk; exact .inr hk) HSEQ.out (fun _ => rfl)
    (fun (pre : List Vi) D W => CheckAt (fun k => k < w.heap.size) w tt pre.length (pre.foldl dpStep 0) (firstOf (pre.map fun v : Vi => Ft.pl v.t)) 0 W ∧ pre.length ≤ 48) (fun c (pre : List Vi) D W => c = .ret ∧ (∃ m f, CheckAt (fun k => k < w.heap.size) w tt pre.length m f 23 W) ∧ 48 < pre.length) (fun _ => False) (by simp)
    (fun s D A B hA hs => ⟨hs.1.keep hA (fun k hk => hk) (fun k hk h => by have := HZ.out; omega), hs.2⟩) (fun c s D A B hA hs => ⟨hs.1, hs.2.1.elim fun m h => h.elim fun f h => ⟨m, f, h.keep hA (fun k hk => hk) (fun k hk h => by have := HZ.out; omega)⟩, hs.2.2⟩) ⟨HT.out, by simp⟩
    (fun x a' _ => a' = { tmps := #[.agg #[.int .i64 op, .string nm, .int .i64 cmp, .int .i64 val, .int .i64 lo, .int .i64 hi, .slice a ks.length cap], .pointer (some ⟨w.heap.size, 0, none⟩), .pointer (some ⟨w.heap.size + 1, 0, none⟩), .pointer (some ⟨w.heap.size + 1 + 1, 0, none⟩), .pointer (some ⟨w.heap.size + 1 + 1 + 1, 0, none⟩), .pointer (some ⟨w.heap.size + 1 + 1 + 1 + 1, 0, none⟩), .pointer (some x.ad), .int .i64 x.dp, .func (.func 110) #[] #[.pointer (some ⟨w.heap.size + 1 + 1 + 1 + 1 + 1, 0, none⟩)], .pointer (some x.ad), .int .i64 x.dp, undef, undef, undef, undef, undef, undef, undef, undef, undef, undef, undef, undef, undef, undef], defers := [] })
    ?assign ?ax ?body ?done ?stop
  case assign =>
    intro l pre x rest D W K hL hI hlt hK
    unfold Vi.enc
    gi_wp2
    exact hK _ _ (Alters.refl _) rfl
  case ax =>
    intro x a' W W' l _ _ _ h
    exact h
  case body =>
    rintro l pre x rest a' D W hL hlt ⟨hA, hpl⟩ rfl hD
    have c1 := hA.many.cell 0 rfl
    have f1 := hA.many.free 0
    have HL := Go.Lib.hid hL
    have HA := Go.Lib.hid hA
    have hA2 := (hA.set (fun k hk => hk) H0.out).2.1 (pre.length + 1)
    have HA2 := Go.Lib.hid hA2
    have hal := alter1 (w0 := w0) (W := W) (D := D) (Z := fun k => (w.heap.size + 1 ≤ k ∧ k ≤ w.heap.size + 1 + 1 + 1 + 1) ∨ w.heap.size + 6 ≤ k) (b := w.heap.size + 1 + 1) (.int .i64 ((pre.length + 1 : Nat) : Int)) (by omega) (by rw [HZ.out]; omega)
    have HAL := Go.Lib.hid hal
    have hlc : (((pre.length + 1 : Nat) : Int)) = (pre.length : Int) + 1 := by simp
    have HPL : Hid ((pre ++ [x]).length = pre.length + 1) := Go.Lib.hid (by simp)
    clear hA hL hD hA2 hal
    rw [hlc] at HA2 HAL
    clear hlc
    obtain ⟨xb, xo, hxe, hxb, hat⟩ := HVA.out _ _ _ _ _ HA2.out x (by rw [HL.out]; simp)
    have c2 := HA2.out.many.cell 0 rfl
    have c3 := HA2.out.most.cell 0 rfl
    have f3 := HA2.out.most.free 0
    have c4 := HA2.out.fst.cell 0 rfl
    have f4 := HA2.out.fst.free 0
    have c5 := HA2.out.res.cell 0 rfl
    have f5 := HA2.out.res.free 0
    by_cases h48 : 47 < pre.length
    · have d48 : decide ((48 : Int) < (pre.length : Int) + 1) = true := decide_eq_true (by omega)
      clear hxe hat hxb
      gi_wp2
      refine ⟨HAL.out.trans (alter1 (w0 := w0) (W := _) (D := D) (Z := fun k => (w.heap.size + 1 ≤ k ∧ k ≤ w.heap.size + 1 + 1 + 1 + 1) ∨ w.heap.size + 6 ≤ k) (b := w.heap.size + 1) (.int .i64 23) (by omega) (by rw [HZ.out]; omega)), fun _ => False, fun k h => h.elim, rfl, by rw [HPL.out]; exact ⟨_, _, (HA2.out.set (fun k hk => hk) H0.out).1 23⟩, by rw [HPL.out]; omega⟩
    · have d48 : decide ((48 : Int) < (pre.length : Int) + 1) = false := decide_eq_false (by omega)
      have hms : (pre ++ [x]).foldl dpStep 0 = max (pre.foldl dpStep 0) x.dp := by simp [dpStep]
      have HMS := Go.Lib.hid hms
      have hfs : firstOf ((pre ++ [x]).map fun v : Vi => Ft.pl v.t) = if firstOf (pre.map fun v : Vi => Ft.pl v.t) ≠ 0 then firstOf (pre.map fun v : Vi => Ft.pl v.t) else wrong (Ft.pl x.t) := by
        rw [List.map_append, List.map_cons, List.map_nil, firstOf_last]
      have HFS := Go.Lib.hid hfs
      clear hms hfs
      generalize pre.foldl dpStep 0 = mm at *
      generalize hff : firstOf (pre.map fun v : Vi => Ft.pl v.t) = ff at *
      clear hff
      have hxn3 : ¬ xb = w.heap.size + 1 + 1 + 1 := by omega
      clear hxb
      by_cases hmx : mm < x.dp
      · have dmx : decide ((mm : Int) < (x.dp : Int)) = true := decide_eq_true (by omega)
        rw [show max mm x.dp = x.dp by omega] at HMS
        have HA3 := Go.Lib.hid ((HA2.out.set (fun k hk => hk) H0.out).2.2.1 x.dp)
        have HAL3 := Go.Lib.hid (HAL.out.trans (alter1 (w0 := w0) (W := (W.setCell ⟨w.heap.size + 1 + 1, 0, none⟩ (.int .i64 ((pre.length : Int) + 1)))) (D := D) (Z := fun k => (w.heap.size + 1 ≤ k ∧ k ≤ w.heap.size + 1 + 1 + 1 + 1) ∨ w.heap.size + 6 ≤ k) (b := w.heap.size + 1 + 1 + 1) (.int .i64 (x.dp : Int)) (by omega) (by rw [HZ.out]; omega)))
        by_cases hf0 : ff = 0
        · have b0 : (ff == 0) = true := by simpa using hf0
          have HF0 := Go.Lib.hid hf0
          clear hf0
          have c6 := HA3.out.fst.cell 0 rfl
          have f6 := HA3.out.fst.free 0
          have HW := Go.Lib.hid (wrong9_walk x.t xb xo _ (hat.keep ((Alters.refl (p := fun k => k = w.heap.size + 1 + 1 + 1) (W.setCell ⟨w.heap.size + 1 + 1, 0, none⟩ (.int .i64 ((pre.length : Int) + 1)))).set (q := ⟨w.heap.size + 1 + 1 + 1, 0, none⟩) (fun _ => rfl) (.int .i64 (x.dp : Int))) hxn3) HA3.out.shapes)
          rw [← hxe] at HW
          clear hat hxe
          gi_wp2_with fail
          refine ⟨trivial, (callsIn_wide.2 HW.out).mono ?_⟩
          rintro e w2 ⟨rfl, hq2⟩
          replace HA3 := Go.Lib.hid (HA3.out.keep hq2 (fun k hk => hk) (by simp))
          replace HAL3 := Go.Lib.hid (HAL3.out.trans hq2.to)
          clear c1 c2 c3 c4 c5 c6 f1 f3 f4 f5 f6 HW hq2 HA HA2 HAL
          have f6 := HA3.out.fst.free 0
          have c6 := HA3.out.fst.cell 0 rfl
          generalize wrong (Ft.pl x.t) = z at *
          gi_wp2_with fail
          refine ⟨HAL3.out.trans (alter1 (w0 := w0) (W := _) (D := D) (Z := fun k => (w.heap.size + 1 ≤ k ∧ k ≤ w.heap.size + 1 + 1 + 1 + 1) ∨ w.heap.size + 6 ≤ k) (b := w.heap.size + 1 + 1 + 1 + 1) (.int .i64 z) (by omega) (by rw [HZ.out]; omega)), fun _ => False, fun k h => h.elim, ?_, by rw [HPL.out]; omega⟩
          rw [HPL.out, HMS.out, HFS.out, if_neg (by have := HF0.out; omega)]
          exact (HA3.out.set (fun k hk => hk) H0.out).2.2.2 z
        · have b0 : (ff == 0) = false := by simpa using hf0
          rw [if_pos hf0] at HFS
          clear hf0 hxe hat
          gi_wp2_with fail
          refine ⟨HAL3.out, fun _ => False, fun k h => h.elim, ?_, by rw [HPL.out]; omega⟩
          rw [HPL.out, HMS.out, HFS.out]
          exact HA3.out
      · have dmx : decide ((mm : Int) < (x.dp : Int)) = false := decide_eq_false (by omega)
        rw [show max mm x.dp = mm by omega] at HMS
        have HA3 := Go.Lib.hid ((HA2.out.set (fun k hk => hk) H0.out).2.2.1 mm)
        have HAL3 := Go.Lib.hid (HAL.out.trans (alter1 (w0 := w0) (W := (W.setCell ⟨w.heap.size + 1 + 1, 0, none⟩ (.int .i64 ((pre.length : Int) + 1)))) (D := D) (Z := fun k => (w.heap.size + 1 ≤ k ∧ k ≤ w.heap.size + 1 + 1 + 1 + 1) ∨ w.heap.size + 6 ≤ k) (b := w.heap.size + 1 + 1 + 1) (.int .i64 (mm : Int)) (by omega) (by rw [HZ.out]; omega)))
        by_cases hf0 : ff = 0
        · have b0 : (ff == 0) = true := by simpa using hf0
          have HF0 := Go.Lib.hid hf0
          clear hf0
          have c6 := HA3.out.fst.cell 0 rfl
          have f6 := HA3.out.fst.free 0
          have HW := Go.Lib.hid (wrong9_walk x.t xb xo _ (hat.keep ((Alters.refl (p := fun k => k = w.heap.size + 1 + 1 + 1) (W.setCell ⟨w.heap.size + 1 + 1, 0, none⟩ (.int .i64 ((pre.length : Int) + 1)))).set (q := ⟨w.heap.size + 1 + 1 + 1, 0, none⟩) (fun _ => rfl) (.int .i64 (mm : Int))) hxn3) HA3.out.shapes)
          rw [← hxe] at HW
          clear hat hxe
          gi_wp2_with fail
          refine ⟨trivial, (callsIn_wide.2 HW.out).mono ?_⟩
          rintro e w2 ⟨rfl, hq2⟩
          replace HA3 := Go.Lib.hid (HA3.out.keep hq2 (fun k hk => hk) (by simp))
          replace HAL3 := Go.Lib.hid (HAL3.out.trans hq2.to)
          clear c1 c2 c3 c4 c5 c6 f1 f3 f4 f5 f6 HW hq2 HA HA2 HAL
          have f6 := HA3.out.fst.free 0
          have c6 := HA3.out.fst.cell 0 rfl
          generalize wrong (Ft.pl x.t) = z at *
          gi_wp2_with fail
          refine ⟨HAL3.out.trans (alter1 (w0 := w0) (W := _) (D := D) (Z := fun k => (w.heap.size + 1 ≤ k ∧ k ≤ w.heap.size + 1 + 1 + 1 + 1) ∨ w.heap.size + 6 ≤ k) (b := w.heap.size + 1 + 1 + 1 + 1) (.int .i64 z) (by omega) (by rw [HZ.out]; omega)), fun _ => False, fun k h => h.elim, ?_, by rw [HPL.out]; omega⟩
          rw [HPL.out, HMS.out, HFS.out, if_neg (by have := HF0.out; omega)]
          exact (HA3.out.set (fun k hk => hk) H0.out).2.2.2 z
        · have b0 : (ff == 0) = false := by simpa using hf0
          rw [if_pos hf0] at HFS
          clear hf0 hxe hat
          gi_wp2_with fail
          refine ⟨HAL3.out, fun _ => False, fun k h => h.elim, ?_, by rw [HPL.out]; omega⟩
          rw [HPL.out, HMS.out, HFS.out]
          exact HA3.out
  case done =>
    rintro d D W hd ⟨hA, hpl⟩ hDd hdef
    have c1 := hA.most.cell 0 rfl
    have c2 := hA.fst.cell 0 rfl
    have c3 := hA.res.cell 0 rfl
    have f3 := hA.res.free 0
    have HA := Go.Lib.hid hA
    rw [if_neg (by omega)] at HV
    clear hA hpl
    generalize L.foldl dpStep 0 = mm at *
    generalize firstOf _ = ff at *
    by_cases h12 : 12 < mm
    · have d12 : decide ((12 : Int) < (mm : Int)) = true := decide_eq_true (by omega)
      rw [if_pos h12] at HV
      gi_wp2
      have hs : Alters (fun k => k = w.heap.size + 1) W (W.setCell ⟨w.heap.size + 1, 0, none⟩ (.int .i64 22)) := (Alters.refl (p := fun k => k = w.heap.size + 1) W).set (q := ⟨w.heap.size + 1, 0, none⟩) (fun _ => rfl) _
      have hdef2 : (W.setCell ⟨w.heap.size + 1, 0, none⟩ (.int .i64 22)).heap[d]? = some (.deferred (some [])) := (Below.heap_setCell _ _ _ _ (by have := HZ.out; simp; omega)).trans hdef
      refine ⟨by simp, .inl ⟨_, _, rfl, run_takeDeferred hdef2, ?_⟩⟩
      have hA3 : Alters (fun k => k = d) (W.setCell ⟨w.heap.size + 1, 0, none⟩ (.int .i64 22)) ((W.setCell ⟨w.heap.size + 1, 0, none⟩ (.int .i64 22)).putObj d (.deferred none)) := alters_putObj _ _ _ rfl
      have hb := hA3.blk (HA.out.res.set 0 (.int .i64 22)) (by have := HZ.out; omega)
      have c9 := hb.cell 0 rfl
      have hqq := (HA.out.quiet.then hs (fun i hi e => by omega)).then hA3 (fun i hi e => by have := HZ.out; omega)
      generalize (W.setCell _ _).putObj d _ = W9 at *
      refine ⟨.int .i64 22, by simp [results, Tryd.results70, go_sem, c9], by rw [HV.out], hqq⟩
    · have d12 : decide ((12 : Int) < (mm : Int)) = false := decide_eq_false (by omega)
      rw [if_neg h12] at HV
      gi_wp2
      have hs : Alters (fun k => k = w.heap.size + 1) W (W.setCell ⟨w.heap.size + 1, 0, none⟩ (.int .i64 ff)) := (Alters.refl (p := fun k => k = w.heap.size + 1) W).set (q := ⟨w.heap.size + 1, 0, none⟩) (fun _ => rfl) _
      have hdef2 : (W.setCell ⟨w.heap.size + 1, 0, none⟩ (.int .i64 ff)).heap[d]? = some (.deferred (some [])) := (Below.heap_setCell _ _ _ _ (by have := HZ.out; simp; omega)).trans hdef
      refine ⟨by simp, .inl ⟨_, _, rfl, run_takeDeferred hdef2, ?_⟩⟩
      have hA3 : Alters (fun k => k = d) (W.setCell ⟨w.heap.size + 1, 0, none⟩ (.int .i64 ff)) ((W.setCell ⟨w.heap.size + 1, 0, none⟩ (.int .i64 ff)).putObj d (.deferred none)) := alters_putObj _ _ _ rfl
      have hb := hA3.blk (HA.out.res.set 0 (.int .i64 ff)) (by have := HZ.out; omega)
      have c9 := hb.cell 0 rfl
      have hqq := (HA.out.quiet.then hs (fun i hi e => by omega)).then hA3 (fun i hi e => by have := HZ.out; omega)
      generalize (W.setCell _ _).putObj d _ = W9 at *
      refine ⟨.int .i64 ff, by simp [results, Tryd.results70, go_sem, c9], by rw [HV.out], hqq⟩
  case stop =>
    rintro d c pre x rest D W hd hL ⟨rfl, ⟨m, f, hA⟩, hbad⟩ hDd hdef
    have c1 := hA.res.cell 0 rfl
    have HA := Go.Lib.hid hA
    have hV : checkF (Ft.pl tt) = 23 := by
      rw [HV.out, if_pos]
      simp at hbad
      have := congrArg List.length hL
      simp at this
      omega
    clear hA HV hbad
    gi_wp2
    refine ⟨by simp, .inl ⟨_, _, rfl, run_takeDeferred hdef, ?_⟩⟩
    have hA3 : Alters (fun k => k = d) W (W.putObj d (.deferred none)) := alters_putObj _ _ _ rfl
    have hb := hA3.blk HA.out.res (by have := HZ.out; omega)
    have c9 := hb.cell 0 rfl
    have hqq := HA.out.quiet.then hA3 (fun i hi e => by have := HZ.out; omega)
    generalize W.putObj d _ = W9 at *
    refine ⟨.int .i64 23, by simp [results, Tryd.results70, go_sem, c9], by rw [hV], hqq⟩
end Go.Proofs.YtnpcakakjhiboaaDoor
