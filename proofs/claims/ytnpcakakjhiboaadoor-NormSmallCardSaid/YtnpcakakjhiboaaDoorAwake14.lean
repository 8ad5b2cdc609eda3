/- The law's awake: its example holds. No condition. -/
import Derived.Test.YtnpcakakjhiboaaDoorCore
import Derived.Test.YtnpcakakjhiboaaDoorPlain
import Derived.Test.YtnpcakakjhiboaaDoorNfP
namespace Go.Proofs.YtnpcakakjhiboaaDoor
open Go.RowKit Go.Lo Go.WideShapes

/-- What stands: the two spans, and the formulas that were laid down. -/
structure AwAt (w : World) (L : List (Nat × Ft × Fm)) (W : World) : Prop where
  b1 : Blk W w.heap.size #[.int .i64 0, .int .i64 0] 25
  b2 : Blk W (w.heap.size + 1) #[.int .i64 0, .int .i64 3] 25
  boxes : ∀ p, p ∈ L → Blk W p.1 (Ft.cells p.2.1).toArray 28 ∧ Ft.pl p.2.1 = p.2.2 ∧ In (fun k => w.heap.size ≤ k) W p.2.1
  shapes : Shapes W
  quiet : Quiet w W
  pos : 0 < w.heap.size

theorem AwAt.keep {w : World} {L : List (Nat × Ft × Fm)} {W W' : World} (h : AwAt w L W) (hq : Quiet W W') : AwAt w L W' :=
  ⟨hq.blk h.b1 (by simp), hq.blk h.b2 (by simp), fun p hp => ⟨hq.blk (h.boxes p hp).1 (by simp), (h.boxes p hp).2.1, (h.boxes p hp).2.2.quiet hq⟩, h.shapes.keep hq (by simp), h.quiet.trans hq, h.pos⟩

theorem AwAt.span1 {w : World} {L : List (Nat × Ft × Fm)} {W : World} (h : AwAt w L W) : W.cell? ⟨w.heap.size, 0, none⟩ = some (.int .i64 0) ∧ W.cell? ⟨w.heap.size, 1, none⟩ = some (.int .i64 0) := ⟨h.b1.cell 0 rfl, h.b1.cell 1 rfl⟩
theorem AwAt.span2 {w : World} {L : List (Nat × Ft × Fm)} {W : World} (h : AwAt w L W) : W.cell? ⟨w.heap.size + 1, 0, none⟩ = some (.int .i64 0) ∧ W.cell? ⟨w.heap.size + 1, 1, none⟩ = some (.int .i64 3) := ⟨h.b2.cell 0 rfl, h.b2.cell 1 rfl⟩

theorem AwAt.store {w : World} {L : List (Nat × Ft × Fm)} {W : World} {b : Nat} {t : Ft} {f : Fm} (h : AwAt w L W) (h0 : w.heap.size ≤ b) (hb : Blk W b #[.int .i64 0, .string ⟨#[]⟩, .int .i64 0, .int .i64 0, .int .i64 0, .int .i64 0, .slice none 0 0] 28) (hp : Ft.pl t = f) (hi : In (fun k => w.heap.size ≤ k) W t) (hf : ∀ n, n ∈ f.pre → n.top.op ≠ 0) (hL : ∀ p, p ∈ L → ∀ n, n ∈ p.2.2.pre → n.top.op ≠ 0) :
    AwAt w ((b, t, f) :: L) (((((((W.setCell ⟨b, 0, none⟩ (.int .i64 t.top.n.op)).setCell ⟨b, 1, none⟩ (.string t.top.n.nm)).setCell ⟨b, 2, none⟩ (.int .i64 t.top.n.cmp)).setCell ⟨b, 3, none⟩ (.int .i64 t.top.n.val)).setCell ⟨b, 4, none⟩ (.int .i64 t.top.n.lo)).setCell ⟨b, 5, none⟩ (.int .i64 t.top.n.hi)).setCell ⟨b, 6, none⟩ (.slice t.top.a t.kids.length t.top.cap)) := by
  have hs7 := set7 W b (.int .i64 t.top.n.op) (.string t.top.n.nm) (.int .i64 t.top.n.cmp) (.int .i64 t.top.n.val) (.int .i64 t.top.n.lo) (.int .i64 t.top.n.hi) (.slice t.top.a t.kids.length t.top.cap)
  have n1 : b ≠ w.heap.size := by
    rintro rfl
    have h1 := h.b1
    unfold Blk at h1 hb
    rw [hb] at h1
    simp at h1
  have n2 : b ≠ w.heap.size + 1 := by
    rintro rfl
    have h1 := h.b2
    unfold Blk at h1 hb
    rw [hb] at h1
    simp at h1
  refine ⟨hs7.blk h.b1 (fun e => n1 e.symm), hs7.blk h.b2 (fun e => n2 e.symm), fun p hq => ?_, h.shapes.keep hs7 (fun e => by have := h.pos; omega), h.quiet.then hs7 (fun i hi e => by omega), h.pos⟩
  rcases List.mem_cons.1 hq with rfl | hq
  · exact ⟨blk7 hb _ _ _ _ _ _ _, hp, ((hi.avoid hb (pl_ops hp hf)).keep hs7 (fun k hk _ e => hk.2 e)).mono (fun k _ hk => hk.1)⟩
  · obtain ⟨g1, g2, g3⟩ := h.boxes p hq
    have hn := pl_ops g2 (hL p hq)
    have hne : p.1 ≠ b := At0 (boxed_at g1) hb (hn _ (by cases p.2.1; simp [Tr.pre]))
    exact ⟨hs7.blk g1 hne, g2, ((g3.avoid hb hn).keep hs7 (fun k hk _ e => hk.2 e)).mono (fun k _ hk => hk.1)⟩

theorem ops_one {b : Nat} {t : Ft} : ∀ p, p ∈ [(b, t, exF)] → ∀ n, n ∈ p.2.2.pre → n.top.op ≠ 0 := fun p hp => by
  obtain rfl : p = (b, t, exF) := by simpa using hp
  exact ops_exF

theorem ops_exG : ∀ n, n ∈ exG.pre → n.top.op ≠ 0 := fun n hn h => by
  have := nf_exG.sound n hn
  simp [wrong, h] at this

theorem field_op (t : Ft) (w : World) : Sem.run Tryd.prog (Instr.field 28 (Ft.val t) 0) w = .ok (.int .i64 t.top.n.op) w := by kernel_rfl

set_option maxRecDepth 100000 in
set_option maxHeartbeats 4000000 in
theorem awake_walk (w : World) (hS : Shapes w) : Calls Tryd.prog 23 #[] w (Said (.bool true) w) := by
  go_enter Tryd.func23, Tryd.ntmps23
  go_upto_region 3 with (fail)
  have hq : Quiet w ((w.alloc (.cells #[.int .i64 0, .int .i64 0] 25)).alloc (.cells #[.int .i64 0, .int .i64 3] 25)) := ((Alters.refl _).alloc _).alloc _
  have HA : Hid (AwAt w [] ((w.alloc (.cells #[.int .i64 0, .int .i64 0] 25)).alloc (.cells #[.int .i64 0, .int .i64 3] 25))) := ⟨(Blk.new _ _ _).alloc _, alloc2 _ _ _ _, by simp, hS.keep hq (by simp), hq, hS.lt⟩
  clear hq hS
  generalize (w.alloc _).alloc _ = w1 at *
  refine wp_region_wants (by kernel_rfl) (by kernel_rfl) (by kernel_rfl) (by kernel_rfl) (AwAt w []) (fun _ _ hq h => h.keep hq) [Want.is (.agg #[.int .i64 0, .int .i64 3]), Want.is (.agg #[.int .i64 0, .int .i64 0]), Want.fm (fun k => w.heap.size ≤ k) (exName 97), Want.fm (fun k => w.heap.size ≤ k) (exName 98), Want.fm (fun k => w.heap.size ≤ k) (exTwo 7 0 0 (exName 97) (exName 98)), Want.fm (fun k => w.heap.size ≤ k) (exOne 10 0 3 (exTwo 7 0 0 (exName 97) (exName 98))), Want.box w.heap.size #[.int .i64 0, .string ⟨#[]⟩, .int .i64 0, .int .i64 0, .int .i64 0, .int .i64 0, .slice none 0 0] 28] (HA.out.keep ((Alters.refl _).drew)) (by decide) ?_
  refine Steps.cons ?_ (Steps.cons ?_ (Steps.cons ?_ (Steps.cons ?_ (Steps.cons ?_ (Steps.cons ?_ (Steps.cons ?_ (Steps.last ?_)))))))
  · intro u W K hS hF hK
    simp only [putsFrom, Act.put, Nat.reduceAdd, List.setIfInBounds_toArray, List.set_cons_zero, List.set_cons_succ] at hK ⊢
    clear hF
    obtain ⟨p0, p1⟩ := hS.span2
    go_simp
    exact hK.out _ _ (Alters.refl _) rfl
  · intro u W K hS hF hK
    simp only [putsFrom, Act.put, Nat.reduceAdd, List.setIfInBounds_toArray, List.set_cons_zero, List.set_cons_succ] at hK ⊢
    clear hF
    obtain ⟨p0, p1⟩ := hS.span1
    go_simp
    exact hK.out _ _ (Alters.refl _) rfl
  · intro u W K hS hF hK
    simp only [putsFrom, Act.put, Nat.reduceAdd, List.setIfInBounds_toArray, List.set_cons_zero, List.set_cons_succ] at hK ⊢
    clear hF
    go_simp
    refine (name_v (fun k => w.heap.size ≤ k) ⟨#[97]⟩ W).mono ?_
    rintro e W2 ⟨v, rfl, hm, hq⟩
    exact hK.out _ _ hq hm
  · intro u W K hS hF hK
    simp only [putsFrom, Act.put, Nat.reduceAdd, List.setIfInBounds_toArray, List.set_cons_zero, List.set_cons_succ] at hK ⊢
    clear hF
    go_simp
    refine (name_v (fun k => w.heap.size ≤ k) ⟨#[98]⟩ W).mono ?_
    rintro e W2 ⟨v, rfl, hm, hq⟩
    exact hK.out _ _ hq hm
  · intro u W K hS hF hK
    have f1 : u 1 = .agg #[.int .i64 0, .int .i64 0] := hF 1 (by kernel_rfl)
    have f2 : MadeIn (fun k => w.heap.size ≤ k) (exName 97) (u 2) W := hF 2 (by kernel_rfl)
    have f3 : MadeIn (fun k => w.heap.size ≤ k) (exName 98) (u 3) W := hF 3 (by kernel_rfl)
    simp only [putsFrom, Act.put, Nat.reduceAdd, List.setIfInBounds_toArray, List.set_cons_zero, List.set_cons_succ, f1] at hK ⊢
    clear hF
    go_simp
    refine (two_v 7 0 0 (fun k hk => Nat.le_trans hS.quiet.size hk) f2 f3).mono ?_
    rintro e W2 ⟨v, rfl, hm, hq⟩
    exact hK.out _ _ hq hm
  · intro u W K hS hF hK
    have f0 : u 0 = .agg #[.int .i64 0, .int .i64 3] := hF 0 (by kernel_rfl)
    have f4 : MadeIn (fun k => w.heap.size ≤ k) (exTwo 7 0 0 (exName 97) (exName 98)) (u 4) W := hF 4 (by kernel_rfl)
    simp only [putsFrom, Act.put, Nat.reduceAdd, List.setIfInBounds_toArray, List.set_cons_zero, List.set_cons_succ, f0] at hK ⊢
    clear hF
    go_simp
    refine (one_v 10 0 3 (fun k hk => Nat.le_trans hS.quiet.size hk) f4).mono ?_
    rintro e W2 ⟨v, rfl, hm, hq⟩
    exact hK.out _ _ hq hm
  · intro u W K hS hF hK
    simp only [putsFrom, Act.put, Nat.reduceAdd, List.setIfInBounds_toArray, List.set_cons_zero, List.set_cons_succ] at hK ⊢
    clear hF
    go_simp
    exact hK.out _ _ ((Alters.refl _).alloc _) ⟨_, rfl, hS.quiet.size, Blk.new _ _ _⟩
  · intro u W hS hF
    have f5 : MadeIn (fun k => w.heap.size ≤ k) (exF) (u 5) W := hF 5 (by simp)
    have f6 : ∃ b, u 6 = .pointer (some ⟨b, 0, none⟩) ∧ w.heap.size ≤ b ∧ Blk W b #[.int .i64 0, .string ⟨#[]⟩, .int .i64 0, .int .i64 0, .int .i64 0, .int .i64 0, .slice none 0 0] 28 := hF 6 (by simp)
    simp only [putsFrom, Act.put, Nat.reduceAdd, List.setIfInBounds_toArray, List.set_cons_zero, List.set_cons_succ]
    clear hF
    obtain ⟨t9, e9, hp9, hi9⟩ := f5
    obtain ⟨b9, eb9, hb0, hb9⟩ := f6
    simp only [e9, eb9]
    clear e9 eb9
    unfold Ft.val
    obtain ⟨r0, r1, r2, r3, r4, r5, r6⟩ := seven_cells hb9
    have fr := fun i => hb9.free i
    have hst := hS.store hb0 hb9 hp9 hi9 ops_exF (by simp)
    have HP9 := Go.Lib.hid hp9
    have HST := Go.Lib.hid hst
    clear hst hS hi9 hp9
    go_simp
    clear r0 r1 r2 r3 r4 r5 r6 fr hb0 hb9
    generalize World.setCell _ ⟨b9, 6, none⟩ _ = w9 at *
    go_upto_region 4 with (fail)
    
    refine wp_region_wants (by kernel_rfl) (by kernel_rfl) (by kernel_rfl) (by kernel_rfl) (AwAt w [(b9, t9, exF)]) (fun _ _ hq h => h.keep hq) [Want.is (.agg #[.int .i64 0, .int .i64 0]), Want.is (.agg #[.int .i64 0, .int .i64 3]), Want.is (.agg #[.int .i64 0, .int .i64 0]), Want.fm (fun k => w.heap.size ≤ k) (exName 97), Want.is (.agg #[.int .i64 0, .int .i64 0]), Want.fm (fun k => w.heap.size ≤ k) (exName 98), Want.fm (fun k => w.heap.size ≤ k) (exOne 4 0 0 (exName 98)), Want.fm (fun k => w.heap.size ≤ k) (exTwo 5 0 0 (exName 97) (exOne 4 0 0 (exName 98))), Want.fm (fun k => w.heap.size ≤ k) (exOne 9 0 3 (exTwo 5 0 0 (exName 97) (exOne 4 0 0 (exName 98)))), Want.fm (fun k => w.heap.size ≤ k) (exOne 4 0 0 (exOne 9 0 3 (exTwo 5 0 0 (exName 97) (exOne 4 0 0 (exName 98))))), Want.box w.heap.size #[.int .i64 0, .string ⟨#[]⟩, .int .i64 0, .int .i64 0, .int .i64 0, .int .i64 0, .slice none 0 0] 28] (HST.out.keep ((Alters.refl _).drew)) (by decide) ?_
    refine Steps.cons ?_ (Steps.cons ?_ (Steps.cons ?_ (Steps.cons ?_ (Steps.cons ?_ (Steps.cons ?_ (Steps.cons ?_ (Steps.cons ?_ (Steps.cons ?_ (Steps.cons ?_ (Steps.cons ?_ (Steps.last ?_)))))))))))
    · intro u W K hS hF hK
      simp only [putsFrom, Act.put, Nat.reduceAdd, List.setIfInBounds_toArray, List.set_cons_zero, List.set_cons_succ] at hK ⊢
      clear hF
      obtain ⟨p0, p1⟩ := hS.span1
      go_simp
      exact hK.out _ _ (Alters.refl _) rfl
    · intro u W K hS hF hK
      simp only [putsFrom, Act.put, Nat.reduceAdd, List.setIfInBounds_toArray, List.set_cons_zero, List.set_cons_succ] at hK ⊢
      clear hF
      obtain ⟨p0, p1⟩ := hS.span2
      go_simp
      exact hK.out _ _ (Alters.refl _) rfl
    · intro u W K hS hF hK
      simp only [putsFrom, Act.put, Nat.reduceAdd, List.setIfInBounds_toArray, List.set_cons_zero, List.set_cons_succ] at hK ⊢
      clear hF
      obtain ⟨p0, p1⟩ := hS.span1
      go_simp
      exact hK.out _ _ (Alters.refl _) rfl
    · intro u W K hS hF hK
      simp only [putsFrom, Act.put, Nat.reduceAdd, List.setIfInBounds_toArray, List.set_cons_zero, List.set_cons_succ] at hK ⊢
      clear hF
      go_simp
      refine (name_v (fun k => w.heap.size ≤ k) ⟨#[97]⟩ W).mono ?_
      rintro e W2 ⟨v, rfl, hm, hq⟩
      exact hK.out _ _ hq hm
    · intro u W K hS hF hK
      simp only [putsFrom, Act.put, Nat.reduceAdd, List.setIfInBounds_toArray, List.set_cons_zero, List.set_cons_succ] at hK ⊢
      clear hF
      obtain ⟨p0, p1⟩ := hS.span1
      go_simp
      exact hK.out _ _ (Alters.refl _) rfl
    · intro u W K hS hF hK
      simp only [putsFrom, Act.put, Nat.reduceAdd, List.setIfInBounds_toArray, List.set_cons_zero, List.set_cons_succ] at hK ⊢
      clear hF
      go_simp
      refine (name_v (fun k => w.heap.size ≤ k) ⟨#[98]⟩ W).mono ?_
      rintro e W2 ⟨v, rfl, hm, hq⟩
      exact hK.out _ _ hq hm
    · intro u W K hS hF hK
      have f4 : u 4 = .agg #[.int .i64 0, .int .i64 0] := hF 4 (by kernel_rfl)
      have f5 : MadeIn (fun k => w.heap.size ≤ k) (exName 98) (u 5) W := hF 5 (by kernel_rfl)
      simp only [putsFrom, Act.put, Nat.reduceAdd, List.setIfInBounds_toArray, List.set_cons_zero, List.set_cons_succ, f4] at hK ⊢
      clear hF
      go_simp
      refine (one_v 4 0 0 (fun k hk => Nat.le_trans hS.quiet.size hk) f5).mono ?_
      rintro e W2 ⟨v, rfl, hm, hq⟩
      exact hK.out _ _ hq hm
    · intro u W K hS hF hK
      have f2 : u 2 = .agg #[.int .i64 0, .int .i64 0] := hF 2 (by kernel_rfl)
      have f3 : MadeIn (fun k => w.heap.size ≤ k) (exName 97) (u 3) W := hF 3 (by kernel_rfl)
      have f6 : MadeIn (fun k => w.heap.size ≤ k) (exOne 4 0 0 (exName 98)) (u 6) W := hF 6 (by kernel_rfl)
      simp only [putsFrom, Act.put, Nat.reduceAdd, List.setIfInBounds_toArray, List.set_cons_zero, List.set_cons_succ, f2] at hK ⊢
      clear hF
      go_simp
      refine (two_v 5 0 0 (fun k hk => Nat.le_trans hS.quiet.size hk) f3 f6).mono ?_
      rintro e W2 ⟨v, rfl, hm, hq⟩
      exact hK.out _ _ hq hm
    · intro u W K hS hF hK
      have f1 : u 1 = .agg #[.int .i64 0, .int .i64 3] := hF 1 (by kernel_rfl)
      have f7 : MadeIn (fun k => w.heap.size ≤ k) (exTwo 5 0 0 (exName 97) (exOne 4 0 0 (exName 98))) (u 7) W := hF 7 (by kernel_rfl)
      simp only [putsFrom, Act.put, Nat.reduceAdd, List.setIfInBounds_toArray, List.set_cons_zero, List.set_cons_succ, f1] at hK ⊢
      clear hF
      go_simp
      refine (one_v 9 0 3 (fun k hk => Nat.le_trans hS.quiet.size hk) f7).mono ?_
      rintro e W2 ⟨v, rfl, hm, hq⟩
      exact hK.out _ _ hq hm
    · intro u W K hS hF hK
      have f0 : u 0 = .agg #[.int .i64 0, .int .i64 0] := hF 0 (by kernel_rfl)
      have f8 : MadeIn (fun k => w.heap.size ≤ k) (exOne 9 0 3 (exTwo 5 0 0 (exName 97) (exOne 4 0 0 (exName 98)))) (u 8) W := hF 8 (by kernel_rfl)
      simp only [putsFrom, Act.put, Nat.reduceAdd, List.setIfInBounds_toArray, List.set_cons_zero, List.set_cons_succ, f0] at hK ⊢
      clear hF
      go_simp
      refine (one_v 4 0 0 (fun k hk => Nat.le_trans hS.quiet.size hk) f8).mono ?_
      rintro e W2 ⟨v, rfl, hm, hq⟩
      exact hK.out _ _ hq hm
    · intro u W K hS hF hK
      simp only [putsFrom, Act.put, Nat.reduceAdd, List.setIfInBounds_toArray, List.set_cons_zero, List.set_cons_succ] at hK ⊢
      clear hF
      go_simp
      exact hK.out _ _ ((Alters.refl _).alloc _) ⟨_, rfl, hS.quiet.size, Blk.new _ _ _⟩
    · intro u W hS hF
      have f9 : MadeIn (fun k => w.heap.size ≤ k) (exG) (u 9) W := hF 9 (by simp)
      have f10 : ∃ b, u 10 = .pointer (some ⟨b, 0, none⟩) ∧ w.heap.size ≤ b ∧ Blk W b #[.int .i64 0, .string ⟨#[]⟩, .int .i64 0, .int .i64 0, .int .i64 0, .int .i64 0, .slice none 0 0] 28 := hF 10 (by simp)
      simp only [putsFrom, Act.put, Nat.reduceAdd, List.setIfInBounds_toArray, List.set_cons_zero, List.set_cons_succ]
      clear hF
      obtain ⟨t8, e9, hp8, hi9⟩ := f9
      obtain ⟨b8, eb9, hb0, hb9⟩ := f10
      simp only [e9, eb9]
      clear e9 eb9
      unfold Ft.val
      obtain ⟨r0, r1, r2, r3, r4, r5, r6⟩ := seven_cells hb9
      have fr := fun i => hb9.free i
      have hst := hS.store hb0 hb9 hp8 hi9 ops_exG ops_one
      have HP8 := Go.Lib.hid hp8
      clear HST
      have HST := Go.Lib.hid hst
      clear hst hS hi9 hp8
      go_simp
      clear r0 r1 r2 r3 r4 r5 r6 fr hb0 hb9
      generalize World.setCell _ ⟨b8, 6, none⟩ _ = w8 at *
      go_upto_region 5 with (fail)
      
      have HZ9 := Go.Lib.hid (Nat.le_of_eq (size_of HP9.out))
      have HZ8 := Go.Lib.hid (Nat.le_of_eq (size_of HP8.out))
      refine wp_region_wants (by kernel_rfl) (by kernel_rfl) (by kernel_rfl) (by kernel_rfl) (AwAt w [(b8, t8, exG), (b9, t9, exF)]) (fun _ _ hq h => h.keep hq) [Want.is (Ft.val t9), Want.fm (fun k => w.heap.size ≤ k) exG, Want.is (Ft.val t8), Want.is (.bool true), Want.is (.bool true), Want.is (Ft.val t8), Want.is (.bool true), Want.is (.bool true), Want.is (.bool true), Want.is (Ft.val t9), Want.is (.bool false), Want.is (.bool true), Want.is (.bool true), Want.is (.bool true), Want.is (.agg #[.int .i64 1, .int .i64 2]), Want.is (.agg #[.int .i64 2, .string ⟨#[]⟩, .int .i64 0, .int .i64 0, .int .i64 0, .int .i64 0, .slice none 0 0]), Want.fm (fun k => w.heap.size ≤ k) (exName 97), Want.fm (fun k => w.heap.size ≤ k) exH, Want.fm (fun k => w.heap.size ≤ k) (leaf 2), Want.is (.int .i64 2), Want.is (.bool true), Want.is (.bool true)] (HST.out.keep ((Alters.refl _).drew)) (by decide) ?_
      refine Steps.cons ?_ (Steps.cons ?_ (Steps.cons ?_ (Steps.cons ?_ (Steps.cons ?_ (Steps.cons ?_ (Steps.cons ?_ (Steps.cons ?_ (Steps.cons ?_ (Steps.cons ?_ (Steps.cons ?_ (Steps.cons ?_ (Steps.cons ?_ (Steps.cons ?_ (Steps.cons ?_ (Steps.cons ?_ (Steps.cons ?_ (Steps.cons ?_ (Steps.cons ?_ (Steps.cons ?_ (Steps.cons ?_ (Steps.cons ?_ (Steps.last ?_))))))))))))))))))))))
      · intro u W K hS hF hK
        simp only [putsFrom, Act.put, Nat.reduceAdd, List.setIfInBounds_toArray, List.set_cons_zero, List.set_cons_succ] at hK ⊢
        clear hF
        obtain ⟨x0, x1, x2, x3, x4, x5, x6⟩ := (boxed_at (hS.boxes (b9, t9, exF) (by simp)).1).seven
        simp only [Nat.zero_add] at x0 x1 x2 x3 x4 x5 x6
        go_simp
        exact hK.out _ _ (Alters.refl _) rfl
      · intro u W K hS hF hK
        have f0 : u 0 = Ft.val t9 := hF 0 (by kernel_rfl)
        simp only [putsFrom, Act.put, Nat.reduceAdd, List.setIfInBounds_toArray, List.set_cons_zero, List.set_cons_succ, f0] at hK ⊢
        clear hF
        go_simp
        refine (normOf_v (fun k => w.heap.size ≤ k) t9 W (hS.boxes (b9, t9, exF) (by simp)).2.2 hS.shapes (Nat.le_trans HZ9.out (by decide)) (fun k hk => Nat.le_trans hS.quiet.size hk)).mono ?_
        rintro e W2 ⟨v, rfl, hm, hq⟩
        exact hK.out _ _ hq (by rw [HP9.out, normOf_exF] at hm; exact hm)
      · intro u W K hS hF hK
        simp only [putsFrom, Act.put, Nat.reduceAdd, List.setIfInBounds_toArray, List.set_cons_zero, List.set_cons_succ] at hK ⊢
        clear hF
        obtain ⟨x0, x1, x2, x3, x4, x5, x6⟩ := (boxed_at (hS.boxes (b8, t8, exG) (by simp)).1).seven
        simp only [Nat.zero_add] at x0 x1 x2 x3 x4 x5 x6
        go_simp
        exact hK.out _ _ (Alters.refl _) rfl
      · intro u W K hS hF hK
        have f1 : MadeIn (fun k => w.heap.size ≤ k) exG (u 1) W := hF 1 (by kernel_rfl)
        have f2 : u 2 = Ft.val t8 := hF 2 (by kernel_rfl)
        simp only [putsFrom, Act.put, Nat.reduceAdd, List.setIfInBounds_toArray, List.set_cons_zero, List.set_cons_succ, f2] at hK ⊢
        clear hF
        obtain ⟨ta, ea, hpa, hia⟩ := f1
        simp only [ea] at hK ⊢
        have hza := size_of hpa
        go_simp
        refine (same9_walk (fun k => w.heap.size ≤ k) ta t8 W hia (hS.boxes (b8, t8, exG) (by simp)).2.2 (hza ▸ (by decide))).mono ?_
        rintro e W2 ⟨rfl, hq⟩
        rw [hpa, HP8.out, same_self]
        exact hK.out _ _ hq rfl
      · intro u W K hS hF hK
        have f3 : u 3 = .bool true := hF 3 (by kernel_rfl)
        simp only [putsFrom, Act.put, Nat.reduceAdd, List.setIfInBounds_toArray, List.set_cons_zero, List.set_cons_succ, f3] at hK ⊢
        clear hF
        go_simp
        exact hK.out _ _ (Alters.refl _) rfl
      · intro u W K hS hF hK
        have f4 : u 4 = .bool true := hF 4 (by kernel_rfl)
        simp only [putsFrom, Act.put, Nat.reduceAdd, List.setIfInBounds_toArray, List.set_cons_zero, List.set_cons_succ, f4] at hK ⊢
        clear hF
        obtain ⟨x0, x1, x2, x3, x4, x5, x6⟩ := (boxed_at (hS.boxes (b8, t8, exG) (by simp)).1).seven
        simp only [Nat.zero_add] at x0 x1 x2 x3 x4 x5 x6
        go_simp
        exact hK.out _ _ (Alters.refl _) rfl
      · intro u W K hS hF hK
        have f4 : u 4 = .bool true := hF 4 (by kernel_rfl)
        have f5 : u 5 = Ft.val t8 := hF 5 (by kernel_rfl)
        simp only [putsFrom, Act.put, Nat.reduceAdd, List.setIfInBounds_toArray, List.set_cons_zero, List.set_cons_succ, f4, f5] at hK ⊢
        clear hF
        go_simp
        refine (core_walk (fun k => w.heap.size ≤ k) t8 W (hS.boxes (b8, t8, exG) (by simp)).2.2 hS.shapes (Nat.le_trans HZ8.out (by decide))).mono ?_
        rintro e W2 ⟨rfl, hq⟩
        exact hK.out _ _ hq (show Value.bool (core (Ft.pl t8)) = .bool true by rw [HP8.out, core_exG])
      · intro u W K hS hF hK
        have f4 : u 4 = .bool true := hF 4 (by kernel_rfl)
        have f6 : u 6 = .bool true := hF 6 (by kernel_rfl)
        simp only [putsFrom, Act.put, Nat.reduceAdd, List.setIfInBounds_toArray, List.set_cons_zero, List.set_cons_succ, f4, f6] at hK ⊢
        clear hF
        go_simp
        exact hK.out _ _ (Alters.refl _) rfl
      · intro u W K hS hF hK
        have f7 : u 7 = .bool true := hF 7 (by kernel_rfl)
        simp only [putsFrom, Act.put, Nat.reduceAdd, List.setIfInBounds_toArray, List.set_cons_zero, List.set_cons_succ, f7] at hK ⊢
        clear hF
        go_simp
        exact hK.out _ _ (Alters.refl _) rfl
      · intro u W K hS hF hK
        have f8 : u 8 = .bool true := hF 8 (by kernel_rfl)
        simp only [putsFrom, Act.put, Nat.reduceAdd, List.setIfInBounds_toArray, List.set_cons_zero, List.set_cons_succ, f8] at hK ⊢
        clear hF
        obtain ⟨x0, x1, x2, x3, x4, x5, x6⟩ := (boxed_at (hS.boxes (b9, t9, exF) (by simp)).1).seven
        simp only [Nat.zero_add] at x0 x1 x2 x3 x4 x5 x6
        go_simp
        exact hK.out _ _ (Alters.refl _) rfl
      · intro u W K hS hF hK
        have f8 : u 8 = .bool true := hF 8 (by kernel_rfl)
        have f9 : u 9 = Ft.val t9 := hF 9 (by kernel_rfl)
        simp only [putsFrom, Act.put, Nat.reduceAdd, List.setIfInBounds_toArray, List.set_cons_zero, List.set_cons_succ, f8, f9] at hK ⊢
        clear hF
        go_simp
        refine (core_walk (fun k => w.heap.size ≤ k) t9 W (hS.boxes (b9, t9, exF) (by simp)).2.2 hS.shapes (Nat.le_trans HZ9.out (by decide))).mono ?_
        rintro e W2 ⟨rfl, hq⟩
        exact hK.out _ _ hq (show Value.bool (core (Ft.pl t9)) = .bool false by rw [HP9.out, core_exF])
      · intro u W K hS hF hK
        have f8 : u 8 = .bool true := hF 8 (by kernel_rfl)
        have f10 : u 10 = .bool false := hF 10 (by kernel_rfl)
        simp only [putsFrom, Act.put, Nat.reduceAdd, List.setIfInBounds_toArray, List.set_cons_zero, List.set_cons_succ, f8, f10] at hK ⊢
        clear hF
        go_simp
        exact hK.out _ _ (Alters.refl _) rfl
      · intro u W K hS hF hK
        have f8 : u 8 = .bool true := hF 8 (by kernel_rfl)
        have f11 : u 11 = .bool true := hF 11 (by kernel_rfl)
        simp only [putsFrom, Act.put, Nat.reduceAdd, List.setIfInBounds_toArray, List.set_cons_zero, List.set_cons_succ, f8, f11] at hK ⊢
        clear hF
        go_simp
        exact hK.out _ _ (Alters.refl _) rfl
      · intro u W K hS hF hK
        have f12 : u 12 = .bool true := hF 12 (by kernel_rfl)
        simp only [putsFrom, Act.put, Nat.reduceAdd, List.setIfInBounds_toArray, List.set_cons_zero, List.set_cons_succ, f12] at hK ⊢
        clear hF
        go_simp
        exact hK.out _ _ (Alters.refl _) rfl
      · intro u W K hS hF hK
        have f13 : u 13 = .bool true := hF 13 (by kernel_rfl)
        simp only [putsFrom, Act.put, Nat.reduceAdd, List.setIfInBounds_toArray, List.set_cons_zero, List.set_cons_succ, f13] at hK ⊢
        clear hF
        go_simp
        exact hK.out _ _ (Alters.refl _) rfl
      · intro u W K hS hF hK
        have f13 : u 13 = .bool true := hF 13 (by kernel_rfl)
        simp only [putsFrom, Act.put, Nat.reduceAdd, List.setIfInBounds_toArray, List.set_cons_zero, List.set_cons_succ, f13] at hK ⊢
        clear hF
        go_simp
        exact hK.out _ _ (Alters.refl _) rfl
      · intro u W K hS hF hK
        have f13 : u 13 = .bool true := hF 13 (by kernel_rfl)
        simp only [putsFrom, Act.put, Nat.reduceAdd, List.setIfInBounds_toArray, List.set_cons_zero, List.set_cons_succ, f13] at hK ⊢
        clear hF
        go_simp
        refine (name_v (fun k => w.heap.size ≤ k) ⟨#[97]⟩ W).mono ?_
        rintro e W2 ⟨v, rfl, hm, hq⟩
        exact hK.out _ _ hq hm
      · intro u W K hS hF hK
        have f13 : u 13 = .bool true := hF 13 (by kernel_rfl)
        have f14 : u 14 = .agg #[.int .i64 1, .int .i64 2] := hF 14 (by kernel_rfl)
        have f15 : u 15 = .agg #[.int .i64 2, .string ⟨#[]⟩, .int .i64 0, .int .i64 0, .int .i64 0, .int .i64 0, .slice none 0 0] := hF 15 (by kernel_rfl)
        have f16 : MadeIn (fun k => w.heap.size ≤ k) (exName 97) (u 16) W := hF 16 (by kernel_rfl)
        simp only [putsFrom, Act.put, Nat.reduceAdd, List.setIfInBounds_toArray, List.set_cons_zero, List.set_cons_succ, f13, f14, f15] at hK ⊢
        clear hF
        go_simp
        refine (two_v 11 1 2 (fun k hk => Nat.le_trans hS.quiet.size hk) (show MadeIn (fun k => w.heap.size ≤ k) (leaf 2) (.agg #[.int .i64 2, .string ⟨#[]⟩, .int .i64 0, .int .i64 0, .int .i64 0, .int .i64 0, .slice none 0 0]) W from ⟨.nd ⟨{ z0 with op := 2 }, none, 0⟩ [], rfl, rfl, In.leaf _ _ _⟩) f16).mono ?_
        rintro e W2 ⟨v, rfl, hm, hq⟩
        exact hK.out _ _ hq hm
      · intro u W K hS hF hK
        have f13 : u 13 = .bool true := hF 13 (by kernel_rfl)
        have f17 : MadeIn (fun k => w.heap.size ≤ k) exH (u 17) W := hF 17 (by kernel_rfl)
        simp only [putsFrom, Act.put, Nat.reduceAdd, List.setIfInBounds_toArray, List.set_cons_zero, List.set_cons_succ, f13] at hK ⊢
        clear hF
        obtain ⟨ta, ea, hpa, hia⟩ := f17
        simp only [ea] at hK ⊢
        have hza := size_of hpa
        go_simp
        refine (normOf_v (fun k => w.heap.size ≤ k) ta W hia hS.shapes (hza ▸ (by decide)) (fun k hk => Nat.le_trans hS.quiet.size hk)).mono ?_
        rintro e W2 ⟨v, rfl, hm, hq⟩
        rw [hpa, normOf_exH] at hm
        exact hK.out _ _ hq hm
      · intro u W K hS hF hK
        have f13 : u 13 = .bool true := hF 13 (by kernel_rfl)
        have f18 : MadeIn (fun k => w.heap.size ≤ k) (leaf 2) (u 18) W := hF 18 (by kernel_rfl)
        simp only [putsFrom, Act.put, Nat.reduceAdd, List.setIfInBounds_toArray, List.set_cons_zero, List.set_cons_succ, f13] at hK ⊢
        clear hF
        obtain ⟨ta, ea, hpa, hia⟩ := f18
        simp only [ea] at hK ⊢
        have hfl := field_op ta W
        have hop : ta.top.n.op = 2 := by rw [← pl_op2, hpa]; rfl
        rw [hop] at hfl
        clear ea hia
        go_simp
        exact hK.out _ _ (Alters.refl _) rfl
      · intro u W K hS hF hK
        have f13 : u 13 = .bool true := hF 13 (by kernel_rfl)
        have f19 : u 19 = .int .i64 2 := hF 19 (by kernel_rfl)
        simp only [putsFrom, Act.put, Nat.reduceAdd, List.setIfInBounds_toArray, List.set_cons_zero, List.set_cons_succ, f13, f19] at hK ⊢
        clear hF
        go_simp
        exact hK.out _ _ (Alters.refl _) rfl
      · intro u W K hS hF hK
        have f13 : u 13 = .bool true := hF 13 (by kernel_rfl)
        have f20 : u 20 = .bool true := hF 20 (by kernel_rfl)
        simp only [putsFrom, Act.put, Nat.reduceAdd, List.setIfInBounds_toArray, List.set_cons_zero, List.set_cons_succ, f13, f20] at hK ⊢
        clear hF
        go_simp
        exact hK.out _ _ (Alters.refl _) rfl
      · intro u W hS hF
        have f21 : u 21 = .bool true := hF 21 (by simp)
        simp only [putsFrom, Act.put, Nat.reduceAdd, List.setIfInBounds_toArray, List.set_cons_zero, List.set_cons_succ, f21]
        clear hF f21
        have HS := Go.Lib.hid hS
        clear hS
        go_simp
        go_wp2
        go_ret
        exact ⟨rfl, HS.out.quiet⟩
end Go.Proofs.YtnpcakakjhiboaaDoor
