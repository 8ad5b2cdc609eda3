/- plan.Of (56): the parts of a formula. No condition. -/
import Derived.Test.YtnpcakakjhiboaaDoorPlanM
import Derived.Test.YtnpcakakjhiboaaDoorNormOf
import Derived.Deep.LoopGhost
namespace Go.Proofs.YtnpcakakjhiboaaDoor
open Go Go.RowKit Go.Lo Go.WideShapes Go.Maps

/-- The steps, in a row of the call's own. -/
def PlanEnd (L : List Stp) (w : World) (e : Ending) (w' : World) : Prop := ∃ v, e = .returned v ∧ w'.ownsRow w.heap.size 70 8 v L.length (L.flatMap Stp.cells) ∧ Quiet w w'

theorem zero3 (w : World) : (zeroValue 3).run Tryd.prog w = .ok (.int .i64 0) w := by kernel_rfl
theorem info113 : (Tryd.prog.info? 113).map (fun i => (i.zero, i.size, i.bytes)) = some (some (.agg #[.pointer none, .bool false]), 2, 16) := by kernel_rfl
theorem info70 : (Tryd.prog.info? 70).map (fun i => (i.zero, i.size, i.bytes)) = some (some (.agg #[.int .i64 0, .string ⟨#[]⟩, .int .i64 0, .int .i64 0, .int .i64 0, .int .i64 0, .int .i64 0, .int .i64 0]), 8, 72) := by kernel_rfl
theorem info3 : (Tryd.prog.info? 3).map (fun i => (i.zero, i.size, i.bytes)) = some (some (.int .i64 0), 1, 8) := by kernel_rfl

theorem own_blk {W : World} {base size n c g : Nat} {e : TypeId} {xs : List Value} (h : W.ownsRow base e size (.slice (some ⟨g, 0, none⟩) n c) n xs) :
    ∃ cur, Blk W g cur e ∧ base ≤ g ∧ n ≤ c ∧ c ≤ maxLen ∧ cur.size = c * size ∧ cur.toList.take (n * size) = xs := by
  rcases h.2 with ⟨hv, _⟩ | ⟨g', c', cur, hv, h0, hb, h1, h2, h3, h4⟩
  · cases hv
  · obtain ⟨rfl, rfl⟩ : g = g' ∧ c = c' := by simpa using hv
    exact ⟨cur, hb, h0, h1, h2, h3, h4⟩

theorem vs_len (Y : List Vs) : (Y.flatMap Vs.cells).length = Y.length * 2 := by
  induction Y with
  | nil => rfl
  | cons y Y ih => simp only [List.flatMap_cons, List.length_append, ih, List.length_cons]; simp [Vs.cells]; omega

/-- The top of the way. -/
theorem top_at {W : World} {base g c : Nat} {Y : List Vs} {y : Vs} (h : W.ownsRow base 113 2 (.slice (some ⟨g, 0, none⟩) (Y.length + 1) c) (Y ++ [y]).length ((Y ++ [y]).flatMap Vs.cells)) :
    W.cell? ⟨g, Y.length * 2, none⟩ = some (.pointer (some ⟨y.b, y.o, none⟩)) ∧ W.cell? ⟨g, Y.length * 2 + 1, none⟩ = some (.bool y.f) ∧ ∀ i, W.frozen? ⟨g, i, none⟩ = false := by
  rw [List.length_append, List.length_singleton] at h
  obtain ⟨cur, hb, -⟩ := own_blk h
  have h0 := h.cells (g := g) rfl (Y.length * 2) (.pointer (some ⟨y.b, y.o, none⟩)) (by rw [List.flatMap_append, List.getElem?_append_right (by rw [vs_len]; omega), vs_len]; simp [Vs.cells])
  have h1 := h.cells (g := g) rfl (Y.length * 2 + 1) (.bool y.f) (by rw [List.flatMap_append, List.getElem?_append_right (by rw [vs_len]; omega), vs_len]; simp [Vs.cells])
  rw [add_plain, Nat.zero_add] at h0 h1
  exact ⟨h0, h1, fun i => hb.free i⟩

theorem own_set {W : World} {base size n c g i : Nat} {e : TypeId} {xs : List Value} (h : W.ownsRow base e size (.slice (some ⟨g, 0, none⟩) n c) n xs) (_hi : i < xs.length) (v : Value) : (W.setCell ⟨g, i, none⟩ v).ownsRow base e size (.slice (some ⟨g, 0, none⟩) n c) n (xs.set i v) := by
  have hl := h.1
  obtain ⟨cur, hb, h0, h1, h2, h3, h4⟩ := own_blk h
  refine ⟨by simpa using hl, .inr ⟨g, c, cur.setIfInBounds i v, rfl, h0, hb.set i v, h1, h2, by simpa using h3, ?_⟩⟩
  rw [Array.toList_setIfInBounds, List.take_set, h4]

theorem top_set (Y : List Vs) (b o : Nat) (x : Ft) (f f2 : Bool) : ((Y ++ [(⟨b, o, x, f⟩ : Vs)]).flatMap Vs.cells).set (Y.length * 2 + 1) (.bool f2) = (Y ++ [(⟨b, o, x, f2⟩ : Vs)]).flatMap Vs.cells := by
  rw [List.flatMap_append, List.flatMap_append, List.set_append_right _ _ (by rw [vs_len]; omega), vs_len]
  simp [Vs.cells]

theorem drop_rev {l : List Vs} {q : Nat} {y : Vs} (h : l[q]? = some y) : (l.drop q).reverse = (l.drop (q + 1)).reverse ++ [y] := by
  have hl : q < l.length := by
    rcases Nat.lt_or_ge q l.length with h' | h'
    · exact h'
    · rw [List.getElem?_eq_none h'] at h; cases h
  rw [List.drop_eq_getElem_cons hl, List.reverse_cons]
  rw [List.getElem?_eq_getElem hl] at h
  rw [Option.some.inj h]

theorem own_cut {w : World} {base : Nat} {e : TypeId} {size n m c : Nat} {a : Option Addr} {xs : List Value} (h : w.ownsRow base e size (.slice a n c) n xs) (hm : m ≤ n) : w.ownsRow base e size (.slice a m c) m (xs.take (m * size)) := by
  rcases h with ⟨hl, ⟨hv, h0⟩ | ⟨g', cap', cur, hv, h0, hg, h1, h2, h3, h4⟩⟩
  · obtain ⟨rfl, rfl, rfl⟩ : a = none ∧ n = 0 ∧ c = 0 := by simpa using hv
    obtain rfl : m = 0 := by omega
    exact ⟨by simp, .inl ⟨rfl, rfl⟩⟩
  · obtain ⟨rfl, rfl⟩ : a = some ⟨g', 0, none⟩ ∧ c = cap' := by simpa using hv
    have hms : m * size ≤ n * size := Nat.mul_le_mul_right _ hm
    refine ⟨by rw [List.length_take, hl]; omega, .inr ⟨g', c, cur, rfl, h0, hg, by omega, h2, h3, ?_⟩⟩
    rw [← h4, List.take_take]
    congr 1
    omega

theorem place_new {U : List Fm} {x : Fm} (h : x ∉ U) : place (U ++ [x]) x = U.length := by
  obtain ⟨e, -⟩ := place_mem (U := U ++ [x]) (t := x) (by simp)
  rw [e, List.idxOf_append, if_neg h]
  simp

theorem kids_of {f : Fm} (h : wrong f = 0) : f.kids.length = kidsOf f.top.op := by
  obtain ⟨x, ks⟩ := f
  obtain ⟨-, -, h6, -, -⟩ := wrong_zero h
  exact h6

theorem stepOf_l (U : List Fm) (x : Ft) : stepOf U (Ft.pl x) = ⟨x.top.n, (x.kids.map fun k => place U (Ft.pl k)).headD (-1), (x.kids.map fun k => place U (Ft.pl k)).tail.headD (-1)⟩ := by
  unfold stepOf kidAt
  rw [pl_kids, pl_op]
  rcases x.kids with _ | ⟨a, _ | ⟨b, r⟩⟩ <;> simp

set_option maxRecDepth 100000 in
set_option maxHeartbeats 4000000 in
theorem plan56_walk (t : Ft) (w : World) (hin : In (fun _ => True) w t) (hS : Shapes w) (hsz : t.size ≤ 1000) (hnum : allNum (Ft.pl t)) : Calls Tryd.prog 56 #[t.val] w (PlanEnd (planOf (Ft.pl t)) w) := by
  have HI := Go.Lib.hid hin
  have HSH := Go.Lib.hid hS
  have HNUM := Go.Lib.hid hnum
  clear hin hS hnum
  have hmm := @run_makeMap Tryd.prog
  unfold Ft.val
  go_enter Tryd.func56, Tryd.ntmps56
  go_upto_region 1 with (fail)
  have B : Hid (Blk (w.alloc (.cells #[.int .i64 t.top.n.op, .string t.top.n.nm, .int .i64 t.top.n.cmp, .int .i64 t.top.n.val, .int .i64 t.top.n.lo, .int .i64 t.top.n.hi, .slice t.top.a t.kids.length t.top.cap] 28)) w.heap.size #[.int .i64 t.top.n.op, .string t.top.n.nm, .int .i64 t.top.n.cmp, .int .i64 t.top.n.val, .int .i64 t.top.n.lo, .int .i64 t.top.n.hi, .slice t.top.a t.kids.length t.top.cap] 28) := Blk.new _ _ _
  have HQ : Hid (Quiet w (w.alloc (.cells #[.int .i64 t.top.n.op, .string t.top.n.nm, .int .i64 t.top.n.cmp, .int .i64 t.top.n.val, .int .i64 t.top.n.lo, .int .i64 t.top.n.hi, .slice t.top.a t.kids.length t.top.cap] 28))) := (Alters.refl _).alloc _
  generalize w.alloc _ = w1 at *
  obtain ⟨c0, c1, c2, c3, c4, c5, c6⟩ := seven_cells B.out
  have HC := Go.Lib.hid (sound_walk (fun _ => True) t w1 (HI.out.quiet HQ.out) (HSH.out.keep HQ.out (by simp)) (by omega))
  unfold Ft.val at HC
  by_cases hf : first (Ft.pl t) = 0
  rotate_left
  · rw [show decide (first (Ft.pl t) = 0) = false by simpa using hf] at HC
    have HP : Hid (planOf (Ft.pl t) = []) := Go.Lib.hid (by unfold planOf; rw [if_neg hf])
    clear hf
    go_wp2_with fail
    refine HC.out.mono ?_
    rintro e w2 ⟨rfl, hq2⟩
    clear c0 c1 c2 c3 c4 c5 c6 HC
    go_wp2_with fail
    go_ret
    rw [HP.out]
    exact ⟨_, rfl, World.ownsRow_nil _ _ _ _, HQ.out.trans hq2⟩
  · rw [show decide (first (Ft.pl t) = 0) = true by simpa using hf] at HC
    have HSD := Go.Lib.hid ((first_zero _).1 hf)
    have HP : Hid (planOf (Ft.pl t) = (partsOf (normOf (Ft.pl t))).map (stepOf (partsOf (normOf (Ft.pl t))))) := Go.Lib.hid (by unfold planOf; rw [if_pos hf])
    clear hf
    go_wp2_with fail
    refine HC.out.mono ?_
    rintro e w2 ⟨rfl, hq2⟩
    clear c0 c1 c2 c3 c4 c5 c6 HC
    replace B := Go.Lib.hid (hq2.blk B.out (by simp))
    replace HQ := Go.Lib.hid (HQ.out.trans hq2)
    clear hq2
    obtain ⟨c0, c1, c2, c3, c4, c5, c6⟩ := seven_cells B.out
    have HC := Go.Lib.hid (normOf_v (fun _ => True) t w2 (HI.out.quiet HQ.out) (HSH.out.keep HQ.out (by simp)) (by omega) (fun _ _ => trivial))
    unfold Ft.val at HC
    go_wp2_with fail
    refine HC.out.mono ?_
    rintro e w3 ⟨v, rfl, ⟨m, rfl, hp, hi⟩, hq⟩
    clear c0 c1 c2 c3 c4 c5 c6 HC B
    replace HQ := Go.Lib.hid (HQ.out.trans hq)
    have HM : Hid (Ft.pl m = normOf (Ft.pl t)) := hp
    have HNS := Go.Lib.hid (normOf_nf HSD.out).sound
    have HWF := Go.Lib.hid (norm_wf HSD.out HNUM.out)
    have HMZ : Hid ((normOf (Ft.pl t)).size ≤ 4000) := Go.Lib.hid (by
      rw [normOf_sound HSD.out]
      have h2 := made_size _ HSD.out
      rw [show (Ft.pl t).size = t.size from Tr.map_size _ _] at h2
      omega)
    have HMI := Go.Lib.hid (hi.mono (D' := fun k => k < w3.heap.size) (fun k hk _ => hk))
    rw [← HM.out] at HP HNS HWF HMZ
    clear hq hp hi HI HSH HNUM HSD HM
    unfold Ft.val
    go_upto_region 4 with (fail)
    have B : Hid (Blk (w3.alloc (.cells #[.int .i64 m.top.n.op, .string m.top.n.nm, .int .i64 m.top.n.cmp, .int .i64 m.top.n.val, .int .i64 m.top.n.lo, .int .i64 m.top.n.hi, .slice m.top.a m.kids.length m.top.cap] 28)) w3.heap.size #[.int .i64 m.top.n.op, .string m.top.n.nm, .int .i64 m.top.n.cmp, .int .i64 m.top.n.val, .int .i64 m.top.n.lo, .int .i64 m.top.n.hi, .slice m.top.a m.kids.length m.top.cap] 28) := Blk.new _ _ _
    have hq4 : Quiet w3 (w3.alloc (.cells #[.int .i64 m.top.n.op, .string m.top.n.nm, .int .i64 m.top.n.cmp, .int .i64 m.top.n.val, .int .i64 m.top.n.lo, .int .i64 m.top.n.hi, .slice m.top.a m.kids.length m.top.cap] 28)) := (Alters.refl _).alloc _
    have HS4 := Go.Lib.hid (show (w3.alloc (.cells #[.int .i64 m.top.n.op, .string m.top.n.nm, .int .i64 m.top.n.cmp, .int .i64 m.top.n.val, .int .i64 m.top.n.lo, .int .i64 m.top.n.hi, .slice m.top.a m.kids.length m.top.cap] 28)).heap.size = w3.heap.size + 1 by simp)
    replace HQ := Go.Lib.hid (HQ.out.trans hq4)
    replace HMI := Go.Lib.hid (HMI.out.quiet hq4)
    clear hq4
    generalize w3.alloc _ = w4 at *
    go_upto_region 8 with (fail)
    have HW0 : Hid (∀ (x : World), x = w4.alloc (Obj.map #[] 0) → PlAt x w4.heap.size 0 (.slice (some ⟨w4.heap.size + 1, 0, none⟩) 1 1) (.slice none 0 0) (.slice none 0 0) [⟨w3.heap.size, 0, m, false⟩] [] [] (.map []) (x.alloc (Obj.cells #[Value.pointer (some ⟨w3.heap.size, 0, none⟩), Value.bool false] 113))) := by
      rintro x rfl
      have hs4 := HS4.out
      have hq5 : Quiet w4 ((w4.alloc (Obj.map #[] 0)).alloc (Obj.cells #[Value.pointer (some ⟨w3.heap.size, 0, none⟩), Value.bool false] 113)) := ((Alters.refl _).alloc _).alloc _
      have hsz1 : (w4.alloc (Obj.map #[] 0)).heap.size = w4.heap.size + 1 := by simp
      have hnew := Blk.new (w4.alloc (Obj.map #[] 0)) #[Value.pointer (some ⟨w3.heap.size, 0, none⟩), Value.bool false] 113
      rw [hsz1] at hnew
      refine ⟨⟨rfl, .inr ⟨w4.heap.size + 1, 1, _, rfl, by rw [hsz1]; omega, hnew, by simp, by simp [maxLen], rfl, rfl⟩⟩, fun y hy => ?_, World.ownsRow_nil _ _ _ _, World.ownsRow_nil _ _ _ _, ?_, MapOk.nil, fun k _ => ⟨by simp [Value.ownBlock], by simp [Value.ownBlock]⟩, fun k _ => by simp [Value.ownBlock], by rw [hsz1]; omega, (Alters.refl _).alloc _⟩
      · obtain rfl : y = ⟨w3.heap.size, 0, m, false⟩ := by simpa using hy
        exact ⟨by simp only; omega, (boxed_at (ty := 28) B.out).keep hq5 (by simp), (HMI.out.quiet hq5).mono (fun k _ hk => by show k < w4.heap.size; omega)⟩
      · exact map_keep (World.ownsMap_made w4 Tryd.prog 70 _) ((Alters.refl (p := fun _ => False) _).alloc _) (by simp)
    have HQ0 : Hid (∀ W, Alters (fun k => k = w4.heap.size) (w4.alloc (Obj.map #[] 0)) W → Quiet w W) := fun W hA => HQ.out.then (((Alters.refl (p := fun k => k = w4.heap.size) w4).alloc _).trans hA) (fun i hi e => by have := HQ.out.size; omega)
    have HB0 : Hid (w.heap.size ≤ (w4.alloc (Obj.map #[] 0)).heap.size) := Go.Lib.hid (by have := HQ.out.size; simp; omega)
    have HP1 := Go.Lib.hid (HW0.out _ rfl)
    have HMC := Go.Lib.hid (Mc.start HNS.out (b := w3.heap.size) (o := 0) (t := m) rfl)
    have HWT : Hid (weight [⟨w3.heap.size, 0, m, false⟩] ≤ 8000) := Go.Lib.hid (by
      have := HMZ.out
      rw [show (Ft.pl m).size = m.size from Tr.map_size _ _] at this
      simp [weight, Vs.w]
      omega)
    obtain ⟨i113, hi113, hz113, hs113, hb113⟩ := info_parts info113
    obtain ⟨i70, hi70, hz70, hs70, hb70⟩ := info_parts info70
    obtain ⟨i3, hi3, hz3, hs3, hb3⟩ := info_parts info3
    clear HW0 HQ HMI B HS4 hmm
    generalize (w4.alloc (Obj.map #[] 0)).alloc _ = w6 at *
    generalize w4.alloc (Obj.map #[] 0) = w5 at *
    generalize w4.heap.size = mb at *
    generalize w3.heap.size = b3 at *
    go_loopg [4, 5, 7] 8000 (fun k lv pv wv wr => ∃ (Y : List Vs) (U T : List Fm) (D : DataW Unit) (n : Nat), weight Y ≤ k ∧ n ≤ U.length ∧ Mc (Ft.pl m) Y U T ∧ PlAt w5 mb n wv lv pv Y U T D wr)
    case atStart => exact ⟨_, [], [], _, 0, HWT.out, Nat.le_refl _, HMC.out, HP1.out⟩
    case round =>
      clear HP1 HMC HWT
      obtain ⟨Y, U, T, D, n, hk, hnU, hM, hP⟩ := hrel
      generalize u4 = lv2 at *
      generalize u5 = pv2 at *
      generalize u7 = wv2 at *
      rcases List.eq_nil_or_concat Y with rfl | ⟨Y0, ⟨yb, yo, x, fl⟩, rfl⟩
      · obtain rfl := hM.done
        obtain ⟨A, c, rfl⟩ := own_form hP.way
        have HPA := Go.Lib.hid hP
        clear hP hM hk hnU
        go_wp2_with fail
        go_ret
        rw [HP.out]
        refine ⟨_, rfl, ?_, HQ0.out _ HPA.out.quiet⟩
        rw [List.length_map]
        rcases HPA.out.list with ⟨h1, ⟨h2, h3⟩ | ⟨g', c', cur, h2, h3, h4⟩⟩
        · exact ⟨h1, .inl ⟨h2, h3⟩⟩
        · exact ⟨h1, .inr ⟨g', c', cur, h2, by have := HB0.out; omega, h4⟩⟩
      · rw [List.concat_eq_append] at *
        have h1 := hP.way
        rw [List.length_append, List.length_singleton] at h1
        obtain ⟨g, cap, rfl⟩ := ownsRow_succ h1
        obtain ⟨t0, t1, tf⟩ := top_at hP.way
        obtain ⟨hyb, hxa, hxi⟩ := hP.vis ⟨yb, yo, x, fl⟩ (by simp)
        have hlenY : Y0.length ≤ 4000 := by
          have a1 := todo_len (Y0 ++ [⟨yb, yo, x, fl⟩])
          have a2 := hM.lenT
          have a3 := HMZ.out
          rw [List.length_append] at a1
          omega
        have HM := Go.Lib.hid hM
        have HPA := Go.Lib.hid hP
        have HK := Go.Lib.hid hk
        have HNU := Go.Lib.hid hnU
        clear hM hP hk hnU h1
        cases fl
        · obtain ⟨d0, d1, d2, d3, d4, d5, d6⟩ := hxa.seven
          simp only at hyb hxi d0 d1 d2 d3 d4 d5 d6 t0 t1
          go_upto_region 13 with (fail)
          have hs : Alters (fun k => (Value.slice (some ⟨g, 0, none⟩) (Y0.length + 1) cap).ownBlock = some k) wr (wr.setCell ⟨g, Y0.length * 2 + 1, none⟩ (.bool true)) := (Alters.refl (p := fun k => (Value.slice (some ⟨g, 0, none⟩) (Y0.length + 1) cap).ownBlock = some k) _).set (q := ⟨g, Y0.length * 2 + 1, none⟩) (fun _ => rfl) _
          have hr := own_set (i := Y0.length * 2 + 1) (by have := HPA.out.way; rw [List.length_append, List.length_singleton] at this; exact this) (by rw [vs_len]; simp; omega) (.bool true)
          rw [top_set] at hr
          have HPB := Go.Lib.hid (HPA.out.way' (Y2 := Y0 ++ [⟨yb, yo, x, true⟩]) hs (by simpa using hr) (.inl rfl) (fun y hy => by
            rcases List.mem_append.1 hy with hy | hy
            · exact HPA.out.vis y (by simp [hy])
            · obtain rfl : y = ⟨yb, yo, x, true⟩ := by simpa using hy
              exact HPA.out.vis ⟨yb, yo, x, false⟩ (by simp)))
          replace hxa := (HPB.out.vis ⟨yb, yo, x, true⟩ (by simp)).2.1
          replace hxi := (HPB.out.vis ⟨yb, yo, x, true⟩ (by simp)).2.2
          clear hs hr t0 t1 tf d0 d1 d2 d3 d4 d5 d6 HPA
          generalize wr.setCell _ _ = w7 at *
          obtain ⟨-, -, -, -, -, -, d6⟩ := hxa.seven
          simp only at d6 hxi
          have hkl : x.kids.length ≤ 2 := by
            have h5 := HM.out.snd (Ft.pl x) (by rw [todo_snoc]; simp only [Vs.due, Bool.false_eq_true, if_false]; exact List.mem_append_left _ ((Tr.mem_post _ _).2 (by cases Ft.pl x; simp [Tr.pre])))
            rw [pl_eta] at h5
            obtain ⟨-, -, h6, -, -⟩ := wrong_zero h5
            rw [List.length_map] at h6
            rw [h6]
            exact kids_le2 _
          obtain ⟨kb, ko, hko⟩ : ∃ kb ko, x.kids ≠ [] → x.top.a = some ⟨kb, ko, none⟩ ∧ kb < mb := by
            by_cases hne : x.kids = []
            · exact ⟨0, 0, fun h => absurd hne h⟩
            · obtain ⟨kb, ko, e, hD, -⟩ := hxi.fs hne
              exact ⟨kb, ko, fun _ => ⟨e, hD⟩⟩
          have HKO := Go.Lib.hid hko
          clear hxi hxa hko
          go_wp2_with fail
          generalize Value.slice (some ⟨g, 0, none⟩) (Y0.length + 1) cap = wv0 at *
          go_loopw [7, 10] (fun wv i wr => ∃ j : Nat, j ≤ x.kids.length ∧ i = .int .i64 ((j : Int) - 1) ∧ PlAt w5 mb n wv lv2 pv2 (Y0 ++ [⟨yb, yo, x, true⟩] ++ ((kv kb ko 0 x.kids).drop j).reverse) U T D wr) (fun _ i _ => (intOf i + 1).toNat)
          case atStart => exact ⟨x.kids.length, Nat.le_refl _, rfl, by rw [List.drop_eq_nil_of_le (by rw [kv_length]; exact Nat.le_refl _)]; simpa using HPB.out⟩
          case round =>
            clear HPB d6
            obtain ⟨j, hj, hi, hP⟩ := hrel
            generalize u7 = wv2 at *
            obtain ⟨-, hxa, hxi⟩ := hP.vis ⟨yb, yo, x, true⟩ (by simp)
            obtain ⟨-, -, -, -, -, -, d6⟩ := hxa.seven
            simp only at d6 hxi
            rcases j with _ | q
            · obtain rfl := hi
              have HPC := Go.Lib.hid hP
              clear hP hxa hxi
              go_wp2_with fail
              go_roundg (weight (Y0 ++ [(⟨yb, yo, x, true⟩ : Vs)] ++ (kv kb ko 0 x.kids).reverse))
              case measure => have := weight_open Y0 yb yo kb ko x; have := HK.out; omega
              case rel => exact ⟨_, U, T, D, n, Nat.le_refl _, HNU.out, HM.out.open' kb ko, by have := HPC.out; rw [List.drop_zero] at this; exact this⟩
            · have hi2 : u10 = .int .i64 (q : Int) := by rw [hi]; congr 1; omega
              subst hi2
              have hlt : q < x.kids.length := by omega
              have hne : x.kids ≠ [] := fun h => by rw [h] at hlt; simp at hlt
              obtain ⟨ha, hkb⟩ := HKO.out hne
              obtain ⟨kb', ko', e', -, hc⟩ := hxi.fs hne
              obtain ⟨rfl, rfl⟩ : kb = kb' ∧ ko = ko' := by rw [ha] at e'; simpa using e'
              rw [ha] at d6
              have hkid := hc q x.kids[q] (by simp [hlt])
              have HKIN := Go.Lib.hid (hxi.kid (k := x.kids[q]) (by simp))
              have HKV := Go.Lib.hid (kv_get kb ko x.kids 0 q x.kids[q] (by simp [hlt]))
              rw [Nat.zero_add] at HKV
              have HKA := Go.Lib.hid hkid
              generalize x.kids[q] = kk at *
              have HPC := Go.Lib.hid hP
              have hlY : (Y0 ++ [(⟨yb, yo, x, true⟩ : Vs)] ++ ((kv kb ko 0 x.kids).drop (q + 1)).reverse).length ≤ 4010 := by
                simp only [List.length_append, List.length_reverse, List.length_drop, kv_length, List.length_cons, List.length_nil]
                omega
              have HDR := Go.Lib.hid (drop_rev HKV.out)
              generalize hYY : Y0 ++ [(⟨yb, yo, x, true⟩ : Vs)] ++ ((kv kb ko 0 x.kids).drop (q + 1)).reverse = YY at *
              have HYY : Hid (Y0 ++ [(⟨yb, yo, x, true⟩ : Vs)] ++ ((kv kb ko 0 x.kids).drop q).reverse = YY ++ [⟨kb, ko + q * 7, kk, false⟩]) := Go.Lib.hid (by rw [HDR.out, ← hYY]; simp)
              have hbase : w5.heap.size ≤ wr.heap.size := HPC.out.quiet.size
              have HBA : Hid (w5.heap.size ≤ (wr.alloc (.cells #[.pointer (some ⟨kb, ko + q * 7, none⟩), .bool false] 113)).heap.size) := Go.Lib.hid (by simp; omega)
              clear hP hxa hxi hkid hc e' hYY HDR HKV hi ha
              go_wp2_with (at_builtin; refine wpList_append_lies _ rfl (.tmp 53) (.tmp 61) 114 rfl w5.heap.size 113 i113 _ 2 16 Tryd.underlying114 hi113 hz113 hs113 hb113 rfl (by decide) wv2 YY.length (YY.flatMap Vs.cells) rfl (row_keep HPC.out.way ((Alters.refl (p := fun _ => False) wr).alloc _) (by simp)) ⟨wr.heap.size, 0, none⟩ 1 1 (Vs.cells ⟨kb, ko + q * 7, kk, false⟩) rfl rfl ?c1 ?c2 (by decide) ?c3 ?c7 HBA.out (wr.heap.size + 1) ?c5 ?c6)
              case c1 => exact World.news_of_block (Blk.new wr _ 113)
              case c2 => intro u hu; simp [Vs.cells] at hu; rcases hu with rfl | rfl <;> rfl
              case c3 => unfold maxLen; omega
              case c7 => omega
              case c5 => simp
              case c6 =>
                intro g9 cp9 w9 hown9 hgrow9 hat9 hlt9
                have hA9 : Alters (fun k => wv2.ownBlock = some k) wr w9 := ((Alters.refl wr).alloc _).grown hgrow9 (fun k e _ => e)
                have HPD := Go.Lib.hid (HPC.out.way' (Y2 := YY ++ [⟨kb, ko + q * 7, kk, false⟩]) hA9 (by simpa using hown9) (by
                  rcases hat9 with h | h
                  · exact .inl h.symm
                  · refine .inr fun k hk => ?_
                    have : g9 = k := by simpa [Value.ownBlock] using hk
                    omega) (fun y hy => by
                  rcases List.mem_append.1 hy with hy | hy
                  · exact HPC.out.vis y hy
                  · obtain rfl : y = ⟨kb, ko + q * 7, kk, false⟩ := by simpa using hy
                    exact ⟨hkb, HKA.out, HKIN.out⟩))
                clear hown9 hgrow9 hat9 hlt9 hA9 d6 hbase
                go_wp2_with fail
                go_roundw
                case rel => exact ⟨q, by omega, rfl, by rw [HYY.out]; simpa using HPD.out⟩
                case measure => simp [intOf]
        · simp only at hyb hxi t0 t1
          obtain ⟨T0, hT, hM2, hkU, hwx⟩ := HM.out.close
          rw [pl_kids] at hT hkU
          have hrow := HPA.out.way
          rw [List.length_append, List.length_singleton] at hrow
          have hrow0 := Go.Lib.hid hrow
          have hcut := own_cut (m := Y0.length) hrow (by omega)
          rw [List.flatMap_append, List.take_left' (vs_len Y0)] at hcut
          have HPB := Go.Lib.hid (HPA.out.way' (Y2 := Y0) (Alters.refl wr) hcut (.inl rfl) (fun y hy => HPA.out.vis y (by simp [hy])))
          obtain ⟨d0, d1, d2, d3, d4, d5, d6⟩ := hxa.seven
          simp only at d0 d1 d2 d3 d4 d5 d6
          have hkl : x.kids.length ≤ 2 := by
            have h5 := hwx
            rw [pl_eta] at h5
            obtain ⟨-, -, h6, -, -⟩ := wrong_zero h5
            rw [List.length_map] at h6
            rw [h6]
            exact kids_le2 _
          have hTl : T.length = T0.length + x.kids.length := by rw [hT]; simp
          have hT0l : T0.length ≤ 4000 := by
            have a2 := HM.out.lenT
            have a3 := HMZ.out
            omega
          have HT := Go.Lib.hid hT
          have HM2 := Go.Lib.hid hM2
          have HKU := Go.Lib.hid hkU
          have HWX := Go.Lib.hid hwx
          have HXA := Go.Lib.hid hxa
          clear hT hM2 hkU hwx hrow hcut hxa hxi
          have hcap : Y0.length + 1 ≤ cap := by obtain ⟨_, _, _, h, _⟩ := own_blk hrow0.out; exact h
          have hpv := HPB.out.plc
          rw [hTl] at hpv
          have hpc : (pv2 = .slice none 0 0 ∧ T0.length + x.kids.length = 0) ∨ ∃ gp pc, pv2 = .slice (some ⟨gp, 0, none⟩) (T0.length + x.kids.length) pc ∧ T0.length + x.kids.length ≤ pc ∧ pc ≤ maxLen := by
            rcases hpv.2 with ⟨h1, h2⟩ | ⟨gp, pc, cur, h1, -, -, h2, h3, -⟩
            · exact .inl ⟨h1, h2⟩
            · exact .inr ⟨gp, pc, h1, h2, h3⟩
          have HTL := Go.Lib.hid hTl
          clear hTl hpv
          obtain ⟨s, hs⟩ : ∃ s, s = stepOf U (Ft.pl x) := ⟨_, rfl⟩
          have HSV : Hid (s = ⟨x.top.n, (x.kids.map fun k => place U (Ft.pl k)).headD (-1), (x.kids.map fun k => place U (Ft.pl k)).tail.headD (-1)⟩) := Go.Lib.hid (by rw [hs, stepOf_l])
          have HSE := Go.Lib.hid hs
          have hUl : U.length ≤ 4000 := by
            have a2 := HM.out.lenU
            have a3 := HMZ.out
            omega
          have hxp : Ft.pl x ∈ (Ft.pl m).pre := HM2.out.mem (addT_mem.2 (.inr rfl))
          have HSW : Hid s.wf := Go.Lib.hid (by rw [hs]; exact stepOf_wf (HWF.out _ hxp) (by omega))
          clear hxp
          have HKEY := Go.Lib.hid (key_eq HSW.out)
          have HXO : Hid ((Ft.pl x).kids.length = kidsOf (Ft.pl x).top.op) := Go.Lib.hid (kids_of HWX.out)
          have HKO2 : Hid (∀ z, z ∈ U → z.kids.length = kidsOf z.top.op) := Go.Lib.hid (fun z hz => kids_of (HNS.out z (HM.out.mem hz)))
          unfold Stp.val at HKEY
          clear hs
          have HKN : Hid ((x.kids.map fun k => place U (Ft.pl k)).length = x.kids.length) := Go.Lib.hid (by simp)
          rcases hpc with ⟨rfl, h0⟩ | ⟨gp, pc, rfl, hpc1, hpc2⟩
          · obtain ⟨hz1, hz2⟩ : T0.length = 0 ∧ x.kids.length = 0 := by omega
            have hk0 : x.kids = [] := List.eq_nil_of_length_eq_zero hz2
            have ht0 : T0 = [] := List.eq_nil_of_length_eq_zero hz1
            have HINTS : IntsAt wr none (x.kids.map fun k => place U (Ft.pl k)) := fun h => absurd (by rw [hk0]; rfl) h
            have HCUT : Hid (∀ (W : World) (U' : List Fm), W.ownsRow w5.heap.size 3 1 (.slice none 0 0) T.length (T.map fun t => Value.int .i64 (place U' t)) → W.ownsRow w5.heap.size 3 1 (.slice none 0 0) T0.length (T0.map fun t => Value.int .i64 (place U' t))) := Go.Lib.hid (fun W U' _ => by rw [ht0]; exact World.ownsRow_nil _ _ _ _)
            have HPLC : Hid (∀ (W : World) (n' : Nat) (lv' : Value) (U' : List Fm) (D' : DataW Unit), PlAt w5 mb n' (.slice (some ⟨g, 0, none⟩) Y0.length cap) lv' (.slice none 0 0) Y0 U' T D' W → PlAt w5 mb n' (.slice (some ⟨g, 0, none⟩) Y0.length cap) lv' (.slice none 0 0) Y0 U' T0 D' W) := Go.Lib.hid (fun W n' lv' U' D' h => h.plc' (T2 := T0) (Alters.refl W) (HCUT.out W U' h.plc) (.inl rfl))
            clear h0 hk0 ht0
            generalize hL0 : T0.length = tl at *
            generalize hkn : x.kids.length = kn at *
            have HL0 := Go.Lib.hid hL0
            clear hL0 hkn
            subst hz1 hz2
            have HCS : Hid (Calls Tryd.prog 91 #[.pointer (some ⟨yb, yo, none⟩), .slice none 0 0] wr (Said (Stp.val s) wr)) := Go.Lib.hid (by have h9 := step91_walk yb yo x none 0 _ wr HXA.out HINTS (by rw [HKN.out]; exact hkl); rw [HKN.out, ← HSV.out] at h9; exact h9)
            clear HINTS
            unfold Stp.val at HCS
            go_wp2_with fail
            refine HCS.out.mono ?_
            rintro e w7 ⟨rfl, hq7⟩
            clear HCS d0 d1 d2 d3 d4 d5 d6 t0 t1 tf
            have HPC := Go.Lib.hid ((HPB.out.quiet' hq7).quiet' ((Alters.refl (p := fun _ => False) w7).alloc (.cells #[.int .i64 s.n.op, .string s.n.nm, .int .i64 s.n.cmp, .int .i64 s.n.val, .int .i64 s.n.lo, .int .i64 s.n.hi, .int .i64 s.a, .int .i64 s.b] 70)))
            have BS : Hid (Blk (w7.alloc (.cells #[.int .i64 s.n.op, .string s.n.nm, .int .i64 s.n.cmp, .int .i64 s.n.val, .int .i64 s.n.lo, .int .i64 s.n.hi, .int .i64 s.a, .int .i64 s.b] 70)) w7.heap.size #[.int .i64 s.n.op, .string s.n.nm, .int .i64 s.n.cmp, .int .i64 s.n.val, .int .i64 s.n.lo, .int .i64 s.n.hi, .int .i64 s.a, .int .i64 s.b] 70) := Blk.new _ _ _
            go_upto_region 20 with (fail)
            have HSBM : Hid (mb < w7.heap.size ∧ w5.heap.size ≤ w7.heap.size) := Go.Lib.hid (by have := HPB.out.big; have := HPB.out.quiet.size; have := hq7.size; omega)
            clear hq7
            generalize w7.alloc _ = w8 at *
            generalize w7.heap.size = sb at *
            obtain ⟨s0, s1, s2, s3, s4, s5, s6, s7⟩ := eight_cells BS.out
            have hmp : HPC.out.map = HPC.out.map := rfl
            clear hmp
            by_cases hm : Ft.pl x ∈ U
            · have hhas : Maps.has D (keyL s) = true := by rw [HPC.out.mok.ok s HSW.out, HSE.out]; simpa using ⟨Ft.pl x, hm, rfl⟩
              have HAT : Hid (D.atKey (keyL s) (.lit (.int .i64 0)) = .lit (.int .i64 (place U (Ft.pl x)))) := Go.Lib.hid (by
                obtain ⟨e1, e2⟩ := place_mem hm
                rw [e1]
                exact HPC.out.mok.at' _ s HSW.out (by rw [List.getElem?_map, place_get hm, HSE.out]; rfl))
              have HADD : Hid (addT U (Ft.pl x) = U) := Go.Lib.hid (if_pos hm)
              have HPL := Go.Lib.hid (place_range U (Ft.pl x))
              clear hm
              go_wp2_with (first
                | (at_lookup; refine wpList_lookup_own_ok_int _ rfl _ _ 111 rfl 70 3 .i64 law70 Tryd.underlying111 Tryd.underlying3 (zero3 _) mb n D rfl HPC.out.map _ (keyL s) rfl HKEY.out ?_; intro c9 hat9 hwc9; have HC9 : Hid (c9 = place U (Ft.pl x)) := Go.Lib.hid (by have := hat9.symm.trans HAT.out; simpa using this); clear hat9 hwc9; rw [hhas])
                | (at_builtin; refine wpList_append_lies _ rfl (.tmp 100) (.tmp 102) 72 rfl w5.heap.size 3 i3 _ 1 8 Tryd.underlying72 hi3 hz3 hs3 hb3 rfl (by decide) (.slice none 0 0) 0 (T0.map fun t => Value.int .i64 (place U t)) rfl (row_keep (HCUT.out _ _ HPC.out.plc) ((Alters.refl (p := fun _ => False) w8).alloc _) (by simp)) ⟨w8.heap.size, 0, none⟩ 1 1 [.int .i64 c9] rfl rfl ?c1 ?c2 (by decide) ?c3 ?c7 ?c4 (w8.heap.size + 1) ?c5 ?c6))
              case c1 => exact World.news_of_block (Blk.new w8 _ 3)
              case c2 => intro u hu; simp at hu; subst hu; rfl
              case c3 => unfold maxLen; omega
              case c7 => omega
              case c4 => have := HPC.out.quiet.size; simp; omega
              case c5 => simp
              case c6 =>
                intro g9 cp9 w9 hown9 hgrow9 hat9 hlt9
                rw [HC9.out] at hown9
                have hA9 : Alters (fun k => ((.slice none 0 0) : Value).ownBlock = some k) w8 w9 := ((Alters.refl w8).alloc _).grown hgrow9 (fun k e _ => e)
                have HPD := Go.Lib.hid ((HPLC.out _ _ _ _ _ HPC.out).plc' (T2 := T0 ++ [Ft.pl x]) hA9 (by simpa [HL0.out] using hown9) (by
                  rcases hat9 with h | h
                  · exact .inl h.symm
                  · refine .inr fun k hk => ?_
                    have : g9 = k := by simpa [Value.ownBlock] using hk
                    omega))
                clear hown9 hgrow9 hat9 hlt9 hA9 s0 s1 s2 s3 s4 s5 s6 s7
                go_wp2_with fail
                go_roundg (weight Y0)
                case measure => have := HK.out; rw [weight_snoc] at this; simp only [Vs.w, if_true] at this; omega
                case rel => exact ⟨_, U, T0 ++ [Ft.pl x], D, n, Nat.le_refl _, HNU.out, by have := HM2.out; rw [HADD.out] at this; exact this, HPD.out⟩
            · have HHAS : Maps.has D (keyL s) = false := by
                rw [HPC.out.mok.ok s HSW.out, HSE.out]
                simp only [decide_eq_false_iff_not, List.mem_map, not_exists, not_and]
                intro z hz he
                exact hm (stepOf_inj (fun k hk => HM.out.closed.mem hz hk) (by rw [pl_kids]; exact HKU.out) (HKO2.out z hz) HXO.out he ▸ hz)
              have HNM := Go.Lib.hid hm
              have HADD : Hid (addT U (Ft.pl x) = U ++ [Ft.pl x]) := Go.Lib.hid (if_neg hm)
              have HPN := Go.Lib.hid (place_new hm)
              have HWFU : Hid ((Lit.int .i64 (U.length : Int)).wf = true) := Go.Lib.hid (I64.lit (by unfold I64; omega))
              have hnu := HNU.out
              clear hm
              obtain ⟨la, lc, rfl⟩ := own_form HPC.out.list
              go_upto_region 24 with (first
                | (at_lookup; refine wpList_lookup_own_ok_int _ rfl _ _ 111 rfl 70 3 .i64 law70 Tryd.underlying111 Tryd.underlying3 (zero3 _) mb n D rfl HPC.out.map _ (keyL s) rfl HKEY.out ?_; intro c9 hat9 hwc9; clear hat9 hwc9; rw [HHAS])
                | (at_mapUpdate; refine wpList_mapUpdate_own _ rfl _ _ _ 111 rfl 70 3 law70 Tryd.underlying111 _ mb n D rfl HPC.out.map (by unfold maxLen; omega) _ _ _ rfl rfl HKEY.out _ [] (plainElem_int Tryd.underlying3 HWFU.out) ?_; intro w9 hmp9 hmg9; have HMP9 := Go.Lib.hid hmp9; have HMG9 := Go.Lib.hid hmg9; clear hmp9 hmg9))
              clear s0 s1 s2 s3 s4 s5 s6 s7 HHAS
              have HA1 : Hid (Alters (fun k => k = mb) w8 w9) := Go.Lib.hid ((Alters.refl w8).grown HMG9.out (fun k e _ => by cases e; rfl))
              obtain ⟨s0, s1, s2, s3, s4, s5, s6, s7⟩ := eight_cells (HA1.out.blk BS.out (by have := HSBM.out; omega))
              go_wp2_with (at_builtin; refine wpList_append_lies _ rfl (.tmp 94) (.tmp 96) 66 rfl w5.heap.size 70 i70 _ 8 72 Tryd.underlying66 hi70 hz70 hs70 hb70 rfl (by decide) (.slice la U.length lc) U.length ((U.map (stepOf U)).flatMap Stp.cells) rfl (row_keep (row_keep HPC.out.list HA1.out (fun k e => by have := (HPC.out.list.lt k e).1; have := HPC.out.big; omega)) ((Alters.refl (p := fun _ => False) w9).alloc _) (by simp)) ⟨w9.heap.size, 0, none⟩ 1 1 s.cells rfl rfl ?k1 ?k2 (by decide) ?k3 ?k7 ?k4 (w9.heap.size + 1) ?k5 ?k6)
              case k1 => exact World.news_of_block (Blk.new w9 _ 70)
              case k2 => intro u hu; simp [Stp.cells] at hu; rcases hu with rfl | rfl | rfl | rfl | rfl | rfl | rfl | rfl <;> rfl
              case k3 => unfold maxLen; omega
              case k7 => omega
              case k4 => have := HPC.out.quiet.size; have := HA1.out.size; simp; omega
              case k5 => simp
              case k6 =>
                intro g8 cp8 w10 hown8 hgrow8 hat8 hlt8
                have HPM := Go.Lib.hid (HPC.out.miss HNM.out (by rw [pl_kids]; exact HKU.out) HM.out.sub HM.out.closed (by rw [← HSE.out]; exact HSW.out) HKO2.out HXO.out (by rw [← HSE.out]; exact HMP9.out) HMG9.out (by rw [← HSE.out]; exact hown8) hgrow8 (by
                  rcases hat8 with h | h
                  · exact .inl h.symm
                  · refine .inr fun k hk => ?_
                    have : g8 = k := by simpa [Value.ownBlock] using hk
                    omega))
                clear hown8 hgrow8 hat8 hlt8 s0 s1 s2 s3 s4 s5 s6 s7
                have hbase : w5.heap.size ≤ w10.heap.size := HPM.out.quiet.size
                go_wp2_with (at_builtin; refine wpList_append_lies _ rfl (.tmp 100) (.tmp 102) 72 rfl w5.heap.size 3 i3 _ 1 8 Tryd.underlying72 hi3 hz3 hs3 hb3 rfl (by decide) (.slice none 0 0) 0 (T0.map fun t => Value.int .i64 (place (U ++ [Ft.pl x]) t)) rfl (row_keep (HCUT.out _ _ HPM.out.plc) ((Alters.refl (p := fun _ => False) w10).alloc _) (by simp)) ⟨w10.heap.size, 0, none⟩ 1 1 [.int .i64 (U.length : Int)] rfl rfl ?c1 ?c2 (by decide) ?c3 ?c7 ?c4 (w10.heap.size + 1) ?c5 ?c6)
                case c1 => exact World.news_of_block (Blk.new w10 _ 3)
                case c2 => intro u hu; simp at hu; subst hu; rfl
                case c3 => unfold maxLen; omega
                case c7 => omega
                case c4 => simp; omega
                case c5 => simp
                case c6 =>
                  intro g9 cp9 w11 hown9 hgrow9 hat9 hlt9
                  have hA9 : Alters (fun k => ((.slice none 0 0) : Value).ownBlock = some k) w10 w11 := ((Alters.refl w10).alloc _).grown hgrow9 (fun k e _ => e)
                  have HPD := Go.Lib.hid ((HPLC.out _ _ _ _ _ HPM.out).plc' (T2 := T0 ++ [Ft.pl x]) hA9 (by rw [List.length_append, HL0.out, List.map_append, List.map_singleton, HPN.out]; exact hown9) (by
                    rcases hat9 with h | h
                    · exact .inl h.symm
                    · refine .inr fun k hk => ?_
                      have : g9 = k := by simpa [Value.ownBlock] using hk
                      omega))
                  clear hown9 hgrow9 hat9 hlt9 hA9 hbase
                  go_wp2_with fail
                  go_roundg (weight Y0)
                  case measure => have := HK.out; rw [weight_snoc] at this; simp only [Vs.w, if_true] at this; omega
                  case rel => exact ⟨_, U ++ [Ft.pl x], T0 ++ [Ft.pl x], _, n + 1, Nat.le_refl _, by simp; omega, by have := HM2.out; rw [HADD.out] at this; exact this, HPD.out⟩
          · unfold maxLen at hpc2
            have HINTS0 : Hid (x.kids ≠ [] → IntsAt wr (some ⟨gp, T0.length, none⟩) (x.kids.map fun k => place U (Ft.pl k))) := Go.Lib.hid (fun hne _ => ⟨gp, T0.length, rfl, fun i y hi => by
              have h9 := HPB.out.plc.cells (g := gp) rfl (T0.length + i) (.int .i64 y) (by rw [HT.out, List.map_append, List.getElem?_append_right (by simp)]; simpa using hi)
              rw [add_plain, Nat.zero_add] at h9
              exact h9⟩)
            have HCUT : Hid (∀ (W : World) (U' : List Fm), W.ownsRow w5.heap.size 3 1 (.slice (some ⟨gp, 0, none⟩) (T0.length + x.kids.length) pc) T.length (T.map fun t => Value.int .i64 (place U' t)) → W.ownsRow w5.heap.size 3 1 (.slice (some ⟨gp, 0, none⟩) T0.length pc) T0.length (T0.map fun t => Value.int .i64 (place U' t))) := Go.Lib.hid (fun W U' h => by
              rw [HTL.out] at h
              have h9 := own_cut (m := T0.length) h (by omega)
              rw [HT.out, List.map_append, Nat.mul_one, List.take_left' (by simp)] at h9
              exact h9)
            have HPLC : Hid (∀ (W : World) (n' : Nat) (lv' : Value) (U' : List Fm) (D' : DataW Unit), PlAt w5 mb n' (.slice (some ⟨g, 0, none⟩) Y0.length cap) lv' (.slice (some ⟨gp, 0, none⟩) (T0.length + x.kids.length) pc) Y0 U' T D' W → PlAt w5 mb n' (.slice (some ⟨g, 0, none⟩) Y0.length cap) lv' (.slice (some ⟨gp, 0, none⟩) T0.length pc) Y0 U' T0 D' W) := Go.Lib.hid (fun W n' lv' U' D' h => h.plc' (T2 := T0) (Alters.refl W) (HCUT.out W U' h.plc) (.inl rfl))
            have HNE : Hid (x.kids.length = 0 → x.kids = []) := Go.Lib.hid List.eq_nil_of_length_eq_zero
            generalize hL0 : T0.length = tl at *
            generalize hkn : x.kids.length = kn at *
            have HL0 := Go.Lib.hid hL0
            clear hL0 hkn
            by_cases hpe : pc = tl
            · have HINTS : IntsAt wr (some ⟨gp, 0, none⟩) (x.kids.map fun k => place U (Ft.pl k)) := fun h => absurd (by rw [HNE.out (by omega)]; rfl) h
              obtain rfl : kn = 0 := by omega
              subst hpe
              clear HINTS0 HNE
              have HCS : Hid (Calls Tryd.prog 91 #[.pointer (some ⟨yb, yo, none⟩), .slice (some ⟨gp, 0, none⟩) 0 0] wr (Said (Stp.val s) wr)) := Go.Lib.hid (by have h9 := step91_walk yb yo x (some ⟨gp, 0, none⟩) 0 _ wr HXA.out HINTS (by rw [HKN.out]; exact hkl); rw [HKN.out, ← HSV.out] at h9; exact h9)
              clear HINTS
              unfold Stp.val at HCS
              go_wp2_with fail
              refine HCS.out.mono ?_
              rintro e w7 ⟨rfl, hq7⟩
              clear HCS d0 d1 d2 d3 d4 d5 d6 t0 t1 tf
              have HPC := Go.Lib.hid ((HPB.out.quiet' hq7).quiet' ((Alters.refl (p := fun _ => False) w7).alloc (.cells #[.int .i64 s.n.op, .string s.n.nm, .int .i64 s.n.cmp, .int .i64 s.n.val, .int .i64 s.n.lo, .int .i64 s.n.hi, .int .i64 s.a, .int .i64 s.b] 70)))
              have BS : Hid (Blk (w7.alloc (.cells #[.int .i64 s.n.op, .string s.n.nm, .int .i64 s.n.cmp, .int .i64 s.n.val, .int .i64 s.n.lo, .int .i64 s.n.hi, .int .i64 s.a, .int .i64 s.b] 70)) w7.heap.size #[.int .i64 s.n.op, .string s.n.nm, .int .i64 s.n.cmp, .int .i64 s.n.val, .int .i64 s.n.lo, .int .i64 s.n.hi, .int .i64 s.a, .int .i64 s.b] 70) := Blk.new _ _ _
              go_upto_region 20 with (fail)
              have HSBM : Hid (mb < w7.heap.size ∧ w5.heap.size ≤ w7.heap.size) := Go.Lib.hid (by have := HPB.out.big; have := HPB.out.quiet.size; have := hq7.size; omega)
              clear hq7
              generalize w7.alloc _ = w8 at *
              generalize w7.heap.size = sb at *
              obtain ⟨s0, s1, s2, s3, s4, s5, s6, s7⟩ := eight_cells BS.out
              have hmp : HPC.out.map = HPC.out.map := rfl
              clear hmp
              by_cases hm : Ft.pl x ∈ U
              · have hhas : Maps.has D (keyL s) = true := by rw [HPC.out.mok.ok s HSW.out, HSE.out]; simpa using ⟨Ft.pl x, hm, rfl⟩
                have HAT : Hid (D.atKey (keyL s) (.lit (.int .i64 0)) = .lit (.int .i64 (place U (Ft.pl x)))) := Go.Lib.hid (by
                  obtain ⟨e1, e2⟩ := place_mem hm
                  rw [e1]
                  exact HPC.out.mok.at' _ s HSW.out (by rw [List.getElem?_map, place_get hm, HSE.out]; rfl))
                have HADD : Hid (addT U (Ft.pl x) = U) := Go.Lib.hid (if_pos hm)
                have HPL := Go.Lib.hid (place_range U (Ft.pl x))
                clear hm
                go_wp2_with (first
                  | (at_lookup; refine wpList_lookup_own_ok_int _ rfl _ _ 111 rfl 70 3 .i64 law70 Tryd.underlying111 Tryd.underlying3 (zero3 _) mb n D rfl HPC.out.map _ (keyL s) rfl HKEY.out ?_; intro c9 hat9 hwc9; have HC9 : Hid (c9 = place U (Ft.pl x)) := Go.Lib.hid (by have := hat9.symm.trans HAT.out; simpa using this); clear hat9 hwc9; rw [hhas])
                  | (at_builtin; refine wpList_append_lies _ rfl (.tmp 100) (.tmp 102) 72 rfl w5.heap.size 3 i3 _ 1 8 Tryd.underlying72 hi3 hz3 hs3 hb3 rfl (by decide) (.slice (some ⟨gp, 0, none⟩) pc pc) pc (T0.map fun t => Value.int .i64 (place U t)) rfl (row_keep (HCUT.out _ _ HPC.out.plc) ((Alters.refl (p := fun _ => False) w8).alloc _) (by simp)) ⟨w8.heap.size, 0, none⟩ 1 1 [.int .i64 c9] rfl rfl ?c1 ?c2 (by decide) ?c3 ?c7 ?c4 (w8.heap.size + 1) ?c5 ?c6))
                case c1 => exact World.news_of_block (Blk.new w8 _ 3)
                case c2 => intro u hu; simp at hu; subst hu; rfl
                case c3 => unfold maxLen; omega
                case c7 => omega
                case c4 => have := HPC.out.quiet.size; simp; omega
                case c5 => simp
                case c6 =>
                  intro g9 cp9 w9 hown9 hgrow9 hat9 hlt9
                  rw [HC9.out] at hown9
                  have hA9 : Alters (fun k => ((.slice (some ⟨gp, 0, none⟩) pc pc) : Value).ownBlock = some k) w8 w9 := ((Alters.refl w8).alloc _).grown hgrow9 (fun k e _ => e)
                  have HPD := Go.Lib.hid ((HPLC.out _ _ _ _ _ HPC.out).plc' (T2 := T0 ++ [Ft.pl x]) hA9 (by simpa [HL0.out] using hown9) (by
                    rcases hat9 with h | h
                    · exact .inl h.symm
                    · refine .inr fun k hk => ?_
                      have : g9 = k := by simpa [Value.ownBlock] using hk
                      omega))
                  clear hown9 hgrow9 hat9 hlt9 hA9 s0 s1 s2 s3 s4 s5 s6 s7
                  go_wp2_with fail
                  go_roundg (weight Y0)
                  case measure => have := HK.out; rw [weight_snoc] at this; simp only [Vs.w, if_true] at this; omega
                  case rel => exact ⟨_, U, T0 ++ [Ft.pl x], D, n, Nat.le_refl _, HNU.out, by have := HM2.out; rw [HADD.out] at this; exact this, HPD.out⟩
              · have HHAS : Maps.has D (keyL s) = false := by
                  rw [HPC.out.mok.ok s HSW.out, HSE.out]
                  simp only [decide_eq_false_iff_not, List.mem_map, not_exists, not_and]
                  intro z hz he
                  exact hm (stepOf_inj (fun k hk => HM.out.closed.mem hz hk) (by rw [pl_kids]; exact HKU.out) (HKO2.out z hz) HXO.out he ▸ hz)
                have HNM := Go.Lib.hid hm
                have HADD : Hid (addT U (Ft.pl x) = U ++ [Ft.pl x]) := Go.Lib.hid (if_neg hm)
                have HPN := Go.Lib.hid (place_new hm)
                have HWFU : Hid ((Lit.int .i64 (U.length : Int)).wf = true) := Go.Lib.hid (I64.lit (by unfold I64; omega))
                have hnu := HNU.out
                clear hm
                obtain ⟨la, lc, rfl⟩ := own_form HPC.out.list
                go_upto_region 24 with (first
                  | (at_lookup; refine wpList_lookup_own_ok_int _ rfl _ _ 111 rfl 70 3 .i64 law70 Tryd.underlying111 Tryd.underlying3 (zero3 _) mb n D rfl HPC.out.map _ (keyL s) rfl HKEY.out ?_; intro c9 hat9 hwc9; clear hat9 hwc9; rw [HHAS])
                  | (at_mapUpdate; refine wpList_mapUpdate_own _ rfl _ _ _ 111 rfl 70 3 law70 Tryd.underlying111 _ mb n D rfl HPC.out.map (by unfold maxLen; omega) _ _ _ rfl rfl HKEY.out _ [] (plainElem_int Tryd.underlying3 HWFU.out) ?_; intro w9 hmp9 hmg9; have HMP9 := Go.Lib.hid hmp9; have HMG9 := Go.Lib.hid hmg9; clear hmp9 hmg9))
                clear s0 s1 s2 s3 s4 s5 s6 s7 HHAS
                have HA1 : Hid (Alters (fun k => k = mb) w8 w9) := Go.Lib.hid ((Alters.refl w8).grown HMG9.out (fun k e _ => by cases e; rfl))
                obtain ⟨s0, s1, s2, s3, s4, s5, s6, s7⟩ := eight_cells (HA1.out.blk BS.out (by have := HSBM.out; omega))
                go_wp2_with (at_builtin; refine wpList_append_lies _ rfl (.tmp 94) (.tmp 96) 66 rfl w5.heap.size 70 i70 _ 8 72 Tryd.underlying66 hi70 hz70 hs70 hb70 rfl (by decide) (.slice la U.length lc) U.length ((U.map (stepOf U)).flatMap Stp.cells) rfl (row_keep (row_keep HPC.out.list HA1.out (fun k e => by have := (HPC.out.list.lt k e).1; have := HPC.out.big; omega)) ((Alters.refl (p := fun _ => False) w9).alloc _) (by simp)) ⟨w9.heap.size, 0, none⟩ 1 1 s.cells rfl rfl ?k1 ?k2 (by decide) ?k3 ?k7 ?k4 (w9.heap.size + 1) ?k5 ?k6)
                case k1 => exact World.news_of_block (Blk.new w9 _ 70)
                case k2 => intro u hu; simp [Stp.cells] at hu; rcases hu with rfl | rfl | rfl | rfl | rfl | rfl | rfl | rfl <;> rfl
                case k3 => unfold maxLen; omega
                case k7 => omega
                case k4 => have := HPC.out.quiet.size; have := HA1.out.size; simp; omega
                case k5 => simp
                case k6 =>
                  intro g8 cp8 w10 hown8 hgrow8 hat8 hlt8
                  have HPM := Go.Lib.hid (HPC.out.miss HNM.out (by rw [pl_kids]; exact HKU.out) HM.out.sub HM.out.closed (by rw [← HSE.out]; exact HSW.out) HKO2.out HXO.out (by rw [← HSE.out]; exact HMP9.out) HMG9.out (by rw [← HSE.out]; exact hown8) hgrow8 (by
                    rcases hat8 with h | h
                    · exact .inl h.symm
                    · refine .inr fun k hk => ?_
                      have : g8 = k := by simpa [Value.ownBlock] using hk
                      omega))
                  clear hown8 hgrow8 hat8 hlt8 s0 s1 s2 s3 s4 s5 s6 s7
                  have hbase : w5.heap.size ≤ w10.heap.size := HPM.out.quiet.size
                  go_wp2_with (at_builtin; refine wpList_append_lies _ rfl (.tmp 100) (.tmp 102) 72 rfl w5.heap.size 3 i3 _ 1 8 Tryd.underlying72 hi3 hz3 hs3 hb3 rfl (by decide) (.slice (some ⟨gp, 0, none⟩) pc pc) pc (T0.map fun t => Value.int .i64 (place (U ++ [Ft.pl x]) t)) rfl (row_keep (HCUT.out _ _ HPM.out.plc) ((Alters.refl (p := fun _ => False) w10).alloc _) (by simp)) ⟨w10.heap.size, 0, none⟩ 1 1 [.int .i64 (U.length : Int)] rfl rfl ?c1 ?c2 (by decide) ?c3 ?c7 ?c4 (w10.heap.size + 1) ?c5 ?c6)
                  case c1 => exact World.news_of_block (Blk.new w10 _ 3)
                  case c2 => intro u hu; simp at hu; subst hu; rfl
                  case c3 => unfold maxLen; omega
                  case c7 => omega
                  case c4 => simp; omega
                  case c5 => simp
                  case c6 =>
                    intro g9 cp9 w11 hown9 hgrow9 hat9 hlt9
                    have hA9 : Alters (fun k => ((.slice (some ⟨gp, 0, none⟩) pc pc) : Value).ownBlock = some k) w10 w11 := ((Alters.refl w10).alloc _).grown hgrow9 (fun k e _ => e)
                    have HPD := Go.Lib.hid ((HPLC.out _ _ _ _ _ HPM.out).plc' (T2 := T0 ++ [Ft.pl x]) hA9 (by rw [List.length_append, HL0.out, List.map_append, List.map_singleton, HPN.out]; exact hown9) (by
                      rcases hat9 with h | h
                      · exact .inl h.symm
                      · refine .inr fun k hk => ?_
                        have : g9 = k := by simpa [Value.ownBlock] using hk
                        omega))
                    clear hown9 hgrow9 hat9 hlt9 hA9 hbase
                    go_wp2_with fail
                    go_roundg (weight Y0)
                    case measure => have := HK.out; rw [weight_snoc] at this; simp only [Vs.w, if_true] at this; omega
                    case rel => exact ⟨_, U ++ [Ft.pl x], T0 ++ [Ft.pl x], _, n + 1, Nat.le_refl _, by simp; omega, by have := HM2.out; rw [HADD.out] at this; exact this, HPD.out⟩
            · have HINTS : IntsAt wr (some ⟨gp, tl, none⟩) (x.kids.map fun k => place U (Ft.pl k)) := fun h => HINTS0.out (fun e => h (by rw [e]; rfl)) h
              clear HINTS0 HNE
              have HCS : Hid (Calls Tryd.prog 91 #[.pointer (some ⟨yb, yo, none⟩), .slice (some ⟨gp, tl, none⟩) kn (pc - tl)] wr (Said (Stp.val s) wr)) := Go.Lib.hid (by have h9 := step91_walk yb yo x (some ⟨gp, tl, none⟩) (pc - tl) _ wr HXA.out HINTS (by rw [HKN.out]; exact hkl); rw [HKN.out, ← HSV.out] at h9; exact h9)
              clear HINTS
              unfold Stp.val at HCS
              go_wp2_with fail
              refine HCS.out.mono ?_
              rintro e w7 ⟨rfl, hq7⟩
              clear HCS d0 d1 d2 d3 d4 d5 d6 t0 t1 tf
              have HPC := Go.Lib.hid ((HPB.out.quiet' hq7).quiet' ((Alters.refl (p := fun _ => False) w7).alloc (.cells #[.int .i64 s.n.op, .string s.n.nm, .int .i64 s.n.cmp, .int .i64 s.n.val, .int .i64 s.n.lo, .int .i64 s.n.hi, .int .i64 s.a, .int .i64 s.b] 70)))
              have BS : Hid (Blk (w7.alloc (.cells #[.int .i64 s.n.op, .string s.n.nm, .int .i64 s.n.cmp, .int .i64 s.n.val, .int .i64 s.n.lo, .int .i64 s.n.hi, .int .i64 s.a, .int .i64 s.b] 70)) w7.heap.size #[.int .i64 s.n.op, .string s.n.nm, .int .i64 s.n.cmp, .int .i64 s.n.val, .int .i64 s.n.lo, .int .i64 s.n.hi, .int .i64 s.a, .int .i64 s.b] 70) := Blk.new _ _ _
              go_upto_region 20 with (fail)
              have HSBM : Hid (mb < w7.heap.size ∧ w5.heap.size ≤ w7.heap.size) := Go.Lib.hid (by have := HPB.out.big; have := HPB.out.quiet.size; have := hq7.size; omega)
              clear hq7
              generalize w7.alloc _ = w8 at *
              generalize w7.heap.size = sb at *
              obtain ⟨s0, s1, s2, s3, s4, s5, s6, s7⟩ := eight_cells BS.out
              have hmp : HPC.out.map = HPC.out.map := rfl
              clear hmp
              by_cases hm : Ft.pl x ∈ U
              · have hhas : Maps.has D (keyL s) = true := by rw [HPC.out.mok.ok s HSW.out, HSE.out]; simpa using ⟨Ft.pl x, hm, rfl⟩
                have HAT : Hid (D.atKey (keyL s) (.lit (.int .i64 0)) = .lit (.int .i64 (place U (Ft.pl x)))) := Go.Lib.hid (by
                  obtain ⟨e1, e2⟩ := place_mem hm
                  rw [e1]
                  exact HPC.out.mok.at' _ s HSW.out (by rw [List.getElem?_map, place_get hm, HSE.out]; rfl))
                have HADD : Hid (addT U (Ft.pl x) = U) := Go.Lib.hid (if_pos hm)
                have HPL := Go.Lib.hid (place_range U (Ft.pl x))
                clear hm
                go_wp2_with (first
                  | (at_lookup; refine wpList_lookup_own_ok_int _ rfl _ _ 111 rfl 70 3 .i64 law70 Tryd.underlying111 Tryd.underlying3 (zero3 _) mb n D rfl HPC.out.map _ (keyL s) rfl HKEY.out ?_; intro c9 hat9 hwc9; have HC9 : Hid (c9 = place U (Ft.pl x)) := Go.Lib.hid (by have := hat9.symm.trans HAT.out; simpa using this); clear hat9 hwc9; rw [hhas])
                  | (at_builtin; refine wpList_append_lies _ rfl (.tmp 100) (.tmp 102) 72 rfl w5.heap.size 3 i3 _ 1 8 Tryd.underlying72 hi3 hz3 hs3 hb3 rfl (by decide) (.slice (some ⟨gp, 0, none⟩) tl pc) tl (T0.map fun t => Value.int .i64 (place U t)) rfl (row_keep (HCUT.out _ _ HPC.out.plc) ((Alters.refl (p := fun _ => False) w8).alloc _) (by simp)) ⟨w8.heap.size, 0, none⟩ 1 1 [.int .i64 c9] rfl rfl ?c1 ?c2 (by decide) ?c3 ?c7 ?c4 (w8.heap.size + 1) ?c5 ?c6))
                case c1 => exact World.news_of_block (Blk.new w8 _ 3)
                case c2 => intro u hu; simp at hu; subst hu; rfl
                case c3 => unfold maxLen; omega
                case c7 => omega
                case c4 => have := HPC.out.quiet.size; simp; omega
                case c5 => simp
                case c6 =>
                  intro g9 cp9 w9 hown9 hgrow9 hat9 hlt9
                  rw [HC9.out] at hown9
                  have hA9 : Alters (fun k => ((.slice (some ⟨gp, 0, none⟩) tl pc) : Value).ownBlock = some k) w8 w9 := ((Alters.refl w8).alloc _).grown hgrow9 (fun k e _ => e)
                  have HPD := Go.Lib.hid ((HPLC.out _ _ _ _ _ HPC.out).plc' (T2 := T0 ++ [Ft.pl x]) hA9 (by simpa [HL0.out] using hown9) (by
                    rcases hat9 with h | h
                    · exact .inl h.symm
                    · refine .inr fun k hk => ?_
                      have : g9 = k := by simpa [Value.ownBlock] using hk
                      omega))
                  clear hown9 hgrow9 hat9 hlt9 hA9 s0 s1 s2 s3 s4 s5 s6 s7
                  go_wp2_with fail
                  go_roundg (weight Y0)
                  case measure => have := HK.out; rw [weight_snoc] at this; simp only [Vs.w, if_true] at this; omega
                  case rel => exact ⟨_, U, T0 ++ [Ft.pl x], D, n, Nat.le_refl _, HNU.out, by have := HM2.out; rw [HADD.out] at this; exact this, HPD.out⟩
              · have HHAS : Maps.has D (keyL s) = false := by
                  rw [HPC.out.mok.ok s HSW.out, HSE.out]
                  simp only [decide_eq_false_iff_not, List.mem_map, not_exists, not_and]
                  intro z hz he
                  exact hm (stepOf_inj (fun k hk => HM.out.closed.mem hz hk) (by rw [pl_kids]; exact HKU.out) (HKO2.out z hz) HXO.out he ▸ hz)
                have HNM := Go.Lib.hid hm
                have HADD : Hid (addT U (Ft.pl x) = U ++ [Ft.pl x]) := Go.Lib.hid (if_neg hm)
                have HPN := Go.Lib.hid (place_new hm)
                have HWFU : Hid ((Lit.int .i64 (U.length : Int)).wf = true) := Go.Lib.hid (I64.lit (by unfold I64; omega))
                have hnu := HNU.out
                clear hm
                obtain ⟨la, lc, rfl⟩ := own_form HPC.out.list
                go_upto_region 24 with (first
                  | (at_lookup; refine wpList_lookup_own_ok_int _ rfl _ _ 111 rfl 70 3 .i64 law70 Tryd.underlying111 Tryd.underlying3 (zero3 _) mb n D rfl HPC.out.map _ (keyL s) rfl HKEY.out ?_; intro c9 hat9 hwc9; clear hat9 hwc9; rw [HHAS])
                  | (at_mapUpdate; refine wpList_mapUpdate_own _ rfl _ _ _ 111 rfl 70 3 law70 Tryd.underlying111 _ mb n D rfl HPC.out.map (by unfold maxLen; omega) _ _ _ rfl rfl HKEY.out _ [] (plainElem_int Tryd.underlying3 HWFU.out) ?_; intro w9 hmp9 hmg9; have HMP9 := Go.Lib.hid hmp9; have HMG9 := Go.Lib.hid hmg9; clear hmp9 hmg9))
                clear s0 s1 s2 s3 s4 s5 s6 s7 HHAS
                have HA1 : Hid (Alters (fun k => k = mb) w8 w9) := Go.Lib.hid ((Alters.refl w8).grown HMG9.out (fun k e _ => by cases e; rfl))
                obtain ⟨s0, s1, s2, s3, s4, s5, s6, s7⟩ := eight_cells (HA1.out.blk BS.out (by have := HSBM.out; omega))
                go_wp2_with (at_builtin; refine wpList_append_lies _ rfl (.tmp 94) (.tmp 96) 66 rfl w5.heap.size 70 i70 _ 8 72 Tryd.underlying66 hi70 hz70 hs70 hb70 rfl (by decide) (.slice la U.length lc) U.length ((U.map (stepOf U)).flatMap Stp.cells) rfl (row_keep (row_keep HPC.out.list HA1.out (fun k e => by have := (HPC.out.list.lt k e).1; have := HPC.out.big; omega)) ((Alters.refl (p := fun _ => False) w9).alloc _) (by simp)) ⟨w9.heap.size, 0, none⟩ 1 1 s.cells rfl rfl ?k1 ?k2 (by decide) ?k3 ?k7 ?k4 (w9.heap.size + 1) ?k5 ?k6)
                case k1 => exact World.news_of_block (Blk.new w9 _ 70)
                case k2 => intro u hu; simp [Stp.cells] at hu; rcases hu with rfl | rfl | rfl | rfl | rfl | rfl | rfl | rfl <;> rfl
                case k3 => unfold maxLen; omega
                case k7 => omega
                case k4 => have := HPC.out.quiet.size; have := HA1.out.size; simp; omega
                case k5 => simp
                case k6 =>
                  intro g8 cp8 w10 hown8 hgrow8 hat8 hlt8
                  have HPM := Go.Lib.hid (HPC.out.miss HNM.out (by rw [pl_kids]; exact HKU.out) HM.out.sub HM.out.closed (by rw [← HSE.out]; exact HSW.out) HKO2.out HXO.out (by rw [← HSE.out]; exact HMP9.out) HMG9.out (by rw [← HSE.out]; exact hown8) hgrow8 (by
                    rcases hat8 with h | h
                    · exact .inl h.symm
                    · refine .inr fun k hk => ?_
                      have : g8 = k := by simpa [Value.ownBlock] using hk
                      omega))
                  clear hown8 hgrow8 hat8 hlt8 s0 s1 s2 s3 s4 s5 s6 s7
                  have hbase : w5.heap.size ≤ w10.heap.size := HPM.out.quiet.size
                  go_wp2_with (at_builtin; refine wpList_append_lies _ rfl (.tmp 100) (.tmp 102) 72 rfl w5.heap.size 3 i3 _ 1 8 Tryd.underlying72 hi3 hz3 hs3 hb3 rfl (by decide) (.slice (some ⟨gp, 0, none⟩) tl pc) tl (T0.map fun t => Value.int .i64 (place (U ++ [Ft.pl x]) t)) rfl (row_keep (HCUT.out _ _ HPM.out.plc) ((Alters.refl (p := fun _ => False) w10).alloc _) (by simp)) ⟨w10.heap.size, 0, none⟩ 1 1 [.int .i64 (U.length : Int)] rfl rfl ?c1 ?c2 (by decide) ?c3 ?c7 ?c4 (w10.heap.size + 1) ?c5 ?c6)
                  case c1 => exact World.news_of_block (Blk.new w10 _ 3)
                  case c2 => intro u hu; simp at hu; subst hu; rfl
                  case c3 => unfold maxLen; omega
                  case c7 => omega
                  case c4 => simp; omega
                  case c5 => simp
                  case c6 =>
                    intro g9 cp9 w11 hown9 hgrow9 hat9 hlt9
                    have hA9 : Alters (fun k => ((.slice (some ⟨gp, 0, none⟩) tl pc) : Value).ownBlock = some k) w10 w11 := ((Alters.refl w10).alloc _).grown hgrow9 (fun k e _ => e)
                    have HPD := Go.Lib.hid ((HPLC.out _ _ _ _ _ HPM.out).plc' (T2 := T0 ++ [Ft.pl x]) hA9 (by rw [List.length_append, HL0.out, List.map_append, List.map_singleton, HPN.out]; exact hown9) (by
                      rcases hat9 with h | h
                      · exact .inl h.symm
                      · refine .inr fun k hk => ?_
                        have : g9 = k := by simpa [Value.ownBlock] using hk
                        omega))
                    clear hown9 hgrow9 hat9 hlt9 hA9 hbase
                    go_wp2_with fail
                    go_roundg (weight Y0)
                    case measure => have := HK.out; rw [weight_snoc] at this; simp only [Vs.w, if_true] at this; omega
                    case rel => exact ⟨_, U ++ [Ft.pl x], T0 ++ [Ft.pl x], _, n + 1, Nat.le_refl _, by simp; omega, by have := HM2.out; rw [HADD.out] at this; exact this, HPD.out⟩
end Go.Proofs.YtnpcakakjhiboaaDoor
