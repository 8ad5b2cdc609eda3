/- TruthNear: the walk of the law. No condition. -/
import Derived.Test.YtnpcakakjhiboaaDoorNearP
import Derived.Test.YtnpcakakjhiboaaDoorOf44
import Derived.Test.YtnpcakakjhiboaaDoorLaw13
import Derived.Test.YtnpcakakjhiboaaDoorWord
import Derived.Test.YtnpcakakjhiboaaDoorRef13e
import Derived.Test.YtnpcakakjhiboaaDoorWordR
import Derived.Deep.AppendLies
import Derived.BigQuiet
namespace Go.Proofs.YtnpcakakjhiboaaDoor
open Go Go.RowKit Go.Lo Go.WideShapes

theorem u8_rng {n : Int} (h : (Lit.int .u8 n).wf = true) : 0 ≤ n ∧ n ≤ 255 := by
  simp only [Lit.wf, Bool.and_eq_true, decide_eq_true_eq] at h
  rw [show IntKind.min .u8 = 0 by decide, show IntKind.max .u8 = 255 by decide] at h
  exact h

theorem num_of13 {t : Ft} (h : ∀ n, n ∈ t.pre → n.top.n.wf) : allNum (Ft.pl t) := fun n hn => by
  have e : (Ft.pl t).pre = t.pre.map Ft.pl := Tr.map_pre Hd.n t
  rw [e] at hn
  obtain ⟨m, hm, rfl⟩ := List.mem_map.1 hn
  obtain ⟨-, -, h1, h2, h3, -⟩ := h m hm
  rw [pl_op]
  exact ⟨h1, h2, h3⟩

theorem of_of13 {w : World} {t : Ft} {f : Fm} {h e : Int} (hp : Ft.pl t = f) (hi : In AllD w t) (hS : Shapes w) (hsz : f.size ≤ 1000) (hn : allNum f) (hL : horOf f = (h, e)) :
    Calls Tryd.prog 44 #[t.val] w (Said (.tuple #[.int .i64 h, .int .i64 e]) w) := by
  subst hp
  have := of44_walk AllD t w hi hS (by rw [pl_size] at hsz; exact hsz) hn
  rwa [hL] at this

/-- The points from one on up to another one, within a horizon. -/
def nearL (P : List Hp) (i : Nat) (h : Int) (j : Nat) : List Hp := ((P.take j).drop i).filter fun q => decide (q.p.tm - tmOf (pts P) i ≤ h)

theorem nearL_start (P : List Hp) (i : Nat) (h : Int) : nearL P i h i = [] := by
  unfold nearL
  rw [List.drop_eq_nil_of_le (by rw [List.length_take]; omega)]
  rfl

theorem tm_pts {P : List Hp} {i : Nat} {r : Hp} (hr : P[i]? = some r) : tmOf (pts P) i = r.p.tm := by
  unfold tmOf pts
  rw [List.getElem?_map, hr]
  rfl

theorem nearL_next {P : List Hp} {i j : Nat} {h : Int} {q r : Hp} (hij : i ≤ j) (hq : P[j]? = some q) (hr : P[i]? = some r) : nearL P i h (j + 1) = nearL P i h j ++ [q].filter fun q => decide (q.p.tm - r.p.tm ≤ h) := by
  have hj : j < P.length := by
    rcases Nat.lt_or_ge j P.length with h' | h'
    · exact h'
    · rw [List.getElem?_eq_none h'] at hq; cases hq
  unfold nearL
  rw [List.take_add_one, hq, Option.toList_some, List.drop_append_of_le_length (by rw [List.length_take]; omega), List.filter_append, tm_pts hr]

theorem nearL_yes {P : List Hp} {i j : Nat} {h : Int} {q r : Hp} (hij : i ≤ j) (hq : P[j]? = some q) (hr : P[i]? = some r) (hle : q.p.tm - r.p.tm ≤ h) : nearL P i h (j + 1) = nearL P i h j ++ [q] := by
  rw [nearL_next hij hq hr, List.filter_cons_of_pos (by simpa using hle), List.filter_nil]

theorem nearL_no {P : List Hp} {i j : Nat} {h : Int} {q r : Hp} (hij : i ≤ j) (hq : P[j]? = some q) (hr : P[i]? = some r) (hle : ¬ q.p.tm - r.p.tm ≤ h) : nearL P i h (j + 1) = nearL P i h j := by
  rw [nearL_next hij hq hr, List.filter_cons_of_neg (by simpa using hle), List.filter_nil, List.append_nil]

theorem nearL_all (P : List Hp) (i : Nat) (h : Int) : pts (nearL P i h P.length) = nearOf (pts P) i h := by
  unfold nearL nearOf pts
  rw [List.take_length, ← List.map_drop, List.filter_map]
  rfl

theorem nearL_mem {P : List Hp} {i j : Nat} {h : Int} {q : Hp} (hq : q ∈ nearL P i h j) : q ∈ P := List.mem_of_mem_take (List.mem_of_mem_drop (List.mem_filter.1 hq).1)

theorem nearL_len (P : List Hp) (i : Nat) (h : Int) (j : Nat) : (nearL P i h j).length ≤ P.length := by
  refine Nat.le_trans (List.length_filter_le _ _) ?_
  rw [List.length_drop, List.length_take]
  omega

theorem wordOk_tm {P : List Hp} {j : Nat} {q : Hp} (hw : wordOk (pts P) = true) (hi : I64 q.p.tm) (hq : P[j]? = some q) : 0 ≤ q.p.tm ∧ q.p.tm ≤ 9223372036854775807 := by
  have := wordOk_pos hw j
  rw [tm_pts hq] at this
  unfold I64 at hi
  omega

/-- Points put one behind the other. -/
structure PtsUp64 (w : World) (v : Value) (L : List Hp) (W : World) : Prop where
  row : W.ownsRow w.heap.size 64 2 v L.length (L.flatMap Hp.cells)
  quiet : Quiet w W

theorem PtsUp64.keep {w W W' : World} {v : Value} {L : List Hp} (hP : PtsUp64 w v L W) (hq : Quiet W W') : PtsUp64 w v L W' := ⟨row_keep hP.row hq (by simp), hP.quiet.trans hq⟩

theorem PtsUp64.step {w W w3 w4 : World} {v v4 : Value} {L : List Hp} {h : Hp} {o : Obj} (hP : PtsUp64 w v L W) (e : w3 = W.alloc o) (hown : w4.ownsRow w.heap.size 64 2 v4 (L.length + 1) (L.flatMap Hp.cells ++ Hp.cells h)) (hgrow : w3.grownBy w4 v.ownBlock) : PtsUp64 w v4 (L ++ [h]) w4 := by
  subst e
  have hA : Alters (fun k => v.ownBlock = some k) W w4 := ((Alters.refl W).alloc o).grown hgrow (fun k e _ => e)
  exact ⟨by simpa using hown, hP.quiet.then hA (fun i hi hp => by have := (hP.row.lt i hp).1; omega)⟩

theorem PtsUp64.word {w w0 W : World} {v : Value} {L P : List Hp} {a : Option Addr} (hP : PtsUp64 w v L W) (hs : ∀ x, x ∈ L → x ∈ P) (hl : L.length ≤ P.length) (hw : WdAt w0 a P) (hq : Quiet w0 W) : ∃ A c, v = .slice A L.length c ∧ WdAt W A L := by
  have hw2 := hw.quiet hq
  have hlen : L.length ≤ maxLen := Nat.le_trans hl hw.len
  rcases hP.row.2 with ⟨rfl, h0⟩ | ⟨g, c, cur, hv, _⟩
  · exact ⟨none, 0, by rw [h0], ⟨hlen, fun hn => absurd (List.eq_nil_of_length_eq_zero h0) hn, fun x hx => hw2.props x (hs x hx), fun x hx => hw.wf x (hs x hx)⟩⟩
  · refine ⟨_, c, hv, ⟨hlen, fun _ => ⟨g, 0, rfl, fun i q hq => ?_⟩, fun x hx => hw2.props x (hs x hx), fun x hx => hw.wf x (hs x hx)⟩⟩
    obtain ⟨h0, h1⟩ := hp_flat_at L i q hq
    have c0 := hP.row.cells (g := g) (by rw [hv]; rfl) (i * 2) _ h0
    have c1 := hP.row.cells (g := g) (by rw [hv]; rfl) (i * 2 + 1) _ h1
    rw [add_plain, Nat.zero_add] at c0 c1
    rw [Nat.zero_add]
    exact ⟨c0, c1⟩

theorem info64 : (Tryd.prog.info? 64).map (fun i => (i.zero, i.size, i.bytes)) = some (some (.agg #[.int .i64 0, .slice none 0 0]), 2, 32) := by kernel_rfl

/-- A law's state with a word that it has made. -/
structure NearAt (w : World) (L : List (Nat × TypeId × Ft)) (A : Option Addr) (NL : List Hp) (W : World) : Prop where
  law : LawAt w L [] W
  wd : WdAt W A NL
theorem NearAt.keep {w W W' : World} {L : List (Nat × TypeId × Ft)} {A : Option Addr} {NL : List Hp} (h : NearAt w L A NL W) (hq : Quiet W W') : NearAt w L A NL W' := ⟨h.law.keep hq, h.wd.quiet hq⟩
theorem NearAt.seven {w W : World} {L : List (Nat × TypeId × Ft)} {A : Option Addr} {NL : List Hp} (h : NearAt w L A NL W) (b : Nat) (ty : TypeId) (t : Ft) (hp : (b, ty, t) ∈ L) :
    W.cell? ⟨b, 0, none⟩ = some (.int .i64 t.top.n.op) ∧ W.cell? ⟨b, 1, none⟩ = some (.string t.top.n.nm) ∧ W.cell? ⟨b, 2, none⟩ = some (.int .i64 t.top.n.cmp) ∧ W.cell? ⟨b, 3, none⟩ = some (.int .i64 t.top.n.val) ∧ W.cell? ⟨b, 4, none⟩ = some (.int .i64 t.top.n.lo) ∧ W.cell? ⟨b, 5, none⟩ = some (.int .i64 t.top.n.hi) ∧ W.cell? ⟨b, 6, none⟩ = some (.slice t.top.a t.kids.length t.top.cap) := h.law.seven b ty t hp
theorem NearAt.inn {w W : World} {L : List (Nat × TypeId × Ft)} {A : Option Addr} {NL : List Hp} (h : NearAt w L A NL W) (b : Nat) (ty : TypeId) (t : Ft) (hp : (b, ty, t) ∈ L) : In AllD W t := h.law.inn b ty t hp
theorem NearAt.shapes {w W : World} {L : List (Nat × TypeId × Ft)} {A : Option Addr} {NL : List Hp} (h : NearAt w L A NL W) : Shapes W := h.law.shapes

set_option maxRecDepth 100000 in
set_option maxHeartbeats 4000000 in
theorem truthNear_walk (t : Ft) (a : Option Addr) (cap : Nat) (P : List Hp) (n : Int) (w : World) (hint : In AllD w t) (hwt : ∀ n, n ∈ t.pre → n.top.n.wf) (hw : WdAt w a P) (wn : (Lit.int .u8 n).wf = true) (hS : Shapes w) : Calls Tryd.prog 13 #[t.val, .slice a P.length cap, .int .u8 n] w (Said (.bool true) w) := by
  have hl := (LawAt.zero w hS).box 28 hint
  skip
  have HL := Go.Lib.hid hl
  have HW := Go.Lib.hid hw
  have HNUM := Go.Lib.hid (num_of13 hwt)
  obtain ⟨n0, n1⟩ := u8_rng wn
  obtain ⟨i, rfl⟩ : ∃ i : Nat, n = (i : Int) := ⟨n.toNat, by omega⟩
  have hi9 : i ≤ 255 := by omega
  have hcv : IntKind.i64.wrap (i : Int) = (i : Int) := by rw [IntKind.wrap_i64]; omega
  clear hint hS hw hl hwt wn n0 n1
  unfold Ft.val
  go_enter Tryd.func13, Tryd.ntmps13
  go_wp2_with fail
  generalize w.alloc _ = w1 at *
  refine (awake13_walk w1 HL.out.shapes).mono ?_
  rintro e w2 ⟨rfl, hq⟩
  replace HL := Go.Lib.hid (HL.out.keep hq)
  clear hq
  obtain ⟨x00, x01, x02, x03, x04, x05, x06⟩ := HL.out.seven (w.heap.size) 28 t (by simp)
  have HC := Go.Lib.hid (left_any13 AllD t 60 w2 (HL.out.inn (w.heap.size) 28 t (by simp)) (by decide))
  unfold Ft.val at HC
  go_wp2_with fail
  refine HC.out.mono ?_
  rintro e w3 ⟨rfl, hq⟩
  clear x00 x01 x02 x03 x04 x05 x06 HC
  replace HL := Go.Lib.hid (HL.out.keep hq)
  clear hq
  have HC := Go.Lib.hid (few47_walk a cap P w3 (HW.out.quiet HL.out.quiet))
  go_wp2_with fail
  refine HC.out.mono ?_
  rintro e w4 ⟨rfl, hq⟩
  clear HC
  replace HL := Go.Lib.hid (HL.out.keep hq)
  clear hq
  by_cases h0 : leftF (Ft.pl t) 60 ≤ 0
  · have b0 : decide (leftF (Ft.pl t) 60 ≤ 0) = true := by simpa using h0
    clear h0
    go_wp2_with fail
    go_ret
    exact ⟨rfl, HL.out.quiet⟩
  have hz0 := left_size13 h0
  have HZt : Hid (t.size ≤ 60) := Go.Lib.hid (by have := hz0; omega)
  have b0 : decide (leftF (Ft.pl t) 60 ≤ 0) = false := by simpa using h0
  clear hz0 h0
  cases hf : fewW P
  · go_wp2_with fail
    go_ret
    exact ⟨rfl, HL.out.quiet⟩
  have HPF : Hid (P.length ≤ 16) := Go.Lib.hid (fewW_len hf)
  have HPL : Hid (P.length ≤ 10000) := Go.Lib.hid (by have := fewW_len hf; omega)
  have HRL : Hid (∀ f, (rowF f (pts P)).length ≤ 10000) := Go.Lib.hid (fun f => Nat.le_trans (rowF_len _ _) (by rw [pts_len]; exact HPL.out))
  have HC := Go.Lib.hid (right40_walk a cap P w4 (HW.out.quiet HL.out.quiet))
  cases hf : wordOk (pts P)
  · rw [hf] at HC
    clear hf
    go_wp2_with fail
    refine HC.out.mono ?_
    rintro e w5 ⟨rfl, hq⟩
    clear  HC
    replace HL := Go.Lib.hid (HL.out.keep hq)
    clear hq
    go_wp2_with fail
    go_ret
    exact ⟨rfl, HL.out.quiet⟩
  rw [hf] at HC
  have HWO := Go.Lib.hid hf
  clear hf
  go_wp2_with fail
  refine HC.out.mono ?_
  rintro e w5 ⟨rfl, hq⟩
  clear  HC
  replace HL := Go.Lib.hid (HL.out.keep hq)
  clear hq
  by_cases hil : i < P.length
  rotate_left
  · have g0 : decide (P.length ≤ i) = true := decide_eq_true (by omega)
    clear hil
    go_wp2_with fail
    go_ret
    exact ⟨rfl, HL.out.quiet⟩
  have g0 : decide (P.length ≤ i) = false := decide_eq_false (by omega)
  obtain ⟨h, e, hh⟩ : ∃ h e, horOf (Ft.pl t) = (h, e) := ⟨_, _, rfl⟩
  have HH := Go.Lib.hid hh
  clear hh
  obtain ⟨x00, x01, x02, x03, x04, x05, x06⟩ := HL.out.seven (w.heap.size) 28 t (by simp)
  have HC := Go.Lib.hid (of_of13 (f := Ft.pl t) rfl (HL.out.inn (w.heap.size) 28 t (by simp)) HL.out.shapes (by rw [pl_size]; have := HZt.out; omega) HNUM.out HH.out)
  unfold Ft.val at HC
  go_wp2_with fail
  refine HC.out.mono ?_
  rintro e w6 ⟨rfl, hq⟩
  clear x00 x01 x02 x03 x04 x05 x06 HC
  replace HL := Go.Lib.hid (HL.out.keep hq)
  clear hq
  clear b0 g0
  by_cases he : e = 0
  rotate_left
  · have b3 : (e == 0) = false := by simpa using he
    have b3n : (e != 0) = true := by simp [he]
    clear he
    go_wp2_with fail
    go_ret
    exact ⟨rfl, HL.out.quiet⟩
  subst he
  have hok := horOf_ok (f := Ft.pl t) (by rw [HH.out])
  rw [HH.out] at hok
  have HSND : Hid (sound (Ft.pl t)) := Go.Lib.hid (checkF_sound hok.1).1
  have HHZ : Hid (h = hz (Ft.pl t)) := Go.Lib.hid hok.2.2
  have hr0 : 0 ≤ h := by have := hz_nonneg _ HSND.out; rw [HHZ.out]; exact this
  have hr1 : h ≤ 9223372036854775807 := by rw [HHZ.out]; exact hok.2.1
  clear hok
  obtain ⟨bb, hbb⟩ : ∃ b, holdsF (Ft.pl t) (pts P) i = b := ⟨_, rfl⟩
  have HB2 : Hid (holdsI (Ft.pl t) (pts P) (i : Int) = bb) := Go.Lib.hid (by unfold holdsI; simpa using hbb)
  have HB1 : Hid (holdsI (Ft.pl t) (pts (nearL P i h P.length)) 0 = bb) := Go.Lib.hid (by
    rw [nearL_all, HHZ.out]
    have := near_holds HSND.out HWO.out (i := i) (by rw [pts_len]; exact hil)
    unfold holdsI
    simpa [this] using hbb)
  have HWK := HW
  have hpl := HPL.out
  clear hbb
  obtain ⟨ri, hri⟩ : ∃ r, P[i]? = some r := ⟨_, List.getElem?_eq_getElem hil⟩
  have HRI := Go.Lib.hid hri
  have HIL := Go.Lib.hid hil
  clear hri hil
  have HP0 : Hid (PtsUp64 w6 (.slice none 0 0) (nearL P i h i) w6) := Go.Lib.hid (by rw [nearL_start]; exact ⟨World.ownsRow_nil _ _ _ _, Alters.refl _⟩)
  have hil := HIL.out
  go_wp2_with fail
  go_loopw [12, 13] (fun mv kv wr => ∃ j : Nat, i ≤ j ∧ j ≤ P.length ∧ kv = .int .i64 (j : Int) ∧ PtsUp64 w6 mv (nearL P i h j) wr) (fun _ kv _ => P.length - (intOf kv).toNat)
  case atStart => exact ⟨i, Nat.le_refl _, by omega, rfl, HP0.out⟩
  case round =>
    clear HP0
    obtain ⟨j, hij, hj, rfl, hP⟩ := hrel
    replace HL := Go.Lib.hid (HL.out.keep hP.quiet)
    have HP := Go.Lib.hid hP
    clear hP hil
    generalize u12 = mv at *
    by_cases hlt : j < P.length
    · have hne : P ≠ [] := fun h => by subst h; simp at hlt
      obtain ⟨b, o, rfl, hc⟩ := (HW.out.quiet HL.out.quiet).cells hne
      obtain ⟨q, hq⟩ : ∃ q, P[j]? = some q := ⟨_, List.getElem?_eq_getElem hlt⟩
      obtain ⟨d0, d1⟩ := hc j q hq
      obtain ⟨r0, -⟩ := hc i ri HRI.out
      have hx := wordOk_tm HWO.out (HW.out.wf q (List.mem_of_getElem? hq)) hq
      have hy := wordOk_tm HWO.out (HW.out.wf ri (List.mem_of_getElem? HRI.out)) HRI.out
      have hws : IntKind.i64.wrap (q.p.tm - ri.p.tm) = q.p.tm - ri.p.tm := by rw [IntKind.wrap_i64]; omega
      have HQ := Go.Lib.hid hq
      have HIJ := Go.Lib.hid hij
      have hil := HIL.out
      have HTL : Hid ((nearL P i h j).length ≤ 16) := Go.Lib.hid (by have := nearL_len P i h j; have := HPF.out; omega)
      clear hc hx hy hq hij hne
      go_upto_region 15 with (fail)
      by_cases hle : q.p.tm - ri.p.tm ≤ h
      · have c0 : decide (q.p.tm - ri.p.tm ≤ h) = true := decide_eq_true hle
        have HTK : Hid (nearL P i h (j + 1) = nearL P i h j ++ [q]) := Go.Lib.hid (nearL_yes HIJ.out HQ.out HRI.out hle)
        clear hle
        go_quiet (fail)
        have hqd : Quiet wr (wr.drewN nq) := (Alters.refl _).drewN _
        replace HL := Go.Lib.hid (HL.out.keep hqd)
        replace HP := Go.Lib.hid (HP.out.keep hqd)
        replace d0 := hqd.cell d0 (by simp)
        replace d1 := hqd.cell d1 (by simp)
        clear hqd r0 c0 hws
        generalize wr.drewN nq = w9 at *
        generalize nearL P i h j = T at *
        have hbs := HP.out.quiet.size
        have htl := HTL.out
        obtain ⟨i0, hi0, hz0, hz1, hz2⟩ := info_parts info64
        have HBG : Hid (w6.heap.size ≤ (w9.alloc (.cells #[.int .i64 q.p.tm, .slice q.a q.p.props.length q.cap] 64)).heap.size) := Go.Lib.hid (by simp; omega)
        have HRW : Hid ((w9.alloc (.cells #[.int .i64 q.p.tm, .slice q.a q.p.props.length q.cap] 64)).ownsRow w6.heap.size 64 2 mv T.length (T.flatMap Hp.cells)) := Go.Lib.hid (row_keep HP.out.row ((Alters.refl (p := fun _ => False) w9).alloc _) (by simp))
        have HNW : Hid (∀ j u, (Hp.cells q)[j]? = some u → (w9.alloc (.cells #[.int .i64 q.p.tm, .slice q.a q.p.props.length q.cap] 64)).cell? ((⟨w9.heap.size, 0, none⟩ : Addr).add j) = some u) := Go.Lib.hid (World.news_of_block (Blk.new w9 _ 64))
        go_wp2_with (at_builtin; refine wpList_append_lies (w := w9.alloc (.cells #[.int .i64 q.p.tm, .slice q.a q.p.props.length q.cap] 64)) rfl (.tmp 67) (.tmp 72) 45 rfl w6.heap.size 64 i0 _ 2 32 Tryd.underlying45 hi0 hz0 hz1 hz2 rfl (by decide) mv T.length (T.flatMap Hp.cells) (by simp [Act.eval]) HRW.out ⟨w9.heap.size, 0, none⟩ 1 1 (Hp.cells q) (by simp [Act.eval]) rfl HNW.out (by intro u hu; simp [Hp.cells] at hu; rcases hu with rfl | rfl <;> rfl) (by decide) (by unfold maxLen; omega) (by omega) HBG.out (w9.heap.size + 1) (by simp) ?c6)
        case c6 =>
          intro g cp w4 hown hgrow hat hlt4
          have HN := Go.Lib.hid (HP.out.step rfl hown hgrow)
          clear hown hgrow hat hlt4 d0 d1 HRW HNW HBG
          go_wp2_with fail
          go_roundw
          case rel => exact ⟨j + 1, by have := HIJ.out; omega, by omega, by go_num, by rw [HTK.out]; exact HN.out⟩
          case measure => simp [intOf]; omega
      · have c0 : decide (q.p.tm - ri.p.tm ≤ h) = false := decide_eq_false hle
        have HTK : Hid (nearL P i h (j + 1) = nearL P i h j) := Go.Lib.hid (nearL_no HIJ.out HQ.out HRI.out hle)
        clear hle
        go_quiet (fail)
        have hqd : Quiet wr (wr.drewN nq) := (Alters.refl _).drewN _
        replace HP := Go.Lib.hid (HP.out.keep hqd)
        clear hqd r0 c0 hws d0 d1
        generalize wr.drewN nq = w9 at *
        go_wp2_with fail
        go_roundw
        case rel => exact ⟨j + 1, by have := HIJ.out; omega, by omega, by go_num, by rw [HTK.out]; exact HP.out⟩
        case measure => simp [intOf]; omega
    · obtain rfl : j = P.length := by omega
      obtain ⟨A, c, rfl, hwd⟩ := HP.out.word (fun x hx => nearL_mem hx) (nearL_len P i h _) HW.out HL.out.quiet
      have HNA : Hid (NearAt w [(w.heap.size, 28, t)] A (nearL P i h P.length) wr) := Go.Lib.hid ⟨HL.out, hwd⟩
      have HNL : Hid ((nearL P i h P.length).length ≤ 10000) := Go.Lib.hid (Nat.le_trans (nearL_len P i h _) HPL.out)
      have hcv2 := hcv
      clear hlt hj hij hwd HP hr0 hr1 HIL
      generalize nearL P i h P.length = NL at *
      go_upto_region 17 with (fail)
      refine wp_region_wants (by kernel_rfl) (by kernel_rfl) (by kernel_rfl) (by kernel_rfl) (NearAt w [(w.heap.size, 28, t)] A NL) (fun _ _ hq h => h.keep hq) [Want.is (Ft.val t), Want.is (.slice A NL.length c), Want.is (.bool bb), Want.is (Ft.val t), Want.is (.slice a P.length cap), Want.is (.int .u8 (i : Int)), Want.is (.int .i64 (i : Int)), Want.is (.bool bb), Want.is (.bool true)] (HNA.out.keep ((Alters.refl _).drew)) (by decide) ?_
      refine Steps.cons ?_ (Steps.cons ?_ (Steps.cons ?_ (Steps.cons ?_ (Steps.cons ?_ (Steps.cons ?_ (Steps.cons ?_ (Steps.cons ?_ (Steps.cons ?_ (Steps.last ?_)))))))))
      · intro u W K hS hF hK
        simp only [putsFrom, Act.put, Nat.reduceAdd, List.setIfInBounds_toArray, List.set_cons_zero, List.set_cons_succ] at hK ⊢
        clear hF
        obtain ⟨x0, x1, x2, x3, x4, x5, x6⟩ := hS.seven (w.heap.size) 28 t (by simp)
        go_simp
        exact hK.out _ _ (Alters.refl _) rfl
      · intro u W K hS hF hK
        simp only [putsFrom, Act.put, Nat.reduceAdd, List.setIfInBounds_toArray, List.set_cons_zero, List.set_cons_succ] at hK ⊢
        clear hF
        go_simp
        exact hK.out _ _ (Alters.refl _) rfl
      · intro u W K hS hF hK
        have f0 : u 0 = Ft.val t := hF 0 (by kernel_rfl)
        have f1 : u 1 = .slice A NL.length c := hF 1 (by kernel_rfl)
        simp only [putsFrom, Act.put, Nat.reduceAdd, List.setIfInBounds_toArray, List.set_cons_zero, List.set_cons_succ, f0, f1] at hK ⊢
        clear hF
        go_simp
        refine (holds51_walk AllD t A c NL 0 W (hS.inn (w.heap.size) 28 t (by simp)) hS.shapes (by have := HZt.out; omega) hS.wd HNL.out).mono ?_
        rintro e W2 ⟨rfl, hq⟩
        exact hK.out _ _ hq (show Value.bool (holdsI (Ft.pl t) (pts NL) 0) = .bool bb by rw [HB1.out])
      · intro u W K hS hF hK
        simp only [putsFrom, Act.put, Nat.reduceAdd, List.setIfInBounds_toArray, List.set_cons_zero, List.set_cons_succ] at hK ⊢
        clear hF
        obtain ⟨x0, x1, x2, x3, x4, x5, x6⟩ := hS.seven (w.heap.size) 28 t (by simp)
        go_simp
        exact hK.out _ _ (Alters.refl _) rfl
      · intro u W K hS hF hK
        simp only [putsFrom, Act.put, Nat.reduceAdd, List.setIfInBounds_toArray, List.set_cons_zero, List.set_cons_succ] at hK ⊢
        clear hF
        go_simp
        exact hK.out _ _ (Alters.refl _) rfl
      · intro u W K hS hF hK
        simp only [putsFrom, Act.put, Nat.reduceAdd, List.setIfInBounds_toArray, List.set_cons_zero, List.set_cons_succ] at hK ⊢
        clear hF
        go_simp
        exact hK.out _ _ (Alters.refl _) rfl
      · intro u W K hS hF hK
        have f5 : u 5 = .int .u8 (i : Int) := hF 5 (by kernel_rfl)
        simp only [putsFrom, Act.put, Nat.reduceAdd, List.setIfInBounds_toArray, List.set_cons_zero, List.set_cons_succ, f5] at hK ⊢
        clear hF
        go_simp
        exact hK.out _ _ (Alters.refl _) rfl
      · intro u W K hS hF hK
        have f3 : u 3 = Ft.val t := hF 3 (by kernel_rfl)
        have f4 : u 4 = .slice a P.length cap := hF 4 (by kernel_rfl)
        have f6 : u 6 = .int .i64 (i : Int) := hF 6 (by kernel_rfl)
        simp only [putsFrom, Act.put, Nat.reduceAdd, List.setIfInBounds_toArray, List.set_cons_zero, List.set_cons_succ, f3, f4, f6] at hK ⊢
        clear hF
        go_simp
        refine (holds51_walk AllD t a cap P (i : Int) W (hS.inn (w.heap.size) 28 t (by simp)) hS.shapes (by have := HZt.out; omega) (HW.out.quiet hS.law.quiet) HPL.out).mono ?_
        rintro e W2 ⟨rfl, hq⟩
        exact hK.out _ _ hq (show Value.bool (holdsI (Ft.pl t) (pts P) (i : Int)) = .bool bb by rw [HB2.out])
      · intro u W K hS hF hK
        have f2 : u 2 = .bool bb := hF 2 (by kernel_rfl)
        have f7 : u 7 = .bool bb := hF 7 (by kernel_rfl)
        simp only [putsFrom, Act.put, Nat.reduceAdd, List.setIfInBounds_toArray, List.set_cons_zero, List.set_cons_succ, f2, f7] at hK ⊢
        clear hF
        go_simp
        exact hK.out _ _ (Alters.refl _) rfl
      · intro u W hS hF
        have f8 : u 8 = .bool true := hF 8 (by simp)
        simp only [putsFrom, Act.put, Nat.reduceAdd, List.setIfInBounds_toArray, List.set_cons_zero, List.set_cons_succ, f8]
        clear hF f8
        have HS := Go.Lib.hid hS
        clear hS
        go_simp
        go_wp2
        go_ret
        exact ⟨rfl, HS.out.law.quiet⟩
end Go.Proofs.YtnpcakakjhiboaaDoor
