/- The law's again (60): a formula built anew from its parts. No condition. -/
import Derived.Test.YtnpcakakjhiboaaDoorPlain
import Derived.Test.YtnpcakakjhiboaaDoorLawP16
import Derived.Test.YtnpcakakjhiboaaDoorBackP
import Derived.Deep.DeepCutAuto
namespace Go.Proofs.YtnpcakakjhiboaaDoor
open Go Go.RowKit Go.Lo Go.WideShapes

/-- How it stands while the kids are built. -/
structure AgainAt (w : World) (n : Nd) (v : Value) (T : List Ft) (wr : World) : Prop where
  row : FRow (fun j => w.heap.size + 2 ≤ j) wr (w.heap.size + 2) 28 v T
  res : Blk wr w.heap.size #[.int .i64 0, .string ⟨#[]⟩, .int .i64 0, .int .i64 0, .int .i64 0, .int .i64 0, .slice none 0 0] 28
  out : Blk wr (w.heap.size + 1) #[.int .i64 n.op, .string n.nm, .int .i64 n.cmp, .int .i64 n.val, .int .i64 n.lo, .int .i64 n.hi, v] 28
  quiet : Quiet w wr

theorem AgainAt.step {w wr w3 w4 : World} {n : Nd} {g cp : Nat} {T : List Ft} {v : Value} {t' : Ft} {o : Obj} (h : AgainAt w n v T wr) (hq3 : Quiet wr w3) (hin : In (fun j => wr.heap.size ≤ j) w3 t')
    (hown : w4.ownsRow (w.heap.size + 2) 28 7 (.slice (some ⟨g, 0, none⟩) (T.length + 1) cp) (T.length + 1) (T.flatMap Ft.cells ++ Ft.cells t')) (hgrow : (w3.alloc o).grownBy w4 v.ownBlock) (hat : v.ownBlock = some g ∨ g = w3.heap.size + 1) :
    Blk w4 (w.heap.size + 1) #[.int .i64 n.op, .string n.nm, .int .i64 n.cmp, .int .i64 n.val, .int .i64 n.lo, .int .i64 n.hi, v] 28 ∧
      AgainAt w n (.slice (some ⟨g, 0, none⟩) (T.length + 1) cp) (T ++ [t']) (w4.setCell ⟨w.heap.size + 1, 6, none⟩ (.slice (some ⟨g, 0, none⟩) (T.length + 1) cp)) := by
  have hqa : Quiet wr (w3.alloc o) := hq3.alloc _
  have hA : Alters (fun j => v.ownBlock = some j) wr w4 := (hqa.to (p := fun j => v.ownBlock = some j)).grown hgrow (fun j e _ => e)
  have hx := h.out.lt
  have hv : ∀ j, v.ownBlock = some j → w.heap.size + 2 ≤ j ∧ j < wr.heap.size := fun j e => h.row.1.lt j e
  have hz := hq3.size
  have hgl := hown.lt g rfl
  have n1 : ¬ v.ownBlock = some (w.heap.size + 1) := fun e => by have := (hv _ e).1; omega
  have n2 : ¬ v.ownBlock = some w.heap.size := fun e => by have := (hv _ e).1; omega
  have hrow := FRow.push (h.row.quiet hqa) hown hgrow (hat.imp_right (fun e => by simp; omega)) ((hin.quiet ((Alters.refl _).alloc o)).mono (fun j _ hj => ⟨by omega, fun e => by have := (hv _ e).2; omega⟩))
  have b0 := hA.blk h.out n1
  have hs : Alters (fun j => j = w.heap.size + 1) w4 (w4.setCell ⟨w.heap.size + 1, 6, none⟩ (.slice (some ⟨g, 0, none⟩) (T.length + 1) cp)) := (Alters.refl (p := fun j => j = w.heap.size + 1) w4).set (q := ⟨w.heap.size + 1, 6, none⟩) (fun _ => rfl) _
  refine ⟨b0, ⟨?_, hs.blk (hA.blk h.res n2) (by omega), b0.set 6 _, (h.quiet.then hA (fun i hi e => by have := (hv _ e).1; omega)).then hs (fun i hi e => by omega)⟩⟩
  have := hrow.keep hs (fun j e e2 => by have : g = j := by simpa [Value.ownBlock] using e
                                         omega) (fun j hj _ _ e2 => by omega)
  simpa using this

/-- One more kid is built. -/
def AgainCut (w : World) (n : Nd) (k : Fm) (T : List Ft) (wx : World) : Prop := ∃ v t1, Ft.pl t1 = k ∧ AgainAt w n v (T ++ [t1]) wx

/-- The step's cells. -/
def StepIn (w : World) (b i : Nat) (x : Stp) : Prop := ∀ (j : Nat) (u : Value), x.cells[j]? = some u → w.cell? ⟨b, i * 8 + j, none⟩ = some u

theorem StepIn.at {w wr : World} {b i : Nat} {x : Stp} (h : StepIn w b i x) (hq : Quiet w wr) :
    wr.cell? ⟨b, i * 8, none⟩ = some (.int .i64 x.n.op) ∧ wr.cell? ⟨b, i * 8 + 1, none⟩ = some (.string x.n.nm) ∧ wr.cell? ⟨b, i * 8 + 2, none⟩ = some (.int .i64 x.n.cmp) ∧ wr.cell? ⟨b, i * 8 + 3, none⟩ = some (.int .i64 x.n.val) ∧
      wr.cell? ⟨b, i * 8 + 4, none⟩ = some (.int .i64 x.n.lo) ∧ wr.cell? ⟨b, i * 8 + 5, none⟩ = some (.int .i64 x.n.hi) ∧ wr.cell? ⟨b, i * 8 + 6, none⟩ = some (.int .i64 x.a) ∧ wr.cell? ⟨b, i * 8 + 7, none⟩ = some (.int .i64 x.b) := by
  have := fun j u hu => hq.cell (h j u hu) (by simp)
  exact ⟨by simpa using this 0 _ rfl, this 1 _ rfl, this 2 _ rfl, this 3 _ rfl, this 4 _ rfl, this 5 _ rfl, this 6 _ rfl, this 7 _ rfl⟩

set_option maxRecDepth 100000 in
set_option maxHeartbeats 4000000 in
theorem again_any {Y : List Stp} {U : List Fm} (hB : Backs Y U) (i : Nat) : ∀ (a : Option Addr) (c : Nat) (w : World) (t : Fm), U[i]? = some t → StpsAt w a Y → Calls Tryd.prog 60 #[.slice a Y.length c, .int .i64 (i : Int)] w (Built t w) := by
  induction i using Nat.strongRecOn with
  | ind i ih =>
    intro a c w t ht hst
    have hi : i < Y.length := by
      rw [hB.len]
      rcases Nat.lt_or_ge i U.length with h | h
      · exact h
      · rw [List.getElem?_eq_none h] at ht; cases ht
    have hx : Y[i]? = some Y[i] := List.getElem?_eq_getElem hi
    obtain ⟨b, rfl, hc⟩ := hst.at hx
    obtain ⟨t', ht', hxn, hcase⟩ := hB.cases hx
    rw [ht] at ht'
    obtain rfl := Option.some.inj ht'
    clear ht'
    have HC : Hid (StepIn w b i Y[i]) := hc
    have HIH := Go.Lib.hid ih
    have HST := Go.Lib.hid hst
    have HCASE := Go.Lib.hid hcase
    have HXN := Go.Lib.hid hxn
    have HTT := Go.Lib.hid (top_nd t)
    clear hc ih hst hcase hxn ht hx
    generalize Y[i] = x at *
    obtain ⟨d0, d1, d2, d3, d4, d5, d6, d7⟩ := HC.out.at (Alters.refl w)
    go_enter Tryd.func60, Tryd.ntmps60
    go_upto_region 1 with (fail)
    have B : Hid (Blk (w.alloc (.cells #[.int .i64 0, .string ⟨#[]⟩, .int .i64 0, .int .i64 0, .int .i64 0, .int .i64 0, .slice none 0 0] 28)) w.heap.size #[.int .i64 0, .string ⟨#[]⟩, .int .i64 0, .int .i64 0, .int .i64 0, .int .i64 0, .slice none 0 0] 28) := Blk.new _ _ _
    have HQ : Hid (Quiet w (w.alloc (.cells #[.int .i64 0, .string ⟨#[]⟩, .int .i64 0, .int .i64 0, .int .i64 0, .int .i64 0, .slice none 0 0] 28))) := (Alters.refl _).alloc _
    have HZ : Hid ((w.alloc (.cells #[.int .i64 0, .string ⟨#[]⟩, .int .i64 0, .int .i64 0, .int .i64 0, .int .i64 0, .slice none 0 0] 28)).heap.size = w.heap.size + 1) := Go.Lib.hid (by simp)
    clear d0 d1 d2 d3 d4 d5 d6 d7
    obtain ⟨d0, d1, d2, d3, d4, d5, d6, d7⟩ := HC.out.at HQ.out
    generalize w.alloc _ = w1 at *
    have e0 := fun X => ((Alters.refl (p := fun _ => False) w1).alloc X).cell d0 (by simp)
    have e1 := fun X => ((Alters.refl (p := fun _ => False) w1).alloc X).cell d1 (by simp)
    have e2 := fun X => ((Alters.refl (p := fun _ => False) w1).alloc X).cell d2 (by simp)
    have e3 := fun X => ((Alters.refl (p := fun _ => False) w1).alloc X).cell d3 (by simp)
    have e4 := fun X => ((Alters.refl (p := fun _ => False) w1).alloc X).cell d4 (by simp)
    have e5 := fun X => ((Alters.refl (p := fun _ => False) w1).alloc X).cell d5 (by simp)
    go_region
    rw [HZ.out]
    have HR : Hid (AgainAt w x.n (.slice none 0 0) [] (w1.alloc (.cells #[.int .i64 x.n.op, .string x.n.nm, .int .i64 x.n.cmp, .int .i64 x.n.val, .int .i64 x.n.lo, .int .i64 x.n.hi, .slice none 0 0] 28)).drew) := Go.Lib.hid (by
      refine ⟨FRow.nil _ _ _ _, (B.out.alloc _).drew, ?_, (HQ.out.alloc _).drew⟩
      rw [← HZ.out]
      exact (Blk.new _ _ _).drew)
    clear e0 e1 e2 e3 e4 e5 d0 d1 d2 d3 d4 d5 d6 d7 B HQ
    generalize (w1.alloc _).drew = w2 at *
    clear HZ
    have hcase := HCASE.out
    clear HCASE
    rcases hcase with ⟨hks, hxa, hxb⟩ | ⟨k, p, hks, hxa, hp, hup, hxb⟩ | ⟨k, l, p, q, hks, hxa, hp, hup, hxb, hq, huq⟩
    · obtain ⟨n, xa, xb⟩ := x
      simp only at hxa hxb HXN HR
      have HT : Hid (t = .nd n []) := Go.Lib.hid (by rw [HTT.out, hks, ← HXN.out])
      clear hks HTT HXN
      subst hxa hxb
      obtain ⟨d0, d1, d2, d3, d4, d5, d6, d7⟩ := HC.out.at HR.out.quiet
      go_upto_region 6 with (fail)
      clear d0 d1 d2 d3 d4 d5 d6 d7
      obtain ⟨v9, HR9⟩ : ∃ v, Hid (AgainAt w n v ([] : List Ft) w2) := ⟨_, HR⟩
      clear HR
      have HR := HR9
      clear HR9
      obtain ⟨A, c2, rfl⟩ := HR.out.row.form
      obtain ⟨x0, x1, x2, x3, x4, x5, x6⟩ := seven_cells HR.out.out
      obtain ⟨r0, r1, r2, r3, r4, r5, r6⟩ := seven_cells HR.out.res
      have fr := fun i => HR.out.res.free i
      go_wp2_with fail
      have hs := set7 w2 w.heap.size (.int .i64 n.op) (.string n.nm) (.int .i64 n.cmp) (.int .i64 n.val) (.int .i64 n.lo) (.int .i64 n.hi) (.slice A (([] : List Ft) : List Ft).length c2)
      refine bodyPost_ret (v := Ft.val (.nd ⟨n, A, c2⟩ ([] : List Ft))) (by simp [results, Tryd.results60, go_sem, Ft.val, Tr.top, Tr.kids, r0, r1, r2, r3, r4, r5, r6]) rfl ⟨_, rfl, ?_, ?_, HR.out.quiet.then hs (fun i hi e => by omega)⟩
      · rw [HT.out, pl_nd]
        simp
      · exact (HR.out.row.keep hs (fun k hk e => by have := (HR.out.row.1.lt k hk).1; omega) (fun k hk _ _ e => by omega)).node _ (by simp [maxLen]) (fun k hk => by omega) (fun k hk => by omega)
    · obtain ⟨n, xa, xb⟩ := x
      simp only at hxa hxb HXN HR
      have HT : Hid (t = .nd n [k]) := Go.Lib.hid (by rw [HTT.out, hks, ← HXN.out])
      clear hks HTT HXN
      subst hxa hxb
      have Hp := Go.Lib.hid hp
      have HUp := Go.Lib.hid hup
      have hp0 : decide ((0 : Int) ≤ (p : Int)) = true := by simp
      have hp1 : decide ((p : Int) < (i : Int)) = true := by simpa using hp
      clear hup
      obtain ⟨d0, d1, d2, d3, d4, d5, d6, d7⟩ := HC.out.at HR.out.quiet
      go_upto_region 3 with (fail)
      clear d0 d1 d2 d3 d4 d5 d6 d7
      obtain ⟨v0, HR9⟩ : ∃ v, Hid (AgainAt w n v [] w2) := ⟨_, HR⟩
      clear HR
      have HR := HR9
      clear HR9
      go_cut [5] (fun v5 wx => v5 = .pointer (some ⟨w.heap.size + 1, 0, none⟩) ∧ AgainCut w n k [] wx)
      case first =>
        obtain ⟨x0, x1, x2, x3, x4, x5, x6⟩ := seven_cells HR.out.out
        have fx := fun i => HR.out.out.free i
        obtain ⟨i0, hi0, hz0, hz1, hz2⟩ := info_parts info28
        have HK : Hid (∀ u2, Quiet w2 u2 → Calls Tryd.prog 60 #[.slice (some ⟨b, 0, none⟩) Y.length c, .int .i64 (p : Int)] u2 (Built k u2)) := fun u2 hq => HIH.out p Hp.out (some ⟨b, 0, none⟩) c u2 k HUp.out ((HST.out.quiet HR.out.quiet).quiet hq)
        obtain ⟨d0, d1, d2, d3, d4, d5, d6, d7⟩ := HC.out.at HR.out.quiet
        go_region_law (first
          | (refine step_append_lies (w := w3.alloc (.cells #[.int .i64 t1.top.n.op, .string t1.top.n.nm, .int .i64 t1.top.n.cmp, .int .i64 t1.top.n.val, .int .i64 t1.top.n.lo, .int .i64 t1.top.n.hi, .slice t1.top.a t1.kids.length t1.top.cap] 28)) rfl (.tmp 38) (.tmp 46) 26 rfl (w.heap.size + 2) 28 i0 _ 7 80 Tryd.underlying26 hi0 hz0 hz1 hz2 rfl (by decide) v0 ([] : List Ft).length (([] : List Ft).flatMap Ft.cells) (by simp [Act.eval]) RR.out.1 ⟨w3.heap.size, 0, none⟩ 1 1 (Ft.cells t1) (by simp [Act.eval]) rfl HNW.out (cells_one t1) (by first | omega | simp) HLN.out.1 HLN.out.2.1 HLN.out.2.2 (w3.heap.size + 1) (by simp) ?_; intro g0 cp0 w4 hown hgrow hat hlt4; obtain ⟨hb4, hP4⟩ := HR.out.step Q3.out HIN.out hown hgrow hat; have HP4 := Go.Lib.hid hP4; have z6 := hb4.cell 6 rfl; have f6 := fun i => hb4.free i; clear hb4 hP4 hown hgrow hat hlt4)
          | (go_simp; go_at_call 60; refine (HK.out _ (by with_reducible exact (Alters.refl _).drew)).mono ?_; rintro e w3 ⟨t1, rfl, hpl0, hin3, hq3⟩; unfold Ft.val; have Q3 : Hid (Quiet w2 w3) := ((Alters.refl w2).drew).trans hq3; have HIN : Hid (In (fun j => w2.heap.size ≤ j) w3 t1) := hin3; have HPL0 := Go.Lib.hid hpl0; have y6 := Q3.out.cell x6 (by simp); have y7 := ((Alters.refl (p := fun _ => False) w3).alloc (.cells #[.int .i64 t1.top.n.op, .string t1.top.n.nm, .int .i64 t1.top.n.cmp, .int .i64 t1.top.n.val, .int .i64 t1.top.n.lo, .int .i64 t1.top.n.hi, .slice t1.top.a t1.kids.length t1.top.cap] 28)).cell y6 (by simp);
             have RR := Go.Lib.hid ((HR.out.row.quiet Q3.out).quiet ((Alters.refl _).alloc (.cells #[.int .i64 t1.top.n.op, .string t1.top.n.nm, .int .i64 t1.top.n.cmp, .int .i64 t1.top.n.val, .int .i64 t1.top.n.lo, .int .i64 t1.top.n.hi, .slice t1.top.a t1.kids.length t1.top.cap] 28)));
             have HNW : Hid (∀ j u, (Ft.cells t1)[j]? = some u → (w3.alloc (.cells #[.int .i64 t1.top.n.op, .string t1.top.n.nm, .int .i64 t1.top.n.cmp, .int .i64 t1.top.n.val, .int .i64 t1.top.n.lo, .int .i64 t1.top.n.hi, .slice t1.top.a t1.kids.length t1.top.cap] 28)).cell? ((⟨w3.heap.size, 0, none⟩ : Addr).add j) = some u) := World.news_of_block (Blk.new w3 _ 28);
             have HLN : Hid (([] : List Ft).length + 1 ≤ maxLen ∧ (([] : List Ft).length + 1) * 80 ≤ 140737488355328 ∧ w.heap.size + 2 ≤ (w3.alloc (.cells #[.int .i64 t1.top.n.op, .string t1.top.n.nm, .int .i64 t1.top.n.cmp, .int .i64 t1.top.n.val, .int .i64 t1.top.n.lo, .int .i64 t1.top.n.hi, .slice t1.top.a t1.kids.length t1.top.cap] 28)).heap.size) := ⟨by simp [maxLen], by simp, by have := HR.out.out.lt; have := Q3.out.size; simp; omega⟩;
             clear hpl0 hin3 hq3))
        all_goals
          clear y6 y7 d0 d1 d2 d3 d4 d5 d6 d7 x0 x1 x2 x3 x4 x5 x6 fx RR HNW HLN HIN Q3 HK hi0 hz0 hz1 hz2 HR z6 f6
          go_wp2_with fail
          go_meet
          case rel => exact ⟨rfl, _, _, HPL0.out, HP4.out⟩
      case rest =>
        obtain ⟨rfl, v9, t1, hpl0, hR⟩ := hcut
        have HR := Go.Lib.hid hR
        have HPL0 := Go.Lib.hid hpl0
        clear hR hpl0
        generalize wc = w5 at *
        obtain ⟨d0, d1, d2, d3, d4, d5, d6, d7⟩ := HC.out.at HR.out.quiet
        go_upto_region 6 with (fail)
        clear d0 d1 d2 d3 d4 d5 d6 d7
        obtain ⟨v9, HR9⟩ : ∃ v, Hid (AgainAt w n v [t1] w5) := ⟨_, HR⟩
        clear HR
        have HR := HR9
        clear HR9
        obtain ⟨A, c2, rfl⟩ := HR.out.row.form
        obtain ⟨x0, x1, x2, x3, x4, x5, x6⟩ := seven_cells HR.out.out
        obtain ⟨r0, r1, r2, r3, r4, r5, r6⟩ := seven_cells HR.out.res
        have fr := fun i => HR.out.res.free i
        go_wp2_with fail
        have hs := set7 w5 w.heap.size (.int .i64 n.op) (.string n.nm) (.int .i64 n.cmp) (.int .i64 n.val) (.int .i64 n.lo) (.int .i64 n.hi) (.slice A ([t1] : List Ft).length c2)
        refine bodyPost_ret (v := Ft.val (.nd ⟨n, A, c2⟩ [t1])) (by simp [results, Tryd.results60, go_sem, Ft.val, Tr.top, Tr.kids, r0, r1, r2, r3, r4, r5, r6]) rfl ⟨_, rfl, ?_, ?_, HR.out.quiet.then hs (fun i hi e => by omega)⟩
        · rw [HT.out, pl_nd]
          simp [HPL0.out]
        · exact (HR.out.row.keep hs (fun k hk e => by have := (HR.out.row.1.lt k hk).1; omega) (fun k hk _ _ e => by omega)).node _ (by simp [maxLen]) (fun k hk => by omega) (fun k hk => by omega)
    · obtain ⟨n, xa, xb⟩ := x
      simp only at hxa hxb HXN HR
      have HT : Hid (t = .nd n [k, l]) := Go.Lib.hid (by rw [HTT.out, hks, ← HXN.out])
      clear hks HTT HXN
      subst hxa hxb
      have Hp := Go.Lib.hid hp
      have HUp := Go.Lib.hid hup
      have Hq := Go.Lib.hid hq
      have HUq := Go.Lib.hid huq
      have hp0 : decide ((0 : Int) ≤ (p : Int)) = true := by simp
      have hp1 : decide ((p : Int) < (i : Int)) = true := by simpa using hp
      have hq0 : decide ((0 : Int) ≤ (q : Int)) = true := by simp
      have hq1 : decide ((q : Int) < (i : Int)) = true := by simpa using hq
      clear hup huq
      obtain ⟨d0, d1, d2, d3, d4, d5, d6, d7⟩ := HC.out.at HR.out.quiet
      go_upto_region 3 with (fail)
      clear d0 d1 d2 d3 d4 d5 d6 d7
      obtain ⟨v0, HR9⟩ : ∃ v, Hid (AgainAt w n v [] w2) := ⟨_, HR⟩
      clear HR
      have HR := HR9
      clear HR9
      go_cut [5] (fun v5 wx => v5 = .pointer (some ⟨w.heap.size + 1, 0, none⟩) ∧ AgainCut w n k [] wx)
      case first =>
        obtain ⟨x0, x1, x2, x3, x4, x5, x6⟩ := seven_cells HR.out.out
        have fx := fun i => HR.out.out.free i
        obtain ⟨i0, hi0, hz0, hz1, hz2⟩ := info_parts info28
        have HK : Hid (∀ u2, Quiet w2 u2 → Calls Tryd.prog 60 #[.slice (some ⟨b, 0, none⟩) Y.length c, .int .i64 (p : Int)] u2 (Built k u2)) := fun u2 hq => HIH.out p Hp.out (some ⟨b, 0, none⟩) c u2 k HUp.out ((HST.out.quiet HR.out.quiet).quiet hq)
        obtain ⟨d0, d1, d2, d3, d4, d5, d6, d7⟩ := HC.out.at HR.out.quiet
        go_region_law (first
          | (refine step_append_lies (w := w3.alloc (.cells #[.int .i64 t1.top.n.op, .string t1.top.n.nm, .int .i64 t1.top.n.cmp, .int .i64 t1.top.n.val, .int .i64 t1.top.n.lo, .int .i64 t1.top.n.hi, .slice t1.top.a t1.kids.length t1.top.cap] 28)) rfl (.tmp 38) (.tmp 46) 26 rfl (w.heap.size + 2) 28 i0 _ 7 80 Tryd.underlying26 hi0 hz0 hz1 hz2 rfl (by decide) v0 ([] : List Ft).length (([] : List Ft).flatMap Ft.cells) (by simp [Act.eval]) RR.out.1 ⟨w3.heap.size, 0, none⟩ 1 1 (Ft.cells t1) (by simp [Act.eval]) rfl HNW.out (cells_one t1) (by first | omega | simp) HLN.out.1 HLN.out.2.1 HLN.out.2.2 (w3.heap.size + 1) (by simp) ?_; intro g0 cp0 w4 hown hgrow hat hlt4; obtain ⟨hb4, hP4⟩ := HR.out.step Q3.out HIN.out hown hgrow hat; have HP4 := Go.Lib.hid hP4; have z6 := hb4.cell 6 rfl; have f6 := fun i => hb4.free i; clear hb4 hP4 hown hgrow hat hlt4)
          | (go_simp; go_at_call 60; refine (HK.out _ (by with_reducible exact (Alters.refl _).drew)).mono ?_; rintro e w3 ⟨t1, rfl, hpl0, hin3, hq3⟩; unfold Ft.val; have Q3 : Hid (Quiet w2 w3) := ((Alters.refl w2).drew).trans hq3; have HIN : Hid (In (fun j => w2.heap.size ≤ j) w3 t1) := hin3; have HPL0 := Go.Lib.hid hpl0; have y6 := Q3.out.cell x6 (by simp); have y7 := ((Alters.refl (p := fun _ => False) w3).alloc (.cells #[.int .i64 t1.top.n.op, .string t1.top.n.nm, .int .i64 t1.top.n.cmp, .int .i64 t1.top.n.val, .int .i64 t1.top.n.lo, .int .i64 t1.top.n.hi, .slice t1.top.a t1.kids.length t1.top.cap] 28)).cell y6 (by simp);
             have RR := Go.Lib.hid ((HR.out.row.quiet Q3.out).quiet ((Alters.refl _).alloc (.cells #[.int .i64 t1.top.n.op, .string t1.top.n.nm, .int .i64 t1.top.n.cmp, .int .i64 t1.top.n.val, .int .i64 t1.top.n.lo, .int .i64 t1.top.n.hi, .slice t1.top.a t1.kids.length t1.top.cap] 28)));
             have HNW : Hid (∀ j u, (Ft.cells t1)[j]? = some u → (w3.alloc (.cells #[.int .i64 t1.top.n.op, .string t1.top.n.nm, .int .i64 t1.top.n.cmp, .int .i64 t1.top.n.val, .int .i64 t1.top.n.lo, .int .i64 t1.top.n.hi, .slice t1.top.a t1.kids.length t1.top.cap] 28)).cell? ((⟨w3.heap.size, 0, none⟩ : Addr).add j) = some u) := World.news_of_block (Blk.new w3 _ 28);
             have HLN : Hid (([] : List Ft).length + 1 ≤ maxLen ∧ (([] : List Ft).length + 1) * 80 ≤ 140737488355328 ∧ w.heap.size + 2 ≤ (w3.alloc (.cells #[.int .i64 t1.top.n.op, .string t1.top.n.nm, .int .i64 t1.top.n.cmp, .int .i64 t1.top.n.val, .int .i64 t1.top.n.lo, .int .i64 t1.top.n.hi, .slice t1.top.a t1.kids.length t1.top.cap] 28)).heap.size) := ⟨by simp [maxLen], by simp, by have := HR.out.out.lt; have := Q3.out.size; simp; omega⟩;
             clear hpl0 hin3 hq3))
        all_goals
          clear y6 y7 d0 d1 d2 d3 d4 d5 d6 d7 x0 x1 x2 x3 x4 x5 x6 fx RR HNW HLN HIN Q3 HK hi0 hz0 hz1 hz2 HR z6 f6
          go_wp2_with fail
          go_meet
          case rel => exact ⟨rfl, _, _, HPL0.out, HP4.out⟩
      case rest =>
        obtain ⟨rfl, v9, t1, hpl0, hR⟩ := hcut
        have HR := Go.Lib.hid hR
        have HPL0 := Go.Lib.hid hpl0
        clear hR hpl0
        generalize wc = w5 at *
        obtain ⟨d0, d1, d2, d3, d4, d5, d6, d7⟩ := HC.out.at HR.out.quiet
        go_upto_region 5 with (fail)
        clear d0 d1 d2 d3 d4 d5 d6 d7
        obtain ⟨v1, HR9⟩ : ∃ v, Hid (AgainAt w n v [t1] w5) := ⟨_, HR⟩
        clear HR
        have HR := HR9
        clear HR9
        go_cut [5] (fun v5 wx => v5 = .pointer (some ⟨w.heap.size + 1, 0, none⟩) ∧ AgainCut w n l [t1] wx)
        case first =>
          obtain ⟨x0, x1, x2, x3, x4, x5, x6⟩ := seven_cells HR.out.out
          have fx := fun i => HR.out.out.free i
          obtain ⟨i0, hi0, hz0, hz1, hz2⟩ := info_parts info28
          have HK : Hid (∀ u2, Quiet w5 u2 → Calls Tryd.prog 60 #[.slice (some ⟨b, 0, none⟩) Y.length c, .int .i64 (q : Int)] u2 (Built l u2)) := fun u2 hq => HIH.out q Hq.out (some ⟨b, 0, none⟩) c u2 l HUq.out ((HST.out.quiet HR.out.quiet).quiet hq)
          obtain ⟨d0, d1, d2, d3, d4, d5, d6, d7⟩ := HC.out.at HR.out.quiet
          go_region_law (first
            | (refine step_append_lies (w := w6.alloc (.cells #[.int .i64 t2.top.n.op, .string t2.top.n.nm, .int .i64 t2.top.n.cmp, .int .i64 t2.top.n.val, .int .i64 t2.top.n.lo, .int .i64 t2.top.n.hi, .slice t2.top.a t2.kids.length t2.top.cap] 28)) rfl (.tmp 65) (.tmp 73) 26 rfl (w.heap.size + 2) 28 i0 _ 7 80 Tryd.underlying26 hi0 hz0 hz1 hz2 rfl (by decide) v1 ([t1] : List Ft).length (([t1] : List Ft).flatMap Ft.cells) (by simp [Act.eval]) RR.out.1 ⟨w6.heap.size, 0, none⟩ 1 1 (Ft.cells t2) (by simp [Act.eval]) rfl HNW.out (cells_one t2) (by first | omega | simp) HLN.out.1 HLN.out.2.1 HLN.out.2.2 (w6.heap.size + 1) (by simp) ?_; intro g1 cp1 w7 hown hgrow hat hlt4; obtain ⟨hb4, hP4⟩ := HR.out.step Q3.out HIN.out hown hgrow hat; have HP4 := Go.Lib.hid hP4; have z6 := hb4.cell 6 rfl; have f6 := fun i => hb4.free i; clear hb4 hP4 hown hgrow hat hlt4)
            | (go_simp; go_at_call 60; refine (HK.out _ (by with_reducible exact (Alters.refl _).drew)).mono ?_; rintro e w6 ⟨t2, rfl, hpl1, hin3, hq3⟩; unfold Ft.val; have Q3 : Hid (Quiet w5 w6) := ((Alters.refl w5).drew).trans hq3; have HIN : Hid (In (fun j => w5.heap.size ≤ j) w6 t2) := hin3; have HPL1 := Go.Lib.hid hpl1; have y6 := Q3.out.cell x6 (by simp); have y7 := ((Alters.refl (p := fun _ => False) w6).alloc (.cells #[.int .i64 t2.top.n.op, .string t2.top.n.nm, .int .i64 t2.top.n.cmp, .int .i64 t2.top.n.val, .int .i64 t2.top.n.lo, .int .i64 t2.top.n.hi, .slice t2.top.a t2.kids.length t2.top.cap] 28)).cell y6 (by simp);
               have RR := Go.Lib.hid ((HR.out.row.quiet Q3.out).quiet ((Alters.refl _).alloc (.cells #[.int .i64 t2.top.n.op, .string t2.top.n.nm, .int .i64 t2.top.n.cmp, .int .i64 t2.top.n.val, .int .i64 t2.top.n.lo, .int .i64 t2.top.n.hi, .slice t2.top.a t2.kids.length t2.top.cap] 28)));
               have HNW : Hid (∀ j u, (Ft.cells t2)[j]? = some u → (w6.alloc (.cells #[.int .i64 t2.top.n.op, .string t2.top.n.nm, .int .i64 t2.top.n.cmp, .int .i64 t2.top.n.val, .int .i64 t2.top.n.lo, .int .i64 t2.top.n.hi, .slice t2.top.a t2.kids.length t2.top.cap] 28)).cell? ((⟨w6.heap.size, 0, none⟩ : Addr).add j) = some u) := World.news_of_block (Blk.new w6 _ 28);
               have HLN : Hid (([t1] : List Ft).length + 1 ≤ maxLen ∧ (([t1] : List Ft).length + 1) * 80 ≤ 140737488355328 ∧ w.heap.size + 2 ≤ (w6.alloc (.cells #[.int .i64 t2.top.n.op, .string t2.top.n.nm, .int .i64 t2.top.n.cmp, .int .i64 t2.top.n.val, .int .i64 t2.top.n.lo, .int .i64 t2.top.n.hi, .slice t2.top.a t2.kids.length t2.top.cap] 28)).heap.size) := ⟨by simp [maxLen], by simp, by have := HR.out.out.lt; have := Q3.out.size; simp; omega⟩;
               clear hpl1 hin3 hq3))
          all_goals
            clear y6 y7 d0 d1 d2 d3 d4 d5 d6 d7 x0 x1 x2 x3 x4 x5 x6 fx RR HNW HLN HIN Q3 HK hi0 hz0 hz1 hz2 HR z6 f6
            go_wp2_with fail
            go_meet
            case rel => exact ⟨rfl, _, _, HPL1.out, HP4.out⟩
        case rest =>
          obtain ⟨rfl, v9, t2, hpl1, hR⟩ := hcut
          have HR := Go.Lib.hid hR
          have HPL1 := Go.Lib.hid hpl1
          clear hR hpl1
          generalize wc = w8 at *
          obtain ⟨v9, HR9⟩ : ∃ v, Hid (AgainAt w n v [t1, t2] w8) := ⟨_, HR⟩
          clear HR
          have HR := HR9
          clear HR9
          obtain ⟨A, c2, rfl⟩ := HR.out.row.form
          obtain ⟨x0, x1, x2, x3, x4, x5, x6⟩ := seven_cells HR.out.out
          obtain ⟨r0, r1, r2, r3, r4, r5, r6⟩ := seven_cells HR.out.res
          have fr := fun i => HR.out.res.free i
          go_wp2_with fail
          have hs := set7 w8 w.heap.size (.int .i64 n.op) (.string n.nm) (.int .i64 n.cmp) (.int .i64 n.val) (.int .i64 n.lo) (.int .i64 n.hi) (.slice A ([t1, t2] : List Ft).length c2)
          refine bodyPost_ret (v := Ft.val (.nd ⟨n, A, c2⟩ [t1, t2])) (by simp [results, Tryd.results60, go_sem, Ft.val, Tr.top, Tr.kids, r0, r1, r2, r3, r4, r5, r6]) rfl ⟨_, rfl, ?_, ?_, HR.out.quiet.then hs (fun i hi e => by omega)⟩
          · rw [HT.out, pl_nd]
            simp [HPL0.out, HPL1.out]
          · exact (HR.out.row.keep hs (fun k hk e => by have := (HR.out.row.1.lt k hk).1; omega) (fun k hk _ _ e => by omega)).node _ (by simp [maxLen]) (fun k hk => by omega) (fun k hk => by omega)
end Go.Proofs.YtnpcakakjhiboaaDoor
