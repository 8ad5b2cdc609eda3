/- DrrPlays: for every input the law returns true and its arguments read as before. No condition. -/
import Derived.Test.YtoebhifnfomkhaaRefN
import Derived.Test.YtoebhifnfomkhaaLists
import Derived.Deep.RegionHeld3
namespace Go.Proofs.Ytoebhifnfomkhaa
open Go.RowKit Go.Lo

/-- One step of both: what Next answers, and how it then stands. -/
def Pair (z : Nat → Int) (n len : Nat) (d d2 : D) (x : Int) : Prop :=
  (len = n ∧ (∃ j, j < len ∧ 0 < z j) ∧ ∃ k : Nat, Runs z d d2 k ∧ x = k) ∨ (¬ (len = n ∧ ∃ j, j < len ∧ 0 < z j) ∧ d2 = d ∧ x = -1)

/-- The law's loop: a Drr of the call's own, and the reference's value in block rb, which stand alike. -/
structure PlaysAt (w0 : World) (bd bg bl rb n : Nat) (q : Int) (wt : Nat → Int) (vw : Value) (d dr : D) (g c : Nat) (w : World) : Prop where
  drr : IsDrr w bd bg bl d
  ok : d.Ok
  okr : dr.Ok
  num : d.n = n ∧ dr.n = n
  gain : d.g = (fun i => q * wt i) ∧ dr.g = (fun i => q * wt i)
  ref : Blk w rb #[vw, .int .i64 q, .slice (some ⟨g, 0, none⟩) n c, .int .i64 dr.p, .bool dr.b] 35
  row : ∀ i, i < n → w.cell? ⟨g, i, none⟩ = some (.int .i64 (dr.f i))
  off : g ≠ bd ∧ g ≠ bl ∧ g ≠ rb
  quiet : Quiet w0 w

def PlaysRel (w0 : World) (bd bg bl rb n : Nat) (q : Int) (wt : Nat → Int) (vw : Value) (w : World) : Prop := ∃ d g c, PlaysAt w0 bd bg bl rb n q wt vw d d g c w

def Lies (w0 : World) (bd bg bl rb : Nat) : Prop := w0.heap.size ≤ bd ∧ w0.heap.size ≤ bl ∧ w0.heap.size ≤ rb ∧ rb ≠ bd ∧ rb ≠ bg ∧ rb ≠ bl

theorem PlaysAt.next {w0 w w' : World} {bd bg bl rb n len : Nat} {q : Int} {wt z : Nat → Int} {vw : Value} {d : D} {g c : Nat} {e : Ending} (h : PlaysAt w0 bd bg bl rb n q wt vw d d g c w) (hl : Lies w0 bd bg bl rb) (hn : NextEnds bd bg bl d len z w e w') :
    ∃ (x : Int) (d2 : D), e = .returned (.int .i64 x) ∧ PlaysAt w0 bd bg bl rb n q wt vw d2 d g c w' ∧ Pair z n len d d2 x := by
  obtain ⟨l1, l2, l3, l4, l5, l6⟩ := hl
  obtain ⟨g1, g2, g3⟩ := h.off
  rcases hn with ⟨⟨h1, h2⟩, d', k, hr, rfl, hI', ok', hA⟩ | ⟨h1, rfl, rfl⟩
  · obtain ⟨_, k1, k2, k3, k4, _, _⟩ := hr.ok h.ok
    refine ⟨k, d', rfl, ⟨hI', ok', h.okr, ⟨k3.trans h.num.1, h.num.2⟩, ⟨k4.trans h.gain.1, h.gain.2⟩, hA.blk h.ref (by omega), fun i hi => hA.cell (h.row i hi) (by simp only; omega), h.off, quiet_then h.quiet hA (fun i hi => by omega)⟩, .inl ⟨h1.trans h.num.1, h2, k, hr, rfl⟩⟩
  · exact ⟨-1, d, rfl, h, .inr ⟨fun h' => h1 ⟨h'.1.trans h.num.1.symm, h'.2⟩, rfl, rfl⟩⟩

theorem ref_twin {w1 w2 : World} {z : Nat → Int} {n len : Nat} {q : Int} {vw : Value} {g c : Nat} {d d2 : D} {x : Int} {e : Ending} (h : RefEnds w1 z n q vw g c d len e w2) (hp : Pair z n len d d2 x) (hrow : ∀ i, i < n → w1.cell? ⟨g, i, none⟩ = some (.int .i64 (d.f i))) :
    ∃ g' c', e = .returned (.tuple #[.agg #[vw, .int .i64 q, .slice (some ⟨g', 0, none⟩) n c', .int .i64 d2.p, .bool d2.b], .int .i64 x]) ∧ (g' = g ∨ w1.heap.size ≤ g') ∧ (∀ i, i < n → w2.cell? ⟨g', i, none⟩ = some (.int .i64 (d2.f i))) ∧ Quiet w1 w2 := by
  obtain ⟨hq, ⟨hj, hl, d', k, g', c', hr, rfl, hg, hc⟩ | ⟨hno, rfl⟩⟩ := h
  · rcases hp with ⟨_, _, k2, hr2, rfl⟩ | ⟨hno, _, _⟩
    · obtain ⟨rfl, rfl⟩ := hr.only hr2
      exact ⟨g', c', rfl, hg, hc, hq⟩
    · exact absurd ⟨hl, hj⟩ hno
  · rcases hp with ⟨hl, ⟨j, hj, hz⟩, _⟩ | ⟨_, rfl, rfl⟩
    · rcases hno with h | h
      · exact absurd hl h
      · have := h j hj; omega
    · exact ⟨g, c, rfl, .inl rfl, fun i hi => hq.cell (hrow i hi) (by simp), hq⟩

theorem quiet_set5 {w w5 : World} {r2 : Nat} (hq : Quiet w w5) (hr : w.heap.size ≤ r2) (x0 x1 x2 x3 x4 : Value) : Quiet w (((((w5.setCell ⟨r2, 0, none⟩ x0).setCell ⟨r2, 1, none⟩ x1).setCell ⟨r2, 2, none⟩ x2).setCell ⟨r2, 3, none⟩ x3).setCell ⟨r2, 4, none⟩ x4) :=
  hq.then (set5 w5 r2 x0 x1 x2 x3 x4) (fun i hi e => by omega)

/-- What the reference answered lies in a block of its own. -/
def AfterRef (w : World) (n g : Nat) (q : Int) (vw : Value) (d2 : D) (v : Value) (wx : World) : Prop :=
  ∃ r2 g' c', v = .pointer (some ⟨r2, 0, none⟩) ∧ Blk wx r2 #[vw, .int .i64 q, .slice (some ⟨g', 0, none⟩) n c', .int .i64 d2.p, .bool d2.b] 35 ∧ (∀ i, i < n → wx.cell? ⟨g', i, none⟩ = some (.int .i64 (d2.f i))) ∧ (g' = g ∨ w.heap.size ≤ g') ∧ w.heap.size ≤ r2 ∧ Quiet w wx

theorem AfterRef.mk {w w5 : World} {r2 n g g' c' : Nat} {q : Int} {vw : Value} {d2 : D} (hB : Blk w5 r2 #[.slice none 0 0, .int .i64 0, .slice none 0 0, .int .i64 0, .bool false] 35) (hq : Quiet w w5) (hr : w.heap.size ≤ r2) (n1 : 1 ≤ n)
    (hrow : ∀ i, i < n → w5.cell? ⟨g', i, none⟩ = some (.int .i64 (d2.f i))) (hg : g' = g ∨ w.heap.size ≤ g') :
    AfterRef w n g q vw d2 (.pointer (some ⟨r2, 0, none⟩)) (((((w5.setCell ⟨r2, 0, none⟩ vw).setCell ⟨r2, 1, none⟩ (.int .i64 q)).setCell ⟨r2, 2, none⟩ (.slice (some ⟨g', 0, none⟩) n c')).setCell ⟨r2, 3, none⟩ (.int .i64 d2.p)).setCell ⟨r2, 4, none⟩ (.bool d2.b)) := by
  have hs := set5 w5 r2 vw (.int .i64 q) (.slice (some ⟨g', 0, none⟩) n c') (.int .i64 d2.p) (.bool d2.b)
  have hne : g' ≠ r2 := by
    rintro rfl
    have e := hrow 0 n1
    rw [hB.cell 0 rfl] at e
    cases e
  exact ⟨r2, g', c', rfl, ((((hB.set 0 vw).set 1 _).set 2 _).set 3 _).set 4 _, fun i hi => hs.cell (hrow i hi) hne, hg, hr, hq.then hs (fun i hi e => by omega)⟩

theorem AfterRef.mk2 {w w6 : World} {n g g' c' : Nat} {q : Int} {vw : Value} {d2 : D} (hq : Quiet w w6)
    (hrow : ∀ i, i < n → w6.cell? ⟨g', i, none⟩ = some (.int .i64 (d2.f i))) (hg : g' = g ∨ w.heap.size ≤ g') :
    AfterRef w n g q vw d2 (.pointer (some ⟨w6.heap.size, 0, none⟩)) (w6.alloc (.cells #[vw, .int .i64 q, .slice (some ⟨g', 0, none⟩) n c', .int .i64 d2.p, .bool d2.b] 35)) := by
  have hqa : Quiet w6 (w6.alloc (.cells #[vw, .int .i64 q, .slice (some ⟨g', 0, none⟩) n c', .int .i64 d2.p, .bool d2.b] 35)) := (Alters.refl _).alloc _
  exact ⟨_, g', c', rfl, Blk.new _ _ _, fun i hi => hqa.cell (hrow i hi) (by simp), hg, hq.size, hq.trans hqa⟩

/-- The reference's value is stored where it was. -/
theorem PlaysAt.stored {w0 w wx : World} {bd bg bl rb n : Nat} {q : Int} {wt : Nat → Int} {vw : Value} {d d2 : D} {g c g' c' : Nat} (h : PlaysAt w0 bd bg bl rb n q wt vw d2 d g c w) (hl : Lies w0 bd bg bl rb) (hrow : ∀ i, i < n → wx.cell? ⟨g', i, none⟩ = some (.int .i64 (d2.f i))) (hg : g' = g ∨ w.heap.size ≤ g') (hq : Quiet w wx) :
    PlaysAt w0 bd bg bl rb n q wt vw d2 d2 g' c' (((((wx.setCell ⟨rb, 0, none⟩ vw).setCell ⟨rb, 1, none⟩ (.int .i64 q)).setCell ⟨rb, 2, none⟩ (.slice (some ⟨g', 0, none⟩) n c')).setCell ⟨rb, 3, none⟩ (.int .i64 d2.p)).setCell ⟨rb, 4, none⟩ (.bool d2.b)) := by
  obtain ⟨l1, l2, l3, l4, l5, l6⟩ := hl
  have hs := set5 wx rb vw (.int .i64 q) (.slice (some ⟨g', 0, none⟩) n c') (.int .i64 d2.p) (.bool d2.b)
  have hb := h.drr.own.lt; have hb2 := h.drr.left.lt; have hb3 := h.ref.lt
  have ho : g' ≠ bd ∧ g' ≠ bl ∧ g' ≠ rb := by
    obtain ⟨g1, g2, g3⟩ := h.off
    rcases hg with rfl | hg
    · exact ⟨g1, g2, g3⟩
    · omega
  have hI := Quiet.drr hq h.drr
  refine ⟨⟨hs.blk hI.own (fun e => l4 e.symm), hs.blk hI.gain (fun e => l5 e.symm), hs.blk hI.left (fun e => l6 e.symm), hI.gd, hI.ld, hI.gl⟩, h.ok, h.ok, ⟨h.num.1, h.num.1⟩, ⟨h.gain.1, h.gain.1⟩, (((((hq.blk h.ref (by simp)).set 0 vw).set 1 _).set 2 _).set 3 _).set 4 _,
    fun i hi => hs.cell (hrow i hi) ho.2.2, ho, (h.quiet.trans hq).then hs (fun i hi e => by omega)⟩

theorem PlaysAt.still {w0 w w' : World} {bd bg bl rb n : Nat} {q : Int} {wt : Nat → Int} {vw : Value} {d d2 : D} {g c : Nat} (h : PlaysAt w0 bd bg bl rb n q wt vw d d2 g c w) (hq : Quiet w w') : PlaysAt w0 bd bg bl rb n q wt vw d d2 g c w' :=
  ⟨Quiet.drr hq h.drr, h.ok, h.okr, h.num, h.gain, hq.blk h.ref (by simp), fun i hi => hq.cell (h.row i hi) (by simp), h.off, h.quiet.trans hq⟩

set_option maxRecDepth 100000 in
set_option maxHeartbeats 4000000 in
theorem plays_walk (a la : Option Addr) (n cap ln lcap : Nat) (q : Int) (wt : Nat → Int) (L : Nat → Nat) (Z : Nat → Nat → Int) (w : World) (hn : n ≤ maxLen) (hln : ln ≤ maxLen) (hw : IntsIn w a n wt) (hl : ListsIn w la ln L Z) :
    Calls Try.prog 5 #[.slice a n cap, .int .i64 q, .slice la ln lcap] w fun e w' => e = .returned (.bool true) ∧ Below w.heap.size w w' := by
  have HW := Go.Lib.hid hw
  have HL := Go.Lib.hid hl
  have HN := Go.Lib.hid hn
  have HM := Go.Lib.hid hln
  have hfew := few_walk la ln lcap L Z
  have HF := Go.Lib.hid hfew
  unfold maxLen at hn hln
  clear hw hl hfew
  go_enter Try.func5, Try.ntmps5
  go_wp2_with (go_at_call 8; refine (awake_any _).mono ?_; rintro e w1 ⟨rfl, hq1⟩)
  have b1 : Below w.heap.size w w1 := hq1.below (Nat.le_refl _) (by simp)
  have hl1 : ListsIn w1 la ln L Z := fun h => by
    obtain ⟨b, off, rfl, hb, hz⟩ := HL.out h
    refine ⟨b, off, rfl, Nat.lt_of_lt_of_le hb b1.size, fun i hi => ?_⟩
    obtain ⟨a', cap', h1, h2, h3⟩ := hz i hi
    exact ⟨a', cap', (b1.cell (p := ⟨b, off + i, none⟩) hb).trans h1, h2, h3.below b1⟩
  refine (HF.out w1 HM.out hl1).mono ?_
  rintro e w2 ⟨⟨B, rfl, hB⟩, rfl⟩
  clear hl1
  cases B
  · clear hB
    go_wp2
    go_ret
    exact ⟨rfl, b1⟩
  · have HB := Go.Lib.hid (hB rfl)
    clear hB
    by_cases hn20 : 20 < n
    · go_wp2
      go_ret
      exact ⟨rfl, b1⟩
    · have l120 := HB.out.1
      have HC := Go.Lib.hid HB.out.2
      clear HB
      go_wp2_with fail
      refine (new_walk a n cap q wt w1 HN.out (HW.out.below b1)).mono ?_
      rintro e w2 ⟨hq2, hends⟩
      have b2 := b1.trans (hq2.below b1.size (by simp))
      have hnew := refnew_walk a n cap q wt w2 HN.out (HW.out.below b2)
      have HNEW := Go.Lib.hid hnew
      clear hnew
      rcases hends with ⟨hne, rfl⟩ | ⟨he, bd, bg, bl, rfl, hbd, hbg, hbl, hI⟩
      · go_wp2_with fail
        refine HNEW.out.mono ?_
        rintro e w3 ⟨hq3, ⟨hne3, rfl⟩ | ⟨he, -⟩⟩
        · have hc0 : (codeOf n q wt != 0) = true := by simpa using hne
          unfold zeroD
          clear hne hne3
          go_wp2_with fail
          refine (next_none_nil _ _ _ _).mono ?_
          rintro e w4 ⟨rfl, rfl⟩
          go_wp2
          go_ret
          exact ⟨rfl, b2.trans ((hq3.alloc _).alloc _ |>.below b2.size (by simp))⟩
        · exact absurd he hne
      · go_wp2_with fail
        refine HNEW.out.mono ?_
        rintro e w3 ⟨hq3, ⟨hne3, rfl⟩ | ⟨-, g, c, rfl, hg, hrow⟩⟩
        · exact absurd he hne3
        · unfold refD
          obtain ⟨n1, n8, q1, q64, hwt⟩ := code_zero he
          have hz := hq1.size
          have hz2 := hq2.size
          have l1 := hI.own.lt
          have l2 := hI.gain.lt
          have l3 := hI.left.lt
          have hz3 := hq3.size
          have R0 : PlaysRel w bd bg bl w3.heap.size n q wt (.slice a n cap) (w3.alloc (.cells #[.slice a n cap, .int .i64 q, .slice (some ⟨g, 0, none⟩) n c, .int .i64 0, .bool false] 35)) := by
            have hgl : g < w3.heap.size := block_lt_of_cell (hrow 0 (by omega))
            have hqa : Quiet w3 (w3.alloc (.cells #[.slice a n cap, .int .i64 q, .slice (some ⟨g, 0, none⟩) n c, .int .i64 0, .bool false] 35)) := (Alters.refl _).alloc _
            exact ⟨⟨n, fun i => q * wt i, fun _ => 0, 0, false⟩, g, c, Quiet.drr (hq3.trans hqa) hI, New_ok n q wt n1 n8 q1 q64 hwt, New_ok n q wt n1 n8 q1 q64 hwt, ⟨rfl, rfl⟩, ⟨rfl, rfl⟩, Blk.new _ _ _, fun i hi => hqa.cell (hrow i hi) (by simp), by omega, ((hq1.trans hq2).trans hq3).trans hqa⟩
          have HA := Go.Lib.hid (show Lies w bd bg bl w3.heap.size from ⟨by omega, by omega, by omega, by omega, by omega, by omega⟩)
          have HWT := Go.Lib.hid hwt
          clear hq2 he hbd hbg hbl hI hwt hq1 b1 hz hn20 HNEW b2 hq3 hz2 l1 l2 l3 hg hrow
          go_wp2
          clear hz3
          generalize w3.alloc _ = w4 at *
          generalize w3.heap.size = rb at *
          go_loopw [13] (fun i wr => ∃ k : Nat, k ≤ ln ∧ i = .int .i64 k ∧ PlaysRel w bd bg bl rb n q wt (.slice a n cap) wr) (fun i _ => ln - (intOf i).toNat)
          case atStart => exact ⟨0, Nat.zero_le _, rfl, R0⟩
          case round =>
            clear R0
            obtain ⟨k, hk, rfl, d, g1, c1, hT⟩ := hrel
            by_cases hlt : k < ln
            · obtain ⟨lb, lo, rfl, hlb, hz⟩ := HL.out (by omega)
              obtain ⟨a', cap', h1, h2, h3⟩ := hz k hlt
              have l20 := HC.out k hlt
              clear hz h2
              have H1 := Go.Lib.hid h1
              have H3 := Go.Lib.hid h3
              clear h1 h3
              have bQ : Below w.heap.size w wr := hT.quiet.below (Nat.le_refl _) (by simp)
              have c0 : wr.cell? ⟨lb, lo + k, none⟩ = some (.slice a' (L k) cap') := hT.quiet.cell H1.out (by simp)
              have HT := Go.Lib.hid hT
              clear hT
              go_wp2_with fail
              refine (next_any bd bg bl d a' (L k) cap' (Z k) w wr HT.out.drr HT.out.ok H3.out bQ HA.out.1 HA.out.2.1).mono ?_
              rintro e w5 hne
              obtain ⟨x, d2, rfl, hT5, hP⟩ := HT.out.next HA.out hne
              have HP := Go.Lib.hid hP
              have HT5 := Go.Lib.hid hT5
              clear hne HT bQ c0 hP hT5
              go_upto_region 17 with (fail)
              go_cut [15, 16] (fun v15 v16 wx => v16 = .int .i64 x ∧ AfterRef w5 n g1 q (.slice a n cap) d2 v15 wx)
              case first =>
                have HREF : Hid (∀ wx, Quiet w5 wx → Calls Try.prog 14 #[.agg #[.slice a n cap, .int .i64 q, .slice (some ⟨g1, 0, none⟩) n c1, .int .i64 d.p, .bool d.b], .slice a' (L k) cap'] wx fun e w' =>
                    ∃ g' c', e = .returned (.tuple #[.agg #[.slice a n cap, .int .i64 q, .slice (some ⟨g', 0, none⟩) n c', .int .i64 d2.p, .bool d2.b], .int .i64 x]) ∧ (g' = g1 ∨ w5.heap.size ≤ g') ∧ (∀ i, i < n → w'.cell? ⟨g', i, none⟩ = some (.int .i64 (d2.f i))) ∧ Quiet wx w' ∧ Quiet w5 w') := fun wx hq => by
                  have hqx := HT5.out.quiet.trans hq
                  refine (refnext_walk a' (L k) cap' n q wt (Z k) (.slice a n cap) g1 c1 d wx (by unfold maxLen; omega) (H3.out.below (hqx.below (Nat.le_refl _) (by simp))) ?_ (fun i hi => hq.cell (HT5.out.row i hi) (by simp)) HT5.out.okr HT5.out.num.2 HT5.out.gain.2 HWT.out).mono ?_
                  · obtain ⟨b, off, rfl, hb, hz⟩ := HW.out (by omega)
                    exact ⟨b, off, cap, rfl, fun i hi => hqx.cell (hz i hi) (by simp)⟩
                  · intro e w' he
                    obtain ⟨g', c', e1, e2, e3, e4⟩ := ref_twin he HP.out (fun i hi => hq.cell (HT5.out.row i hi) (by simp))
                    exact ⟨g', c', e1, e2.imp_right (Nat.le_trans hq.size), e3, e4, hq.trans e4⟩
                have HS : Hid (∀ w', Quiet w5 w' → w'.cell? ⟨rb, 0, none⟩ = some (.slice a n cap) ∧ w'.cell? ⟨rb, 1, none⟩ = some (.int .i64 q) ∧ w'.cell? ⟨rb, 2, none⟩ = some (.slice (some ⟨g1, 0, none⟩) n c1) ∧ w'.cell? ⟨rb, 3, none⟩ = some (.int .i64 d.p) ∧ w'.cell? ⟨rb, 4, none⟩ = some (.bool d.b) ∧ w'.cell? ⟨lb, lo + k, none⟩ = some (.slice a' (L k) cap')) := fun w' hq => by
                  have hb := hq.blk HT5.out.ref (by simp)
                  exact ⟨hb.cell 0 rfl, hb.cell 1 rfl, hb.cell 2 rfl, hb.cell 3 rfl, hb.cell 4 rfl, (HT5.out.quiet.trans hq).cell H1.out (by simp)⟩
                go_region_held3 (fun w' => w'.cell? ⟨rb, 0, none⟩ = some (.slice a n cap) ∧ w'.cell? ⟨rb, 1, none⟩ = some (.int .i64 q) ∧ w'.cell? ⟨rb, 2, none⟩ = some (.slice (some ⟨g1, 0, none⟩) n c1) ∧ w'.cell? ⟨rb, 3, none⟩ = some (.int .i64 d.p) ∧ w'.cell? ⟨rb, 4, none⟩ = some (.bool d.b) ∧ w'.cell? ⟨lb, lo + k, none⟩ = some (.slice a' (L k) cap'))
                  ((refine HS.out _ ?_; first
                    | with_reducible exact hq56
                    | with_reducible exact hq56.alloc _
                    | with_reducible exact (Alters.refl _).drew
                    | with_reducible exact ((Alters.refl _).alloc _).drew
                    | with_reducible exact quiet_set5 hq56 (Nat.le_refl _) _ _ _ _ _))
                  (first
                  | (go_at_call 14; refine (HREF.out _ (by first | with_reducible exact (Alters.refl _).drew | with_reducible exact ((Alters.refl _).alloc _).drew)).mono ?_; rintro e w6 ⟨g', c', rfl, hg', hrow', hq6, hq56⟩; try (have hB6 := hq6.blk (show Blk (w5.alloc (.cells #[.slice none 0 0, .int .i64 0, .slice none 0 0, .int .i64 0, .bool false] 35)).drew w5.heap.size _ 35 from Blk.new w5 _ 35) (by simp); have ff6 := fun i => hB6.free i; have f0 := hB6.cell 0 rfl; have f1 := hB6.cell 1 rfl; have f2 := hB6.cell 2 rfl; have f3 := hB6.cell 3 rfl; have f4 := hB6.cell 4 rfl; clear hB6)))
                all_goals
                  go_wp2
                  go_meet
                  refine ⟨rfl, ?_⟩
                  first
                  | with_reducible exact AfterRef.mk2 hq56 hrow' hg'
                  | with_reducible exact AfterRef.mk (hq6.blk (Blk.new w5 _ 35).drew (fun h => h)) hq56 (Nat.le_refl _) (by omega) hrow' hg'
              case rest =>
                obtain ⟨rfl, hAR⟩ := hcut
                obtain ⟨r2, g', c', rfl, hB2, hrow2, hg2, hr2, hq2⟩ := hAR
                have z0 := hB2.cell 0 rfl
                have z1 := hB2.cell 1 rfl
                have z2 := hB2.cell 2 rfl
                have z3 := hB2.cell 3 rfl
                have z4 := hB2.cell 4 rfl
                have hb := hq2.blk HT5.out.ref (by simp)
                have fz := fun i => hb.free i
                have y0 := hb.cell 0 rfl
                have y1 := hb.cell 1 rfl
                have y2 := hb.cell 2 rfl
                have y3 := hb.cell 3 rfl
                have y4 := hb.cell 4 rfl
                have HT6 := Go.Lib.hid (PlaysAt.stored (c' := c') HT5.out HA.out hrow2 hg2 hq2)
                clear hB2 hrow2 hg2 hr2 hq2 HP hb
                go_wp2_with fail
                clear z0 z1 z2 z3 z4 fz y0 y1 y2 y3 y4
                generalize (((((wc.setCell _ _).setCell _ _).setCell _ _).setCell _ _).setCell _ _) = w6 at *
                refine (turn_walk bd bg bl d2 w6 HT6.out.drr).mono ?_
                rintro e w7 ⟨rfl, hq7⟩
                have HT7 := Go.Lib.hid (HT6.out.still hq7)
                clear hq7
                go_wp2_with fail
                refine (left_walk bd bg bl d2 w7 HT7.out.drr (by rw [HT7.out.num.1]; exact n1) (by rw [HT7.out.num.1]; exact n8)).mono ?_
                rintro e w8 ⟨v, rfl, ⟨gv, vcap, rfl, hrow⟩, hq8⟩
                have HT8 := Go.Lib.hid (HT7.out.still hq8)
                rw [HT7.out.num.1] at hrow
                rw [HT7.out.num.1]
                have HR := Go.Lib.hid hrow
                have m2 := HT8.out.ref.cell 2 rfl
                have m3 := HT8.out.ref.cell 3 rfl
                have m4 := HT8.out.ref.cell 4 rfl
                clear hq8 hrow HT5 HT6 HT7
                go_wp2
                clear m3 m4
                go_loopw [20] (fun kk wr2 => ∃ m nd : Nat, m ≤ n ∧ kk = .int .i64 m ∧ wr2 = w8.drewN nd) (fun kk _ => n - (intOf kk).toNat)
                case atStart => exact ⟨0, 0, Nat.zero_le _, rfl, rfl⟩
                case round =>
                  obtain ⟨m, nd, hm, rfl, rfl⟩ := hrel
                  by_cases hmt : m < n
                  · have z1 : w8.cell? ⟨gv, m, none⟩ = some (.int .i64 (d2.f m)) := HR.out m hmt
                    have z2 := HT8.out.row m hmt
                    go_wp2
                    go_quiet (fail)
                    go_wp2
                    go_roundw
                    case rel => exact ⟨m + 1, _, by omega, by go_num, rfl⟩
                    case measure => simp [intOf]; omega
                  · clear HR m2
                    go_wp2
                    go_roundw
                    case rel => exact ⟨k + 1, by omega, by go_num, d2, g', c', HT8.out.still ((Alters.refl _).drewN _)⟩
                    case measure => simp [intOf]; omega
            · have hQ := hT.quiet
              go_wp2
              go_ret
              exact ⟨rfl, hQ.below (Nat.le_refl _) (by simp)⟩

section
open Go.ChangeShapes Go.WideShapes Go.ChangeAt
theorem drrPlays_run {H : Type} {enc : TypeId × Value → H} (W : World) (v0 v1 v2 : Value) (d0 d1 d2 : DataW H) (p0 p1 p2 : List MemPlace)
    (k0 : Value.okWide Try.prog W .any 0 22 v0) (h0 : DataW.Trod enc Try.prog W 0 (fun _ => true) true 22 v0 d0 p0)
    (k1 : Value.okWide Try.prog W .any 0 3 v1) (h1 : DataW.Trod enc Try.prog W 0 (fun _ => true) true 3 v1 d1 p1)
    (k2 : Value.okWide Try.prog W .any 0 23 v2) (h2 : DataW.Trod enc Try.prog W 0 (fun _ => true) true 23 v2 d2 p2) :
    Calls Try.prog 5 #[v0, v1, v2] W fun e w' => e = .returned (.bool true) ∧ Below W.heap.size W w' := by
  obtain ⟨a, n, cap, wt, rfl, hn, _, hc⟩ := open_ints_at Try.underlying22 Try.underlying3 (by kernel_rfl) k0 h0
  obtain ⟨q, rfl, wq⟩ := open_i Try.underlying3 k1 h1
  obtain ⟨la, ln, lcap, L, Z, rfl, hln, hl⟩ := open_lists k2 h2
  exact plays_walk a la n cap ln lcap q wt L Z W hn hln hc hl


theorem drrPlays_own : ownKnob Try.prog.godebug = none := by kernel_rfl
theorem drrPlays_laidOut : laidOutB Try.prog = true := by kernel_rfl

set_option maxRecDepth 100000 in
theorem drrPlays_lifted (os : Os) (started : os.Started) (H : Type) (enc : TypeId × Value → H) :
    ReturnsInHanded {} Try.checked os 5 .any (Rows.drrPlaysSpec.pre6 enc Try.prog Try.f5 Rows.drrPlaysRow.domain false) (Rows.drrPlaysSpec.post enc Try.prog Try.f5 false true false false) := by
  refine returnsInHanded_of_change (C := Try.checked) drrPlays_own started (by kernel_rfl) Try.func5
    (ChangeSpec.witness6 (enc := enc) (C := Try.checked) false ⟨#[], #[.slice none 0 0, .int .i64 0, .slice none 0 0], []⟩ 8 (by kernel_rfl) (by kernel_rfl) (by kernel_rfl) (by kernel_rfl)) ?_
  intro W base args ds gs before hval0 hW hcnd _
  have hval : ∀ (j : Nat) t v, Try.f5.params[j]? = some t → args[j]? = some v → Value.okWide Try.prog W .any base t v := hval0
  have hW' := hW
  obtain ⟨p, q, hA0, hV, rfl, hfz, hnd⟩ := hW
  have hA : DataW.TrodAll enc Try.prog W 0 (fun _ => true) true Try.f5.params.toList args.toList ds p := hA0
  rw [Try.params5] at hA hval
  obtain ⟨v0, vs0, d0, ds0, p0, q0, hargs, rfl, rfl, h0, r0⟩ := trodAll_cons hA
  obtain ⟨v1, vs1, d1, ds1, p1, q1, rfl, rfl, rfl, h1, r1⟩ := trodAll_cons r0
  obtain ⟨v2, vs2, d2, ds2, p2, q2, rfl, rfl, rfl, h2, r2⟩ := trodAll_cons r1
  obtain ⟨rfl, rfl, rfl⟩ := trodAll_nil r2
  obtain rfl : args = #[v0, v1, v2] := by cases args; simp_all
  obtain ⟨rfl, rfl⟩ := trodVars_none hV
  have lt0 : ∀ x ∈ p0, x.block < W.heap.size := by obtain ⟨m, hm⟩ := h0; exact DataW.trod_lt m _ _ _ hm
  have lt1 : ∀ x ∈ p1, x.block < W.heap.size := by obtain ⟨m, hm⟩ := h1; exact DataW.trod_lt m _ _ _ hm
  have lt2 : ∀ x ∈ p2, x.block < W.heap.size := by obtain ⟨m, hm⟩ := h2; exact DataW.trod_lt m _ _ _ hm
  clear hA0
  refine (drrPlays_run W v0 v1 v2 d0 d1 d2 p0 p1 p2 (hval 0 22 v0 rfl rfl) h0 (hval 1 3 v1 rfl rfl) h1 (hval 2 23 v2 rfl rfl) h2).mono fun e W' ⟨he, bel⟩ => ?_
  subst he
  exact ⟨_, rfl, _, _, _, [], _, [], hW', trodAll_mk1 (shut_bool Try.underlying4 _), (trodAll_cons_mk (Below.trod drrPlays_laidOut (by kernel_rfl) (of_decide_eq_true (by kernel_rfl)) h0 bel lt0) (trodAll_cons_mk (Below.trod drrPlays_laidOut (by kernel_rfl) (of_decide_eq_true (by kernel_rfl)) h1 bel lt1) (trodAll_cons_mk (Below.trod drrPlays_laidOut (by kernel_rfl) (of_decide_eq_true (by kernel_rfl)) h2 bel lt2) trodAll_mk0))), rfl, bel.frame _, fun h => by cases h⟩

/-- The given statement. -/
theorem drrPlays_holds : Rows.DrrPlaysSaid :=
  OpenClaim.holds_of_wide 5 Try.f5 rfl rfl rfl rfl rfl rfl rfl ⟨rfl, rfl, rfl, rfl, rfl⟩ rfl rfl rfl rfl rfl (by kernel_rfl) Try.func5 (by kernel_rfl)
    (of_decide_eq_true (by kernel_rfl)) (by unfold Func.isWrapper; first | (rw [if_pos (by decide +kernel)]; kernel_rfl) | (rw [if_neg (by decide +kernel)]; exact ⟨rfl, rfl⟩))
    (fun os started H enc _ => drrPlays_lifted os started H enc)
#print axioms drrPlays_holds

end
end Go.Proofs.Ytoebhifnfomkhaa
