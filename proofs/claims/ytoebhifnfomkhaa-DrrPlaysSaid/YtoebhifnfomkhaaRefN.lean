/- The walk of the reference's Next: it computes the same visits. No condition. -/
import Derived.Test.YtoebhifnfomkhaaRefs
import Derived.Deep.DeepCutAuto
import Derived.Deep.LoopGhost
namespace Go.Proofs.Ytoebhifnfomkhaa
open Go.RowKit Go.Lo Go.WideShapes

/-- How the reference stands while it visits: its value in block bd, a cell for the result in block br, its deficits in block g. -/
structure RefM (w0 : World) (lg bd br n : Nat) (q : Int) (vw : Value) (g cap : Nat) (f : Nat → Int) (p : Nat) (b : Bool) (w : World) : Prop where
  own : Blk w bd #[vw, .int .i64 q, .slice (some ⟨g, 0, none⟩) n cap, .int .i64 p, .bool b] 35
  row : ∀ i, i < n → w.cell? ⟨g, i, none⟩ = some (.int .i64 (f i))
  res : Blk w br #[.slice none 0 0, .int .i64 0, .slice none 0 0, .int .i64 0, .bool false] 35
  gd : g ≠ bd
  gr : g ≠ br
  ne : br ≠ bd
  le : w0.heap.size ≤ bd
  n1 : 1 ≤ n
  new : g = lg ∨ w0.heap.size ≤ g
  quiet : Quiet w0 w

theorem RefM.drewN {w0 : World} {lg bd br n : Nat} {q : Int} {vw : Value} {g cap : Nat} {f : Nat → Int} {p : Nat} {b : Bool} {w : World} (h : RefM w0 lg bd br n q vw g cap f p b w) (k : Nat) : RefM w0 lg bd br n q vw g cap f p b (w.drewN k) :=
  ⟨h.own, h.row, h.res, h.gd, h.gr, h.ne, h.le, h.n1, h.new, h.quiet.drewN k⟩

theorem RefM.drew {w0 : World} {lg bd br n : Nat} {q : Int} {vw : Value} {g cap : Nat} {f : Nat → Int} {p : Nat} {b : Bool} {w : World} (h : RefM w0 lg bd br n q vw g cap f p b w) : RefM w0 lg bd br n q vw g cap f p b w.drew :=
  ⟨h.own, h.row, h.res, h.gd, h.gr, h.ne, h.le, h.n1, h.new, h.quiet.drew⟩

/-- A fresh list of deficits is stored. -/
theorem RefM.put {w0 : World} {lg bd br n : Nat} {q : Int} {vw : Value} {g cap : Nat} {f : Nat → Int} {p : Nat} {b : Bool} {w w1 : World} (h : RefM w0 lg bd br n q vw g cap f p b w) (hv : ∃ a l c, vw = .slice a l c) (hq : Quiet w w1) {g' cap' : Nat} {f' : Nat → Int} (hg : w.heap.size ≤ g')
    (hr : ∀ i, i < n → w1.cell? ⟨g', i, none⟩ = some (.int .i64 (f' i))) : RefM w0 lg bd br n q vw g' cap' f' p b (w1.setCell ⟨bd, 2, none⟩ (.slice (some ⟨g', 0, none⟩) n cap')) := by
  obtain ⟨a, l, c, rfl⟩ := hv
  have h1 := hq.blk h.own (by simp)
  have h2 := hq.blk h.res (by simp)
  have n1 : g' ≠ bd := by
    rintro rfl
    have e := hr 0 h.n1
    rw [h1.cell 0 rfl] at e
    cases e
  have n2 : g' ≠ br := by
    rintro rfl
    have e := hr 0 h.n1
    rw [h2.cell 0 rfl] at e
    cases e
  refine ⟨h1.set 2 _, fun i hi => ?_, h2.set_other h.ne _, n1, n2, h.ne, h.le, h.n1, .inr (Nat.le_trans h.quiet.size hg), (h.quiet.trans hq).set (q := ⟨bd, 2, none⟩) (fun hl => absurd hl (Nat.not_lt.2 h.le)) _⟩
  exact ((Alters.refl (p := fun k => k = bd) w1).set (q := ⟨bd, 2, none⟩) (fun _ => rfl) _).cell (hr i hi) n1

/-- The visit has begun. -/
theorem RefM.begin {w0 : World} {lg bd br n : Nat} {q : Int} {vw : Value} {g cap : Nat} {f : Nat → Int} {p : Nat} {b : Bool} {w : World} (h : RefM w0 lg bd br n q vw g cap f p b w) : RefM w0 lg bd br n q vw g cap f p true (w.setCell ⟨bd, 4, none⟩ (.bool true)) := by
  refine ⟨h.own.set 4 _, fun i hi => ?_, h.res.set_other h.ne _, h.gd, h.gr, h.ne, h.le, h.n1, h.new, h.quiet.set (q := ⟨bd, 4, none⟩) (fun hl => absurd hl (Nat.not_lt.2 h.le)) _⟩
  exact ((Alters.refl (p := fun k => k = bd) w).set (q := ⟨bd, 4, none⟩) (fun _ => rfl) _).cell (h.row i hi) h.gd

/-- The whole value is stored. -/
theorem RefM.whole {w0 : World} {lg bd br n : Nat} {q : Int} {vw : Value} {g cap : Nat} {f : Nat → Int} {p : Nat} {b : Bool} {w w1 : World} (h : RefM w0 lg bd br n q vw g cap f p b w) (hq : Quiet w w1) (p' : Nat) (b' : Bool) :
    RefM w0 lg bd br n q vw g cap f p' b' (((((w1.setCell ⟨bd, 0, none⟩ vw).setCell ⟨bd, 1, none⟩ (.int .i64 q)).setCell ⟨bd, 2, none⟩ (.slice (some ⟨g, 0, none⟩) n cap)).setCell ⟨bd, 3, none⟩ (.int .i64 p')).setCell ⟨bd, 4, none⟩ (.bool b')) := by
  have h1 := hq.blk h.own (by simp)
  have h2 := hq.blk h.res (by simp)
  have hs := set5 w1 bd vw (.int .i64 q) (.slice (some ⟨g, 0, none⟩) n cap) (.int .i64 p') (.bool b')
  exact ⟨((((h1.set 0 vw).set 1 _).set 2 _).set 3 _).set 4 _, fun i hi => hs.cell (hq.cell (h.row i hi) (by simp)) h.gd, hs.blk h2 h.ne, h.gd, h.gr, h.ne, h.le, h.n1, h.new,
    (h.quiet.trans hq).then hs (fun i hi e => by have := h.le; omega)⟩

def RefEnds (w0 : World) (z : Nat → Int) (n : Nat) (q : Int) (vw : Value) (lg lc : Nat) (d0 : D) (len : Nat) (e : Ending) (w : World) : Prop :=
  Quiet w0 w ∧ (((∃ j, j < len ∧ 0 < z j) ∧ len = n ∧ ∃ d' k g' c', Runs z d0 d' k ∧ e = .returned (.tuple #[refD vw (.slice (some ⟨g', 0, none⟩) n c') q d'.p d'.b, .int .i64 k]) ∧ (g' = lg ∨ w0.heap.size ≤ g') ∧ ∀ i, i < n → w.cell? ⟨g', i, none⟩ = some (.int .i64 (d'.f i))) ∨
    ((len ≠ n ∨ ∀ j, j < len → z j ≤ 0) ∧ e = .returned (.tuple #[refD vw (.slice (some ⟨lg, 0, none⟩) n lc) q d0.p d0.b, .int .i64 (-1)])))

set_option maxRecDepth 100000 in
set_option maxHeartbeats 4000000 in
theorem refnext_walk (a : Option Addr) (len cap n : Nat) (q : Int) (wt z : Nat → Int) (vw : Value) (lg lc : Nat) (d0 : D) (w : World) (hl : len ≤ maxLen) (hz : IntsIn w a len z) (hw : ∃ wb wo wc, vw = .slice (some ⟨wb, wo, none⟩) n wc ∧ ∀ i, i < n → w.cell? ⟨wb, wo + i, none⟩ = some (.int .i64 (wt i))) (hlc : ∀ i, i < n → w.cell? ⟨lg, i, none⟩ = some (.int .i64 (d0.f i)))
    (ok : d0.Ok) (hn : d0.n = n) (hg : d0.g = fun i => q * wt i) (hwt : ∀ i, i < n → 1 ≤ wt i ∧ wt i ≤ 16) :
    Calls Try.prog 14 #[refD vw (.slice (some ⟨lg, 0, none⟩) n lc) q d0.p d0.b, .slice a len cap] w (RefEnds w z n q vw lg lc d0 len) := by
  have HZ := Go.Lib.hid hz
  obtain ⟨wg, wo, wcp, rfl, hwc⟩ := hw
  have HWT := Go.Lib.hid hwt
  have HWC := Go.Lib.hid hwc
  have HLC := Go.Lib.hid hlc
  have n8 := ok.n8
  have n1 := ok.n1
  have HOK := Go.Lib.hid ok
  have HN := Go.Lib.hid hn
  have HG := Go.Lib.hid hg
  unfold maxLen at hl
  unfold refD
  clear hz hwt hwc hlc ok hn hg
  go_enter Try.func14, Try.ntmps14
  go_wp2
  have R0 : RefM w lg w.heap.size (w.heap.size + 1) n q (.slice (some ⟨wg, wo, none⟩) n wcp) lg lc d0.f d0.p d0.b ((w.alloc (.cells #[.slice (some ⟨wg, wo, none⟩) n wcp, .int .i64 q, .slice (some ⟨lg, 0, none⟩) n lc, .int .i64 d0.p, .bool d0.b] 35)).alloc (.cells #[.slice none 0 0, .int .i64 0, .slice none 0 0, .int .i64 0, .bool false] 35)) := by
    have hlt : lg < w.heap.size := block_lt_of_cell (HLC.out 0 (by have := HN.out; omega))
    refine ⟨(Blk.new _ _ _).alloc _, fun i hi => (((Alters.refl (p := fun _ => False) _).alloc _).alloc _).cell (HLC.out i hi) (by simp), ?_, by omega, by omega, by omega, by omega, by have := HN.out; omega, .inl rfl, ((Alters.refl _).alloc _).alloc _⟩
    have := Blk.new (w.alloc (.cells #[.slice (some ⟨wg, wo, none⟩) n wcp, .int .i64 q, .slice (some ⟨lg, 0, none⟩) n lc, .int .i64 d0.p, .bool d0.b] 35)) #[.slice none 0 0, .int .i64 0, .slice none 0 0, .int .i64 0, .bool false] 35
    simpa using this
  have hB0 : Blk ((w.alloc (.cells #[.slice (some ⟨wg, wo, none⟩) n wcp, .int .i64 q, .slice (some ⟨lg, 0, none⟩) n lc, .int .i64 d0.p, .bool d0.b] 35)).alloc (.cells #[.slice none 0 0, .int .i64 0, .slice none 0 0, .int .i64 0, .bool false] 35)) w.heap.size #[.slice (some ⟨wg, wo, none⟩) n wcp, .int .i64 q, .slice (some ⟨lg, 0, none⟩) n lc, .int .i64 d0.p, .bool d0.b] 35 := (Blk.new _ _ _).alloc _
  have hsz : w.heap.size < ((w.alloc (.cells #[.slice (some ⟨wg, wo, none⟩) n wcp, .int .i64 q, .slice (some ⟨lg, 0, none⟩) n lc, .int .i64 d0.p, .bool d0.b] 35)).alloc (.cells #[.slice none 0 0, .int .i64 0, .slice none 0 0, .int .i64 0, .bool false] 35)).heap.size := by simp; omega
  generalize (w.alloc _).alloc _ = w1 at *
  go_loop [6, 7] (fun v i => ∃ k : Nat, k ≤ len ∧ i = .int .i64 k ∧ v = .bool (anyB z k)) (fun _ i => len - (intOf i).toNat)
  case atStart => exact ⟨0, Nat.zero_le _, rfl, rfl⟩
  case round =>
    obtain ⟨k, hk, rfl, rfl⟩ := hrel
    by_cases hlt : k < len
    · obtain ⟨b, off, rfl, hb, hz⟩ := HZ.out (by omega)
      have hzk : w1.cell? ⟨b, off + k, none⟩ = some (.int .i64 (z k)) := R0.quiet.cell (hz k hlt) (by simp)
      have HR := Go.Lib.hid R0
      clear hz R0
      have e1 : anyB z (k + 1) = (anyB z k || decide (0 < z k)) := rfl
      have E1 := Go.Lib.hid e1
      clear e1
      cases hB : anyB z k
      · by_cases hp : 0 < z k
        · have HE := Go.Lib.hid (show anyB z (k + 1) = true by simp [anyB, hp])
          go_wp2
          go_round
          case rel => exact ⟨k + 1, by omega, by go_num, by rw [HE.out]⟩
          case measure => simp [intOf]; omega
        · have HE := Go.Lib.hid (show anyB z (k + 1) = false by simp [anyB, hB, hp])
          go_wp2
          go_round
          case rel => exact ⟨k + 1, by omega, by go_num, by rw [HE.out]⟩
          case measure => simp [intOf]; omega
      · have HE := Go.Lib.hid (show anyB z (k + 1) = true by simp [anyB, hB])
        go_wp2
        go_round
        case rel => exact ⟨k + 1, by omega, by go_num, by rw [HE.out]⟩
        case measure => simp [intOf]; omega
    · obtain rfl : k = len := by omega
      have c0 := hB0.cell 0 rfl
      have c1 := hB0.cell 1 rfl
      have c2 := hB0.cell 2 rfl
      have c3 := hB0.cell 3 rfl
      have c4 := hB0.cell 4 rfl
      have bne : (((k : Nat) : Int) != (n : Int)) = decide (k ≠ n) := by
        by_cases e : k = n
        · simp [e]
        · have : ¬ ((k : Int) = (n : Int)) := by omega
          simp [e, this]
      have r0 := R0.res.cell 0 rfl
      have r1 := R0.res.cell 1 rfl
      have r2 := R0.res.cell 2 rfl
      have r3 := R0.res.cell 3 rfl
      have r4 := R0.res.cell 4 rfl
      have ff := fun i => R0.res.free i
      have HR := Go.Lib.hid R0
      clear R0
      have none : k ≠ n ∨ (∀ j, j < k → z j ≤ 0) → RefEnds w z n q (.slice (some ⟨wg, wo, none⟩) n wcp) lg lc d0 k (.returned (.tuple #[.agg #[.slice (some ⟨wg, wo, none⟩) n wcp, .int .i64 q, .slice (some ⟨lg, 0, none⟩) n lc, .int .i64 d0.p, .bool d0.b], .int .i64 (-1)])) (((((w1.setCell ⟨w.heap.size + 1, 0, none⟩ (.slice (some ⟨wg, wo, none⟩) n wcp)).setCell ⟨w.heap.size + 1, 1, none⟩ (.int .i64 q)).setCell ⟨w.heap.size + 1, 2, none⟩ (.slice (some ⟨lg, 0, none⟩) n lc)).setCell ⟨w.heap.size + 1, 3, none⟩ (.int .i64 d0.p)).setCell ⟨w.heap.size + 1, 4, none⟩ (.bool d0.b)) :=
        fun h => ⟨HR.out.quiet.then (set5 _ _ _ _ _ _ _) (fun i hi e => by omega), .inr ⟨h, rfl⟩⟩
      have HNO := Go.Lib.hid none
      clear none
      by_cases hln : k = n
      · cases hB : anyB z k
        · have bd : decide (k ≠ n) = false := by simp [hln]
          have HLN := Go.Lib.hid hln
          have HBB := Go.Lib.hid hB
          clear hln
          go_wp2
          refine bodyPost_ret (v := .tuple #[refD (.slice (some ⟨wg, wo, none⟩) n wcp) (.slice (some ⟨lg, 0, none⟩) n lc) q d0.p d0.b, .int .i64 (-1)]) (by simp [results, Try.results14, go_sem, refD, r0, r1, r2, r3, r4]) rfl (HNO.out ?_)
          exact .inr fun j hj => by
            rcases Int.lt_or_le 0 (z j) with h | h
            · have := (anyB_iff z k).2 ⟨j, hj, h⟩; rw [HBB.out] at this; cases this
            · exact h
        · obtain ⟨j, hj, hzj⟩ := (anyB_iff z k).1 hB
          subst hln
          obtain ⟨cb, off, rfl, hcb, hz⟩ := HZ.out (by omega)
          have hzc : ∀ i, i < k → w1.cell? ⟨cb, off + i, none⟩ = some (.int .i64 (z i)) := fun i hi => HR.out.quiet.cell (hz i hi) (by simp)
          have HZC := Go.Lib.hid hz
          have hJ := Go.Lib.hid (And.intro hj hzj)
          have bd : decide (k ≠ k) = false := by simp
          clear hz hzc HNO c0 c1 c2 c3 c4 r0 r1 r2 r3 r4 ff HZ
          have c2 := hB0.cell 2 rfl
          clear hB0
          go_wp2
          clear c2
          go_loopg [8] (left j d0) (fun m v wr => ∃ (d : D) (g cg : Nat), m = left j d ∧ RefM w lg w.heap.size (w.heap.size + 1) k q (.slice (some ⟨wg, wo, none⟩) k wcp) g cg d.f d.p d.b wr ∧ d.Ok ∧ d.n = k ∧ d.g = (fun i => q * wt i) ∧ Go.RowKit.Hid (∀ d' k', Runs z d d' k' → Runs z d0 d' k'))
          case atStart => exact ⟨d0, lg, lc, rfl, HR.out, HOK.out, HN.out, HG.out, fun _ _ h => h⟩
          case round =>
            obtain ⟨⟨n', dg, f, p, b⟩, g, cg, hm, hR, ok, hn', hg', HRun⟩ := hrel
            simp only at hn' hg' hR
            subst hn' hg'
            have HM := Go.Lib.hid hm
            have m0 := hR.own.cell 0 rfl
            have m1 := hR.own.cell 1 rfl
            have m2 := hR.own.cell 2 rfl
            have m3 := hR.own.cell 3 rfl
            have m4 := hR.own.cell 4 rfl
            have fd := fun i => hR.own.free i
            have fr := fun i => hR.res.free i
            have p1 : p < n' := ok.p1
            have n8' : n' ≤ 8 := ok.n8
            have zp : wr.cell? ⟨cb, off + p, none⟩ = some (.int .i64 (z p)) := hR.quiet.cell (HZC.out p p1) (by simp)
            have lp := hR.row p p1
            have wp := hR.quiet.cell (HWC.out p p1) (by simp)
            have f0 : 0 ≤ f p := ok.f0 p p1
            have HW1 := (HWT.out p p1)
            have HS := Go.Lib.hid hR
            have HP := Go.Lib.hid ok
            have hww : ∃ a l c, Value.slice (some ⟨wg, wo, none⟩) n' wcp = .slice a l c := ⟨_, _, _, rfl⟩
            have HVW := Go.Lib.hid hww
            clear hm hR ok hww HR
            by_cases hx : z p ≤ 0
            · have hne : p ≠ j := fun e => by subst e; have := hJ.out.2; omega
              have HNE := Go.Lib.hid hne
              have hc0 : Hid (cl (z p) ≤ 0) := by show cl (z p) ≤ 0; unfold cl; split <;> omega
              clear hne
              go_wp2_with fail
              refine (with_walk _ n' p f 0 wr ⟨g, cg, rfl, HS.out.row⟩ n8' p1).mono ?_
              rintro e w3 ⟨g3, c3, rfl, hg3, hr3, hq3⟩
              have hb3 := hq3.blk HS.out.own (by simp)
              have b0 := hb3.cell 0 rfl
              have b1 := hb3.cell 1 rfl
              have b2 := hb3.cell 2 rfl
              have b3 := hb3.cell 3 rfl
              have b4 := hb3.cell 4 rfl
              have fd3 := fun i => hb3.free i
              have HS3 := Go.Lib.hid (HS.out.put HVW.out hq3 (cap' := c3) hg3 hr3)
              clear hb3 hr3 hq3 hg3 m0 m1 m2 m3 m4 fd fr zp lp wp
              go_wp2_with fail
              refine (on_walk _ _ _ _ n' _ q p b _ (by have := HP.out.n1; simpa using this) n8' p1).mono ?_
              rintro e w4 ⟨he, hq4⟩
              unfold refD at he
              subst he
              have hb4 := hq4.blk HS3.out.own (by simp)
              have b0 := hb4.cell 0 rfl
              have b1 := hb4.cell 1 rfl
              have b2 := hb4.cell 2 rfl
              have b3 := hb4.cell 3 rfl
              have b4 := hb4.cell 4 rfl
              have fd4 := fun i => hb4.free i
              have HS4 := Go.Lib.hid (HS3.out.whole hq4 ((p + 1) % n') false)
              clear hb4 hq4 fd3
              go_wp2
              go_roundg (left j (D.pass (D.zero ⟨n', fun i => q * wt i, f, p, b⟩)))
              case measure => rw [HM.out]; exact left_skip j _ HP.out hJ.out.1 HNE.out
              case rel => exact ⟨_, g3, c3, rfl, HS4.out, HP.out.skipped, rfl, rfl, fun d' k' h => HRun.out d' k' (Runs.skip _ _ _ hc0.out h)⟩
            · have hx' : 0 < z p := by omega
              clear hx
              go_upto_if 40 with (fail)
              go_cut [8] (fun v8 wx => v8 = .int .i64 (cl (z p)) ∧ wx = wr)
              case first =>
                rcases Int.lt_or_le 64 (z p) with h64 | h64
                · have HCC := Go.Lib.hid (show cl (z p) = 64 by unfold cl; split <;> omega)
                  go_wp2
                  go_meet
                  exact ⟨by rw [HCC.out], rfl⟩
                · have HCC := Go.Lib.hid (show cl (z p) = z p by unfold cl; split <;> omega)
                  go_wp2
                  go_meet
                  exact ⟨by rw [HCC.out], rfl⟩
              case rest =>
                obtain ⟨rfl, rfl⟩ := hcut
                have hc0 : 0 < cl (z p) := by unfold cl; split <;> omega
                have hc64 : cl (z p) ≤ 64 := cl_le _
                generalize hcv : cl (z p) = cv at *
                have HCV := Go.Lib.hid hcv
                clear hcv
                go_upto_if 53 with (fail)
                go_cut [] (fun wx => ∃ g5 c5, RefM w lg w.heap.size (w.heap.size + 1) n' q (.slice (some ⟨wg, wo, none⟩) n' wcp) g5 c5 (D.start ⟨n', fun i => q * wt i, f, p, b⟩).f p true wx)
                case first =>
                  cases b
                  · have HSB := Go.Lib.hid HS.out.begin
                    have gq1 : 1 ≤ q * wt p := HP.out.g1 p p1
                    have gq2 : q * wt p ≤ 1024 := HP.out.g2 p p1
                    have f1 : f p ≤ 63 := by have h9 : f p ≤ 63 + (if p = p ∧ false = true then q * wt p else 0) := HP.out.f1 p p1; simpa using h9
                    have v1 : IntKind.i64.wrap (q * wt p) = q * wt p := Go.IntWalk.i64_in _ (by omega)
                    have v2 : IntKind.i64.wrap (f p + q * wt p) = f p + q * wt p := Go.IntWalk.i64_in _ (by omega)
                    have e1 : ¬ g = w.heap.size := HS.out.gd
                    have e2 : ¬ w.heap.size = g := fun e => e1 e.symm
                    have e3 : ¬ wg = w.heap.size := by have := block_lt_of_cell (HWC.out p p1); simp at this; omega
                    have e4 : ¬ w.heap.size = wg := fun e => e3 e.symm
                    go_wp2
                    refine wp_region_still_tail 20 (by kernel_rfl) (by kernel_rfl) ?_
                    change wpStill _ _ (wc.setCell ⟨w.heap.size, 4, none⟩ (.bool true)).drew (fun a' => wpList _ _ _ _ a' (wc.setCell ⟨w.heap.size, 4, none⟩ (.bool true)).drew) _ _
                    have HS2 := Go.Lib.hid HSB.out.drew
                    have x5 := HS2.out.quiet.cell (HWC.out p p1) (by simp)
                    generalize (wc.setCell ⟨w.heap.size, 4, none⟩ (.bool true)).drew = w2 at *
                    clear m0 m1 m2 m3 m4 lp wp zp HSB fd fr
                    have x0 := HS2.out.own.cell 0 rfl
                    have x1 := HS2.out.own.cell 1 rfl
                    have x2 := HS2.out.own.cell 2 rfl
                    have x3 := HS2.out.own.cell 3 rfl
                    have x4 := HS2.out.row p p1
                    simp only [List.take_succ_cons, List.take_zero, List.drop_succ_cons, List.drop_zero]
                    repeat still_step
                    refine wpStill_nil ?_
                    go_wp2_with fail
                    refine (with_walk _ n' p f (f p + q * wt p) w2 ⟨g, cg, rfl, HS2.out.row⟩ n8' p1).mono ?_
                    rintro e w3 ⟨g3, c3, rfl, hg3, hr3, hq3⟩
                    have HS3 := Go.Lib.hid (HS2.out.put HVW.out hq3 (cap' := c3) hg3 hr3)
                    have hb3 := hq3.blk HS2.out.own (by simp)
                    have fd3 := fun i => hb3.free i
                    have y2 := hb3.cell 2 rfl
                    clear hb3 hr3 hq3 hg3
                    go_wp2
                    go_meet
                    exact ⟨g3, c3, by simpa [D.start] using HS3.out⟩
                  · go_wp2
                    go_meet
                    exact ⟨g, cg, by simpa [D.start] using HS.out⟩
                case rest =>
                  obtain ⟨g5, c5, hR5⟩ := hcut
                  have hst : D.start ⟨n', fun i => q * wt i, f, p, b⟩ = ⟨n', fun i => q * wt i, (D.start ⟨n', fun i => q * wt i, f, p, b⟩).f, p, true⟩ := by cases b <;> simp [D.start]
                  have okS := HP.out.start
                  generalize hF : (D.start ⟨n', fun i => q * wt i, f, p, b⟩).f = F at *
                  rw [hst] at okS
                  have HST := Go.Lib.hid hst
                  have HOS := Go.Lib.hid okS
                  have F0 : 0 ≤ F p := okS.f0 p p1
                  have F1 : F p ≤ 63 + q * wt p := by have h9 : F p ≤ 63 + (if p = p ∧ true = true then q * wt p else 0) := okS.f1 p p1; simpa using h9
                  have gq2 : q * wt p ≤ 1024 := HP.out.g2 p p1
                  have m0 := hR5.own.cell 0 rfl
                  have m1 := hR5.own.cell 1 rfl
                  have m2 := hR5.own.cell 2 rfl
                  have m3 := hR5.own.cell 3 rfl
                  have m4 := hR5.own.cell 4 rfl
                  have fd := fun i => hR5.own.free i
                  have lp := hR5.row p p1
                  have HS5 := Go.Lib.hid hR5
                  clear hst okS hF hR5
                  rcases Int.lt_or_le (F p) cv with hw | hw
                  · go_wp2_with fail
                    refine (on_walk _ _ _ _ n' _ q p true _ (by have := HP.out.n1; simpa using this) n8' p1).mono ?_
                    rintro e w4 ⟨he, hq4⟩
                    unfold refD at he
                    subst he
                    have hb4 := hq4.blk HS5.out.own (by simp)
                    have b0 := hb4.cell 0 rfl
                    have b1 := hb4.cell 1 rfl
                    have b2 := hb4.cell 2 rfl
                    have b3 := hb4.cell 3 rfl
                    have b4 := hb4.cell 4 rfl
                    have fd4 := fun i => hb4.free i
                    have HS4 := Go.Lib.hid (HS5.out.whole hq4 ((p + 1) % n') false)
                    clear hb4 hq4 fd
                    go_wp2
                    have hst := HST.out
                    have hcv := HCV.out
                    have hw' : (D.start ⟨n', fun i => q * wt i, f, p, b⟩).f p < cl (z p) := by rw [hst, hcv]; exact hw
                    go_roundg (left j (D.pass (D.start ⟨n', fun i => q * wt i, f, p, b⟩)))
                    case measure => rw [HM.out]; exact left_wait j _ HP.out hJ.out.1 (by have := cl_le (z p); exact Int.lt_of_lt_of_le hw' this)
                    case rel =>
                      refine ⟨_, g5, c5, rfl, ?_, HP.out.waited (c := z) hw', ?_, ?_, fun d' k' h => HRun.out d' k' (Runs.wait _ _ _ (by rw [hcv]; exact hc0) hw' h)⟩
                      · rw [hst]; exact HS4.out
                      · rw [hst]; rfl
                      · rw [hst]; rfl
                  · have v2 : IntKind.i64.wrap (F p - cv) = F p - cv := Go.IntWalk.i64_in _ (by omega)
                    have e1 : ¬ g5 = w.heap.size := HS5.out.gd
                    have e2 : ¬ w.heap.size = g5 := fun e => e1 e.symm
                    have e1 : ¬ g5 = w.heap.size := HS5.out.gd
                    have e2 : ¬ w.heap.size = g5 := fun e => e1 e.symm
                    go_wp2
                    refine wp_region_still_tail 12 (by kernel_rfl) (by kernel_rfl) ?_
                    change wpStill _ _ wc.drew (fun a' => wpList _ _ _ _ a' wc.drew) _ _
                    have HS2 := Go.Lib.hid HS5.out.drew
                    generalize wc.drew = w2 at *
                    clear m0 m1 m2 m3 m4 lp fd
                    have x2 := HS2.out.own.cell 2 rfl
                    have x3 := HS2.out.own.cell 3 rfl
                    have x4 := HS2.out.row p p1
                    simp only [List.take_succ_cons, List.take_zero, List.drop_succ_cons, List.drop_zero]
                    repeat still_step
                    refine wpStill_nil ?_
                    go_wp2_with fail
                    refine (with_walk _ n' p F (F p - cv) w2 ⟨g5, c5, rfl, HS2.out.row⟩ n8' p1).mono ?_
                    rintro e w3 ⟨g3, c3, rfl, hg3, hr3, hq3⟩
                    have HS3 := Go.Lib.hid (HS2.out.put HVW.out hq3 (cap' := c3) hg3 hr3)
                    have hb3 := hq3.blk HS2.out.own (by simp)
                    have fd3 := fun i => hb3.free i
                    have y2 := hb3.cell 2 rfl
                    clear hb3 hr3 hq3 hg3
                    go_wp2_with fail
                    clear y2 fd3
                    generalize w3.setCell _ _ = w5 at *
                    have y0 := HS3.out.own.cell 0 rfl
                    have y1 := HS3.out.own.cell 1 rfl
                    have y2 := HS3.out.own.cell 2 rfl
                    have y3 := HS3.out.own.cell 3 rfl
                    have y4 := HS3.out.own.cell 4 rfl
                    have r0 := HS3.out.res.cell 0 rfl
                    have r1 := HS3.out.res.cell 1 rfl
                    have r2 := HS3.out.res.cell 2 rfl
                    have r3 := HS3.out.res.cell 3 rfl
                    have r4 := HS3.out.res.cell 4 rfl
                    have fz := fun i => HS3.out.res.free i
                    go_region
                    go_wp2
                    have hst := HST.out
                    have hcv := HCV.out
                    have hrun := Runs.serve (c := z) ⟨n', fun i => q * wt i, f, p, b⟩ (by rw [hcv]; exact hc0) (by rw [hst, hcv]; exact hw)
                    rw [hst, hcv] at hrun
                    have hs := (set5 w5 (w.heap.size + 1) (.slice (some ⟨wg, wo, none⟩) n' wcp) (.int .i64 q) (.slice (some ⟨g3, 0, none⟩) n' c3) (.int .i64 p) (.bool true)).drew
                    exact bodyPost_ret (v := .tuple #[refD (.slice (some ⟨wg, wo, none⟩) n' wcp) (.slice (some ⟨g3, 0, none⟩) n' c3) q p true, .int .i64 p]) (by simp [results, Try.results14, go_sem, refD, r0, r1, r2, r3, r4]) rfl
                      ⟨HS3.out.quiet.then hs (fun i hi e => by omega), .inl ⟨⟨j, hJ.out⟩, rfl, _, p, g3, c3, HRun.out _ _ hrun, rfl, HS3.out.new, fun i hi => hs.cell (HS3.out.row i hi) HS3.out.gr⟩⟩
      · have HLN := Go.Lib.hid hln
        have bd : decide (k ≠ n) = true := by simp [hln]
        clear hln
        go_wp2
        exact bodyPost_ret (v := .tuple #[refD (.slice (some ⟨wg, wo, none⟩) n wcp) (.slice (some ⟨lg, 0, none⟩) n lc) q d0.p d0.b, .int .i64 (-1)]) (by simp [results, Try.results14, go_sem, refD, r0, r1, r2, r3, r4]) rfl (HNO.out (.inl HLN.out))
end Go.Proofs.Ytoebhifnfomkhaa
