/- DrrFair: for every input the law returns true and its arguments read as before. No condition. -/
import Derived.Test.YtoebhifnfomkhaaFairs
import Derived.Deep.LoopGhost
import Derived.Deep.DeepCutAuto
namespace Go.Proofs.Ytoebhifnfomkhaa
open Go.RowKit Go.Lo

theorem FairRel.off {w0 w w' : World} {bd bg bl n a b k g : Nat} {q x y : Int} {wt : Nat → Int} {d : D} (h : FairRel w0 bd bg bl n a b k q wt x y d w) (ho : g ≠ bd ∧ g ≠ bg ∧ g ≠ bl) (hg : w0.heap.size ≤ g) (hA : Alters (fun i => i = g) w w') :
    FairRel w0 bd bg bl n a b k q wt x y d w' := by
  obtain ⟨o1, o2, o3⟩ := ho
  exact ⟨⟨hA.blk h.dr.own (by omega), hA.blk h.dr.gain (by omega), hA.blk h.dr.left (by omega), h.dr.gd, h.dr.ld, h.dr.gl⟩, h.ok, h.n, h.g, quiet_then h.quiet hA (fun i hi => by omega), h.paid, h.x0, h.x1, h.y0, h.y1⟩

theorem ints_congr (n : Nat) (f g : Nat → Int) (h : ∀ i, i < n → f i = g i) : ints n f = ints n g := by
  apply Array.ext
  · simp [ints]
  · intro i h1 h2
    have : i < n := by simpa [ints] using h2
    simp [ints, h i this]

/-- A cost, raised to 1. -/
def up1 (x : Int) : Int := if x < 1 then 1 else x
theorem up1_low (x : Int) (h : x < 1) : up1 x = 1 := by simp [up1, h]
theorem up1_mid (x : Int) (h : 1 ≤ x) : up1 x = x := by
  have : ¬ x < 1 := by omega
  simp [up1, this]
theorem cp_0 (x : Int) : 0 ≤ cp x ∧ cp x ≤ 64 := by
  by_cases h0 : x < 0
  · rw [cp_low x h0]; omega
  · by_cases h1 : 64 < x
    · rw [cp_high x h1]; omega
    · rw [cp_mid x (by omega) (by omega)]; omega

/-- The costs that the law hands over. -/
def costs (z : Nat → Int) (a b : Nat) : Nat → Int := fun i => if i = a ∨ i = b then up1 (cp (z i)) else cp (z i)
theorem costs_64 (z : Nat → Int) (a b i : Nat) : costs z a b i ≤ 64 ∧ 0 ≤ costs z a b i := by
  have := cp_0 (z i)
  unfold costs up1
  split
  · split <;> omega
  · omega
theorem costs_pos (z : Nat → Int) (a b : Nat) : 0 < costs z a b a ∧ 0 < costs z a b b := by
  unfold costs up1
  constructor
  · rw [if_pos (.inl rfl)]; split <;> omega
  · rw [if_pos (.inr rfl)]; split <;> omega
theorem costs_put (z : Nat → Int) (a b : Nat) : put (put (fun i => cp (z i)) a (up1 (cp (z a)))) b (up1 ((put (fun i => cp (z i)) a (up1 (cp (z a)))) b)) = costs z a b := by
  funext i
  unfold costs put
  by_cases eb : i = b
  · subst eb
    by_cases ea : i = a
    · subst ea
      simp [up1]
      split <;> simp_all <;> omega
    · simp [ea]
  · by_cases ea : i = a
    · subst ea; simp [eb]
    · simp [ea, eb]

theorem fair_two {w0 w : World} {bd bg bl n a b k g : Nat} {q x y : Int} {wt z : Nat → Int} {d : D} (h : FairRel w0 bd bg bl n a b k q wt x y d w) (hB : Blk w g (ints n fun i => cp (z i)) 3) (ho : g ≠ bd ∧ g ≠ bg ∧ g ≠ bl) (hg : w0.heap.size ≤ g)
    (v1 v2 : Int) (h1 : up1 (cp (z a)) = v1) (h2 : up1 ((put (fun i => cp (z i)) a v1) b) = v2) :
    FairRel w0 bd bg bl n a b k q wt x y d ((w.setCell ⟨g, a, none⟩ (.int .i64 v1)).setCell ⟨g, b, none⟩ (.int .i64 v2)) ∧
      Blk ((w.setCell ⟨g, a, none⟩ (.int .i64 v1)).setCell ⟨g, b, none⟩ (.int .i64 v2)) g (ints n (costs z a b)) 3 := by
  refine ⟨h.off ho hg (((Alters.refl _).set (by simp) _).set (by simp) _), ?_⟩
  have h3 := (hB.set a (.int .i64 v1)).set b (.int .i64 v2)
  rw [ints_put, ints_put, ← h2, ← h1, costs_put] at h3
  subst h1; subst h2
  exact h3

theorem fair_one {w0 w : World} {bd bg bl n a b k g i : Nat} {q x y : Int} {wt f : Nat → Int} {d : D} (h : FairRel w0 bd bg bl n a b k q wt x y d w) (hB : Blk w g (ints n f) 3) (ho : g ≠ bd ∧ g ≠ bg ∧ g ≠ bl) (hg : w0.heap.size ≤ g) (v : Int) :
    FairRel w0 bd bg bl n a b k q wt x y d (w.setCell ⟨g, i, none⟩ (.int .i64 v)) ∧ Blk (w.setCell ⟨g, i, none⟩ (.int .i64 v)) g (ints n (put f i v)) 3 :=
  ⟨h.off ho hg ((Alters.refl _).set (by simp) _), by have h3 := hB.set i (.int .i64 v); rw [ints_put] at h3; exact h3⟩

theorem fair_next {w0 w : World} {bd bg bl n a b k g : Nat} {q x y : Int} {wt z : Nat → Int} {d : D} (h : FairRel w0 bd bg bl n a b k q wt x y d w) (hB : Blk w g (ints n (costs z a b)) 3) (ho : g ≠ bd ∧ g ≠ bg ∧ g ≠ bl) (ha : a < n) (hb : b < n)
    (hbd : w0.heap.size ≤ bd ∧ w0.heap.size ≤ bl) :
    Calls Try.prog 11 #[.pointer (some ⟨bd, 0, none⟩), .slice (some ⟨g, 0, none⟩) n n] w fun e w' => ∃ (s : Nat) (d' : D), e = .returned (.int .i64 s) ∧ s < n ∧
      FairRel w0 bd bg bl n a b (k + 1) q wt (x + if s = a then costs z a b s else 0) (y + if s = b then costs z a b s else 0) d' w' ∧ Blk w' g (ints n (costs z a b)) 3 := by
  have hn := h.n
  have hc := next_walk bd bg bl g 0 n a (costs z a b) d w h.dr h.ok (by rw [hn]; exact ha) (costs_pos z a b).1 (fun i hi => by rw [Nat.zero_add]; exact hB.cell i (ints_at _ _ _ (by rw [← hn]; exact hi))) ho.1 ho.2.2 hB.lt
  rw [hn] at hc
  refine hc.mono ?_
  rintro e w' ⟨d', s, hr, rfl, hI, hA⟩
  have hk := (hr.ok h.ok).2.1
  refine ⟨s, d', rfl, by rw [← hn]; exact hk, h.next ha hb hr (costs_pos z a b).1 (costs_pos z a b).2 (fun i _ => (costs_64 z a b i).1) hI (quiet_then h.quiet hA (fun i hi => by omega)), hA.blk hB (by omega)⟩

theorem small_prod (a b M N : Int) (h0 : 0 ≤ a) (h1 : a ≤ M) (k0 : 0 ≤ b) (k1 : b ≤ N) : 0 ≤ a * b ∧ a * b ≤ M * N :=
  ⟨Int.mul_nonneg h0 k0, Int.mul_le_mul h1 k1 k0 (by omega)⟩

structure FairBd (k : Nat) (X Y q wa wb : Int) : Prop where
  hk : k ≤ 120
  x0 : 0 ≤ X
  x1 : X ≤ 64 * ((k + 1 : Nat) : Int)
  y0 : 0 ≤ Y
  y1 : Y ≤ 64 * ((k + 1 : Nat) : Int)
  q0 : 1 ≤ q
  q1 : q ≤ 64
  a0 : 1 ≤ wa
  a1 : wa ≤ 16
  b0 : 1 ≤ wb
  b1 : wb ≤ 16

theorem wrap_id (x : Int) (h0 : -9000000000 ≤ x) (h1 : x ≤ 9000000000) : wrap64 x = x := by
  unfold wrap64; omega

theorem FairBd.wraps {k : Nat} {X Y q wa wb : Int} (h : FairBd k X Y q wa wb) :
    wrap64 (wrap64 (wrap64 (2 * q * wa) * wb) + wrap64 (63 * wa)) = 2 * q * wa * wb + 63 * wa ∧ wrap64 (wrap64 (wrap64 (2 * q * wa) * wb) + wrap64 (63 * wb)) = 2 * q * wa * wb + 63 * wb ∧
    wrap64 (wrap64 (X * wb) - wrap64 (Y * wa)) = X * wb - Y * wa ∧ wrap64 (wrap64 (Y * wa) - wrap64 (X * wb)) = Y * wa - X * wb := by
  obtain ⟨hk, x0, x1, y0, y1, q0, q1, a0, a1, b0, b1⟩ := h
  have e1 := small_prod (2 * q) wa 128 16 (by omega) (by omega) (by omega) (by omega)
  have e2 := small_prod (2 * q * wa) wb 2048 16 (by omega) (by omega) (by omega) (by omega)
  have e3 := small_prod X wb 8000 16 x0 (by omega) (by omega) (by omega)
  have e4 := small_prod Y wa 8000 16 y0 (by omega) (by omega) (by omega)
  rw [wrap_id (2 * q * wa) (by omega) (by omega), wrap_id (2 * q * wa * wb) (by omega) (by omega), wrap_id (63 * wa) (by omega) (by omega), wrap_id (63 * wb) (by omega) (by omega), wrap_id (X * wb) (by omega) (by omega), wrap_id (Y * wa) (by omega) (by omega)]
  generalize 2 * q * wa * wb = p at *
  generalize X * wb = r at *
  generalize Y * wa = t at *
  refine ⟨wrap_id _ (by omega) (by omega), wrap_id _ (by omega) (by omega), ?_, ?_⟩
  · exact wrap_id _ (by omega) (by omega)
  · exact wrap_id _ (by omega) (by omega)

theorem FairBd.no1 {k : Nat} {X Y q wa wb : Int} (h : FairBd k X Y q wa wb) (hb : X * wb - Y * wa ≤ 2 * q * wa * wb + 63 * wa ∧ Y * wa - X * wb ≤ 2 * q * wa * wb + 63 * wb)
    (ht : wrap64 (wrap64 (wrap64 (2 * q * wa) * wb) + wrap64 (63 * wa)) < wrap64 (wrap64 (X * wb) - wrap64 (Y * wa))) : False := by
  obtain ⟨e1, e2, e3, e4⟩ := h.wraps
  rw [e1, e3] at ht
  exact absurd hb.1 (Int.not_le.2 ht)
theorem FairBd.no2 {k : Nat} {X Y q wa wb : Int} (h : FairBd k X Y q wa wb) (hb : X * wb - Y * wa ≤ 2 * q * wa * wb + 63 * wa ∧ Y * wa - X * wb ≤ 2 * q * wa * wb + 63 * wb)
    (ht : wrap64 (wrap64 (wrap64 (2 * q * wa) * wb) + wrap64 (63 * wb)) < wrap64 (wrap64 (Y * wa) - wrap64 (X * wb))) : False := by
  obtain ⟨e1, e2, e3, e4⟩ := h.wraps
  rw [e2, e4] at ht
  exact absurd hb.2 (Int.not_le.2 ht)

theorem FairBd.no3 {k : Nat} {X Y q wa wb : Int} (h : FairBd k X Y q wa wb) (hb : X * wb - Y * wa ≤ 2 * q * wa * wb + 63 * wa ∧ Y * wa - X * wb ≤ 2 * q * wa * wb + 63 * wb)
    (ht : wrap64 (wrap64 (wrap64 (2 * q * wa) * wb) + wrap64 (63 * wa)) < wrap64 (wrap64 (X * wb) - wrap64 (Y * wa)) ∨ wrap64 (wrap64 (wrap64 (2 * q * wa) * wb) + wrap64 (63 * wb)) < wrap64 (wrap64 (Y * wa) - wrap64 (X * wb))) : False :=
  ht.elim (h.no1 hb) (h.no2 hb)

set_option maxRecDepth 100000 in
set_option maxHeartbeats 4000000 in
theorem fair_walk (wa la : Option Addr) (n cap ln lcap ti tj : Nat) (q : Int) (wt : Nat → Int) (L : Nat → Nat) (Z : Nat → Nat → Int) (w : World) (hn : n ≤ maxLen) (hln : ln ≤ maxLen) (hti : ti ≤ 255) (htj : tj ≤ 255) (hw : IntsIn w wa n wt) (hl : ListsIn w la ln L Z) :
    Calls Try.prog 4 #[.slice wa n cap, .int .i64 q, .slice la ln lcap, .int .u8 ti, .int .u8 tj] w fun e w' => e = .returned (.bool true) ∧ Below w.heap.size w w' := by
  have HW := Go.Lib.hid hw
  have HL := Go.Lib.hid hl
  have HN := Go.Lib.hid hn
  have HM := Go.Lib.hid hln
  have hfew := few_walk la ln lcap L Z
  have HF := Go.Lib.hid hfew
  unfold maxLen at hn hln
  clear hw hl hfew
  go_enter Try.func4, Try.ntmps4
  go_wp2_with (go_at_call 8; refine (awake_any _).mono ?_; rintro e w1 ⟨rfl, hq1⟩)
  have b1 : Below w.heap.size w w1 := hq1.below (Nat.le_refl _) (by simp)
  have hl1 : ListsIn w1 la ln L Z := fun h => by
    obtain ⟨b, off, rfl, hb, hz⟩ := HL.out h
    refine ⟨b, off, rfl, Nat.lt_of_lt_of_le hb b1.size, fun i hi => ?_⟩
    obtain ⟨a', cap', h1, h2, h3⟩ := hz i hi
    exact ⟨a', cap', (b1.cell (p := ⟨b, off + i, none⟩) hb).trans h1, h2, h3.below b1⟩
  refine (HF.out w1 HM.out hl1).mono ?_
  rintro e w2 ⟨⟨B, rfl, hB⟩, rfl⟩
  clear hl1
  cases B
  · clear hB
    go_wp2
    go_ret
    exact ⟨rfl, b1⟩
  · have HB := Go.Lib.hid (hB rfl)
    clear hB
    by_cases hn20 : 20 < n
    · go_wp2
      go_ret
      exact ⟨rfl, b1⟩
    · have l120 := HB.out.1
      have HC := Go.Lib.hid HB.out.2
      clear HB
      go_wp2_with fail
      refine (new_walk wa n cap q wt w1 HN.out (HW.out.below b1)).mono ?_
      rintro e w2 ⟨hq2, ⟨hne, rfl⟩ | ⟨he, bd, bg, bl, rfl, hbd, hbg, hbl, hI⟩⟩
      · have hc0 : (codeOf n q wt != 0) = true := by simpa using hne
        go_wp2
        go_ret
        exact ⟨rfl, b1.trans (hq2.below b1.size (by simp))⟩
      · obtain ⟨n1, n8, q1, q64, hwt⟩ := code_zero he
        have hA : ti % n < n := Nat.mod_lt _ (by omega)
        have hB : tj % n < n := Nat.mod_lt _ (by omega)
        have b2 := b1.trans (hq2.below b1.size (by simp))
        obtain ⟨wb, wo, hwa, hwbl, hwz⟩ := (HW.out.below b2) (by omega)
        have z1 := hwz _ hA
        have z2 := hwz _ hB
        have R0 : FairRel w bd bg bl n (ti % n) (tj % n) 0 q wt 0 0 ⟨n, fun i => q * wt i, fun _ => 0, 0, false⟩ w2 :=
          ⟨hI, New_ok n q wt n1 n8 q1 q64 hwt, rfl, rfl, hq1.trans hq2, ⟨0, by simp [Paid, ind], by simp [Paid, ind]⟩, by omega, by omega, by omega, by omega⟩
        have m1 : ((ti : Int)) % n < n := Int.emod_lt_of_pos _ (by omega)
        have m0 : 0 ≤ ((ti : Int)) % n := Int.emod_nonneg _ (by omega)
        have m3 : ((tj : Int)) % n < n := Int.emod_lt_of_pos _ (by omega)
        have m2 : 0 ≤ ((tj : Int)) % n := Int.emod_nonneg _ (by omega)
        have hz := hq1.size
        have HD := Go.Lib.hid (show w.heap.size ≤ bd ∧ w.heap.size ≤ bl from by omega)
        have HWT := Go.Lib.hid hwt
        clear hq2 he hbd hbg hbl hI hwt hq1 b1 hz HW hn20 b2 hwz
        subst hwa
        go_wp2
        rw [show ((ti : Int) % n) = ((ti % n : Nat) : Int) from by simp, show ((tj : Int) % n) = ((tj % n : Nat) : Int) from by simp]
        clear m0 m1 m2 m3 z1 z2
        generalize ti % n = A at *
        generalize tj % n = B at *
        have hmk := make_ints n (by omega)
        go_loopg [19, 20, 21] ln (fun j vx vy i wr => ∃ (k : Nat) (x y : Int) (d : D), k ≤ ln ∧ j = ln - k ∧ i = .int .i64 k ∧ vx = .int .i64 x ∧ vy = .int .i64 y ∧ FairRel w bd bg bl n A B k q wt x y d wr)
        case atStart => exact ⟨0, 0, 0, _, Nat.zero_le _, rfl, rfl, rfl, rfl, R0⟩
        case round =>
          clear R0
          obtain ⟨k, x, y, d, hk, hgk, rfl, rfl, rfl, hR⟩ := hrel
          have HGK := Go.Lib.hid hgk
          clear hgk
          by_cases hlt : k < ln
          · obtain ⟨lb, lo, rfl, hlb, hz⟩ := HL.out (by omega)
            obtain ⟨a', cap', h1, h2, h3⟩ := hz k hlt
            have l20 := HC.out k hlt
            clear hz h2
            have H1 := Go.Lib.hid h1
            have H3 := Go.Lib.hid h3
            clear h1 h3
            have hQ := hR.quiet
            have c1 : wr.cell? ⟨lb, lo + k, none⟩ = some (.slice a' (L k) cap') := hQ.cell H1.out (by simp)
            have hlb2 : lb < wr.heap.size := Nat.lt_of_lt_of_le hlb hQ.size
            by_cases hLn : L k = n
            · have bLn : ((L k : Int) != (n : Int)) = false := by simp; omega
              have HLn := Go.Lib.hid hLn
              clear hLn
              go_wp2
              have hoff : (wr.heap.size ≠ bd ∧ wr.heap.size ≠ bg ∧ wr.heap.size ≠ bl) ∧ w.heap.size ≤ wr.heap.size := by
                have := hR.dr.own.lt; have := hR.dr.gain.lt; have := hR.dr.left.lt
                exact ⟨⟨by omega, by omega, by omega⟩, hQ.size⟩
              have T0 : FairRel w bd bg bl n A B k q wt x y d (wr.alloc (.cells (ints n fun _ => 0) 3)) :=
                ⟨Quiet.drr ((Alters.refl _).alloc _) hR.dr, hR.ok, hR.n, hR.g, hQ.trans ((Alters.refl _).alloc _), hR.paid, hR.x0, hR.x1, hR.y0, hR.y1⟩
              have B0 : Blk (wr.alloc (.cells (ints n fun _ => 0) 3)) wr.heap.size (ints n fun i => if i < 0 then cp (Z k i) else 0) 3 := by
                have := Blk.new wr (ints n fun _ => 0) 3
                simpa using this
              have HO := Go.Lib.hid hoff
              clear hR hoff c1 hlb2 hmk hQ
              generalize wr.alloc _ = w4 at *
              generalize wr.heap.size = g at *
              go_loopw [23] (fun i wr2 => ∃ m : Nat, m ≤ n ∧ i = .int .i64 m ∧ (FairRel w bd bg bl n A B k q wt x y d wr2 ∧ Blk wr2 g (ints n fun i => if i < m then cp (Z k i) else 0) 3)) (fun i _ => n - (intOf i).toNat)
              case atStart => exact ⟨0, Nat.zero_le _, rfl, T0, B0⟩
              case round =>
                clear T0 B0
                obtain ⟨m, hm, rfl, hT, hB⟩ := hrel
                have hQ := hT.quiet
                by_cases hmt : m < n
                · obtain ⟨rb, ro, rfl, hrb, hzz⟩ := H3.out (by have := HLn.out; omega)
                  have c1 : wr.cell? ⟨lb, lo + k, none⟩ = some (.slice (some ⟨rb, ro, none⟩) (L k) cap') := hQ.cell H1.out (by simp)
                  have c2 : wr.cell? ⟨rb, ro + m, none⟩ = some (.int .i64 (Z k m)) := hQ.cell (hzz m (by have := HLn.out; omega)) (by simp)
                  have lm : m < L k := by have := HLn.out; omega
                  have step : ∀ v, cp (Z k m) = v → FairRel w bd bg bl n A B k q wt x y d (wr.setCell ⟨g, m, none⟩ (.int .i64 v)) ∧ Blk (wr.setCell ⟨g, m, none⟩ (.int .i64 v)) g (ints n fun i => if i < m + 1 then cp (Z k i) else 0) 3 := by
                    rintro v rfl
                    refine ⟨hT.off HO.out.1 HO.out.2 ((Alters.refl _).set (by simp) _), ?_⟩
                    have := hB.set m (.int .i64 (cp (Z k m)))
                    rw [ints_put] at this
                    rw [show (fun i => if i < m + 1 then cp (Z k i) else 0) = put (fun i => if i < m then cp (Z k i) else 0) m (cp (Z k m)) from ?_]
                    · exact this
                    · funext i
                      unfold put
                      by_cases e : i = m
                      · subst e; simp
                      · rw [if_neg e]
                        show _ = if i < m then cp (Z k i) else 0
                        by_cases h : i < m
                        · rw [if_pos h, if_pos (by omega)]
                        · rw [if_neg h, if_neg (by omega)]
                  have HS := Go.Lib.hid step
                  have fz := fun i => hB.free i
                  have cz := hB.cell m (ints_at _ _ _ hmt)
                  clear step hT hB hzz hQ
                  rcases Int.lt_or_le (Z k m) 0 with hz0 | hz0
                  · have HV := Go.Lib.hid (show cp (Z k m) = 0 from cp_low _ hz0)
                    go_wp2
                    go_roundw
                    case rel => exact ⟨m + 1, by omega, by go_num, HS.out 0 HV.out⟩
                    case measure => simp [intOf]; omega
                  · rcases Int.lt_or_le 64 (Z k m) with hz1 | hz1
                    · have HV := Go.Lib.hid (show cp (Z k m) = 64 from cp_high _ hz1)
                      go_wp2
                      go_roundw
                      case rel => exact ⟨m + 1, by omega, by go_num, HS.out 64 HV.out⟩
                      case measure => simp [intOf]; omega
                    · have HV := Go.Lib.hid (show cp (Z k m) = (Z k m) from cp_mid _ hz0 hz1)
                      go_wp2
                      go_roundw
                      case rel => exact ⟨m + 1, by omega, by go_num, HS.out (Z k m) HV.out⟩
                      case measure => simp [intOf]; omega
                · obtain rfl : m = n := by omega
                  have hB1 : Blk wr g (ints m fun i => cp (Z k i)) 3 := by
                    rw [ints_congr m (fun i => cp (Z k i)) (fun i => if i < m then cp (Z k i) else 0) (fun i hi => by rw [if_pos hi])]
                    exact hB
                  have hTT := Go.Lib.hid hT
                  clear hB hT hm hmt
                  have fz := fun i => hB1.free i
                  have cA := hB1.cell A (ints_at _ _ _ hA)
                  have cB := hB1.cell B (ints_at _ _ _ hB)
                  have HBB := Go.Lib.hid hB1
                  have HQ := Go.Lib.hid hQ
                  clear hB1 hQ
                  go_upto_region 26 with (fail)
                  go_cut [22] (fun v22 wx => v22 = .slice (some ⟨g, 0, none⟩) m m ∧ FairRel w bd bg bl m A B k q wt x y d wx ∧ Blk wx g (ints m (put (fun i => cp (Z k i)) A (up1 (cp (Z k A))))) 3)
                  case first =>
                    clear cB
                    rcases Int.lt_or_le (cp (Z k A)) 1 with u1 | u1
                    · have hh := fair_one (i := A) hTT.out HBB.out HO.out.1 HO.out.2 1
                      have HH := Go.Lib.hid hh
                      clear hh
                      go_wp2
                      go_meet
                      rw [up1_low _ u1]
                      exact ⟨rfl, HH.out⟩
                    · have hh := fair_one (i := A) hTT.out HBB.out HO.out.1 HO.out.2 (cp (Z k A))
                      have HH := Go.Lib.hid hh
                      clear hh
                      go_wp2
                      go_meet
                      rw [up1_mid _ u1]
                      exact ⟨rfl, HH.out⟩
                  case rest =>
                    obtain ⟨rfl, hT2, hB2⟩ := hcut
                    clear hTT HBB fz cA cB HQ
                    have hTT := Go.Lib.hid hT2
                    have HBB := Go.Lib.hid hB2
                    have fz := fun i => hB2.free i
                    have cB := hB2.cell B (ints_at _ _ _ hB)
                    have hfv := costs_put (Z k) A B
                    clear hT2 hB2
                    generalize put (fun i => cp (Z k i)) A (up1 (cp (Z k A))) = fv at *
                    have HFV := Go.Lib.hid hfv
                    clear hfv
                    go_upto_region 27 with (fail)
                    go_cut [22] (fun v22 wx => v22 = .slice (some ⟨g, 0, none⟩) m m ∧ FairRel w bd bg bl m A B k q wt x y d wx ∧ Blk wx g (ints m (costs (Z k) A B)) 3)
                    case first =>
                      rcases Int.lt_or_le (fv B) 1 with u1 | u1
                      · have hh := fair_one (i := B) hTT.out HBB.out HO.out.1 HO.out.2 1
                        have HH := Go.Lib.hid hh
                        clear hh
                        go_wp2
                        go_meet
                        rw [← HFV.out, up1_low _ u1]
                        exact ⟨rfl, HH.out⟩
                      · have hh := fair_one (i := B) hTT.out HBB.out HO.out.1 HO.out.2 (fv B)
                        have HH := Go.Lib.hid hh
                        clear hh
                        go_wp2
                        go_meet
                        rw [← HFV.out, up1_mid _ u1]
                        exact ⟨rfl, HH.out⟩
                    case rest =>
                      obtain ⟨rfl, hT2, hB2⟩ := hcut
                      clear hTT HBB fz cB HFV
                      have hnx := fair_next hT2 hB2 HO.out.1 hA hB HD.out
                      have HNX := Go.Lib.hid hnx
                      have hxy : 0 ≤ x ∧ x ≤ 64 * k ∧ 0 ≤ y ∧ y ≤ 64 * k := ⟨hT2.x0, hT2.x1, hT2.y0, hT2.y1⟩
                      clear hT2 hB2 hnx
                      go_wp2_with fail
                      refine HNX.out.mono ?_
                      clear HNX
                      rintro e w5 ⟨s, d', rfl, hs, hR5, hB5⟩
                      have cs := hB5.cell s (ints_at _ _ _ hs)
                      have c64 := costs_64 (Z k) A B s
                      generalize costs (Z k) A B s = cv at *
                      obtain ⟨x0, x1, y0, y1⟩ := hxy
                      clear hB5
                      have HR5 := Go.Lib.hid hR5
                      clear hR5
                      go_upto_if 129 with (fail)
                      go_cut [19] (fun v19 wx => v19 = .int .i64 (x + if s = A then cv else 0) ∧ wx = w5)
                      case first =>
                        by_cases hsA : s = A
                        · have hsA' : ((s : Int) == (A : Int)) = true := by simp [hsA]
                          have HA := Go.Lib.hid hsA
                          clear hsA
                          go_wp2
                          go_meet
                          exact ⟨by rw [if_pos HA.out], rfl⟩
                        · have hsA' : ((s : Int) == (A : Int)) = false := by simp; omega
                          have HA := Go.Lib.hid hsA
                          clear hsA
                          go_wp2
                          go_meet
                          exact ⟨by rw [if_neg HA.out, Int.add_zero], rfl⟩
                      case rest =>
                        obtain ⟨rfl, rfl⟩ := hcut
                        generalize (x + if s = A then cv else 0) = X at *
                        go_upto_if 138 with (fail)
                        go_cut [20] (fun v20 wx => v20 = .int .i64 (y + if s = B then cv else 0) ∧ wx = wc)
                        case first =>
                          by_cases hsB : s = B
                          · have hsB' : ((s : Int) == (B : Int)) = true := by simp [hsB]
                            have HB := Go.Lib.hid hsB
                            clear hsB
                            go_wp2
                            go_meet
                            exact ⟨by rw [if_pos HB.out], rfl⟩
                          · have hsB' : ((s : Int) == (B : Int)) = false := by simp; omega
                            have HB := Go.Lib.hid hsB
                            clear hsB
                            go_wp2
                            go_meet
                            exact ⟨by rw [if_neg HB.out, Int.add_zero], rfl⟩
                        case rest =>
                          obtain ⟨rfl, rfl⟩ := hcut
                          generalize (y + if s = B then cv else 0) = Y at *
                          have hR5 := HR5.out
                          have BD := Go.Lib.hid (FairBd.mk (k := k) (X := X) (Y := Y) (q := q) (wa := wt A) (wb := wt B) (by omega) hR5.x0 hR5.x1 hR5.y0 hR5.y1 q1 q64 (HWT.out A hA).1 (HWT.out A hA).2 (HWT.out B hB).1 (HWT.out B hB).2)
                          have BB1 := Go.Lib.hid (hR5.bound hA hB q1 (HWT.out A hA).1 (HWT.out B hB).1)
                          clear hR5 cs c64 x0 x1 y0 y1
                          go_wp2
                          · go_ret
                            first | exact (BD.out.no3 BB1.out (by assumption)).elim | exact (BD.out.no1 BB1.out (by assumption)).elim
                          · go_roundg (ln - (k + 1))
                            case measure => have := HGK.out; omega
                            case rel => exact ⟨k + 1, X, Y, d', by omega, rfl, by go_num, rfl, rfl, HR5.out⟩
                          · go_ret
                            first | exact (BD.out.no3 BB1.out (by assumption)).elim | exact (BD.out.no1 BB1.out (by assumption)).elim
            · have bLn : ((L k : Int) != (n : Int)) = true := by simp; omega
              go_wp2
              go_ret
              exact ⟨rfl, hQ.below (Nat.le_refl _) (by simp)⟩
          · have hQ := hR.quiet
            go_wp2
            go_ret
            exact ⟨rfl, hQ.below (Nat.le_refl _) (by simp)⟩

section
open Go.ChangeShapes Go.WideShapes Go.ChangeAt
theorem drrFair_run {H : Type} {enc : TypeId × Value → H} (W : World) (v0 v1 v2 v3 v4 : Value) (d0 d1 d2 d3 d4 : DataW H) (p0 p1 p2 p3 p4 : List MemPlace)
    (k0 : Value.okWide Try.prog W .any 0 22 v0) (h0 : DataW.Trod enc Try.prog W 0 (fun _ => true) true 22 v0 d0 p0)
    (k1 : Value.okWide Try.prog W .any 0 3 v1) (h1 : DataW.Trod enc Try.prog W 0 (fun _ => true) true 3 v1 d1 p1)
    (k2 : Value.okWide Try.prog W .any 0 23 v2) (h2 : DataW.Trod enc Try.prog W 0 (fun _ => true) true 23 v2 d2 p2)
    (k3 : Value.okWide Try.prog W .any 0 5 v3) (h3 : DataW.Trod enc Try.prog W 0 (fun _ => true) true 5 v3 d3 p3)
    (k4 : Value.okWide Try.prog W .any 0 5 v4) (h4 : DataW.Trod enc Try.prog W 0 (fun _ => true) true 5 v4 d4 p4) :
    Calls Try.prog 4 #[v0, v1, v2, v3, v4] W fun e w' => e = .returned (.bool true) ∧ Below W.heap.size W w' := by
  obtain ⟨a, n, cap, wt, rfl, hn, _, hc⟩ := open_ints_at Try.underlying22 Try.underlying3 (by kernel_rfl) k0 h0
  obtain ⟨q, rfl, wq⟩ := open_i Try.underlying3 k1 h1
  obtain ⟨la, ln, lcap, L, Z, rfl, hln, hl⟩ := open_lists k2 h2
  obtain ⟨i, rfl, wi⟩ := open_i Try.underlying5 k3 h3
  obtain ⟨j, rfl, wj⟩ := open_i Try.underlying5 k4 h4
  simp [Lit.wf, IntKind.min, IntKind.max, IntKind.bits, IntKind.signed] at wi wj
  obtain ⟨ti, rfl⟩ := Int.eq_ofNat_of_zero_le (show 0 ≤ i by omega)
  obtain ⟨tj, rfl⟩ := Int.eq_ofNat_of_zero_le (show 0 ≤ j by omega)
  exact fair_walk a la n cap ln lcap ti tj q wt L Z W hn hln (by omega) (by omega) hc hl

theorem drrFair_own : ownKnob Try.prog.godebug = none := by kernel_rfl
theorem drrFair_laidOut : laidOutB Try.prog = true := by kernel_rfl

set_option maxRecDepth 100000 in
theorem drrFair_lifted (os : Os) (started : os.Started) (H : Type) (enc : TypeId × Value → H) :
    ReturnsInHanded {} Try.checked os 4 .any (Rows.drrFairSpec.pre6 enc Try.prog Try.f4 Rows.drrFairRow.domain false) (Rows.drrFairSpec.post enc Try.prog Try.f4 false true false false) := by
  refine returnsInHanded_of_change (C := Try.checked) drrFair_own started (by kernel_rfl) Try.func4
    (ChangeSpec.witness6 (enc := enc) (C := Try.checked) false ⟨#[], #[.slice none 0 0, .int .i64 0, .slice none 0 0, .int .u8 0, .int .u8 0], []⟩ 8 (by kernel_rfl) (by kernel_rfl) (by kernel_rfl) (by kernel_rfl)) ?_
  intro W base args ds gs before hval0 hW hcnd _
  have hval : ∀ (j : Nat) t v, Try.f4.params[j]? = some t → args[j]? = some v → Value.okWide Try.prog W .any base t v := hval0
  have hW' := hW
  obtain ⟨p, q, hA0, hV, rfl, hfz, hnd⟩ := hW
  have hA : DataW.TrodAll enc Try.prog W 0 (fun _ => true) true Try.f4.params.toList args.toList ds p := hA0
  rw [Try.params4] at hA hval
  obtain ⟨v0, vs0, d0, ds0, p0, q0, hargs, rfl, rfl, h0, r0⟩ := trodAll_cons hA
  obtain ⟨v1, vs1, d1, ds1, p1, q1, rfl, rfl, rfl, h1, r1⟩ := trodAll_cons r0
  obtain ⟨v2, vs2, d2, ds2, p2, q2, rfl, rfl, rfl, h2, r2⟩ := trodAll_cons r1
  obtain ⟨v3, vs3, d3, ds3, p3, q3, rfl, rfl, rfl, h3, r3⟩ := trodAll_cons r2
  obtain ⟨v4, vs4, d4, ds4, p4, q4, rfl, rfl, rfl, h4, r4⟩ := trodAll_cons r3
  obtain ⟨rfl, rfl, rfl⟩ := trodAll_nil r4
  obtain rfl : args = #[v0, v1, v2, v3, v4] := by cases args; simp_all
  obtain ⟨rfl, rfl⟩ := trodVars_none hV
  have lt0 : ∀ x ∈ p0, x.block < W.heap.size := by obtain ⟨m, hm⟩ := h0; exact DataW.trod_lt m _ _ _ hm
  have lt1 : ∀ x ∈ p1, x.block < W.heap.size := by obtain ⟨m, hm⟩ := h1; exact DataW.trod_lt m _ _ _ hm
  have lt2 : ∀ x ∈ p2, x.block < W.heap.size := by obtain ⟨m, hm⟩ := h2; exact DataW.trod_lt m _ _ _ hm
  have lt3 : ∀ x ∈ p3, x.block < W.heap.size := by obtain ⟨m, hm⟩ := h3; exact DataW.trod_lt m _ _ _ hm
  have lt4 : ∀ x ∈ p4, x.block < W.heap.size := by obtain ⟨m, hm⟩ := h4; exact DataW.trod_lt m _ _ _ hm
  clear hA0
  refine (drrFair_run W v0 v1 v2 v3 v4 d0 d1 d2 d3 d4 p0 p1 p2 p3 p4 (hval 0 22 v0 rfl rfl) h0 (hval 1 3 v1 rfl rfl) h1 (hval 2 23 v2 rfl rfl) h2 (hval 3 5 v3 rfl rfl) h3 (hval 4 5 v4 rfl rfl) h4).mono fun e W' ⟨he, bel⟩ => ?_
  subst he
  exact ⟨_, rfl, _, _, _, [], _, [], hW', trodAll_mk1 (shut_bool Try.underlying4 _), (trodAll_cons_mk (Below.trod drrFair_laidOut (by kernel_rfl) (of_decide_eq_true (by kernel_rfl)) h0 bel lt0) (trodAll_cons_mk (Below.trod drrFair_laidOut (by kernel_rfl) (of_decide_eq_true (by kernel_rfl)) h1 bel lt1) (trodAll_cons_mk (Below.trod drrFair_laidOut (by kernel_rfl) (of_decide_eq_true (by kernel_rfl)) h2 bel lt2) (trodAll_cons_mk (Below.trod drrFair_laidOut (by kernel_rfl) (of_decide_eq_true (by kernel_rfl)) h3 bel lt3) (trodAll_cons_mk (Below.trod drrFair_laidOut (by kernel_rfl) (of_decide_eq_true (by kernel_rfl)) h4 bel lt4) trodAll_mk0))))), rfl, bel.frame _, fun h => by cases h⟩

/-- The given statement. -/
theorem drrFair_holds : Rows.DrrFairSaid :=
  OpenClaim.holds_of_wide 4 Try.f4 rfl rfl rfl rfl rfl rfl rfl ⟨rfl, rfl, rfl, rfl, rfl⟩ rfl rfl rfl rfl rfl (by kernel_rfl) Try.func4 (by kernel_rfl)
    (of_decide_eq_true (by kernel_rfl)) (by unfold Func.isWrapper; first | (rw [if_pos (by decide +kernel)]; kernel_rfl) | (rw [if_neg (by decide +kernel)]; exact ⟨rfl, rfl⟩))
    (fun os started H enc _ => drrFair_lifted os started H enc)
#print axioms drrFair_holds

end
end Go.Proofs.Ytoebhifnfomkhaa
