/- RingOrder: for every input the law returns true and its arguments read as before. No condition. -/
import Derived.Test.YthlekeaebefhfaaAwake
import Derived.Test.YthlekeaebefhfaaOpen
import Derived.Deep.RegionWith
namespace Go.Proofs.Ythlekeaebefhfaa
open Go.RowKit Go.Lo Go.WideShapes

def ringOf (n : Nat) (old : Bool) (p : List Int) : List Int := if old then p.drop (p.length - n) else p.take n
def shedOf (n : Nat) (old : Bool) (p : List Int) : List Int := if old then p.take (p.length - n) else p.drop n

theorem order_step (n : Nat) (old : Bool) (p : List Int) (x : Int) (h1 : 1 ≤ n) : pushed n old (ringOf n old p) x = ringOf n old (p ++ [x]) ∧
    shedOf n old (p ++ [x]) = shedOf n old p ++ (if isShed n (ringOf n old p) then [told n old (ringOf n old p) x] else []) := by
  have hl : (ringOf n old p).length = min n p.length := by unfold ringOf; split <;> simp <;> omega
  by_cases hlt : p.length < n
  · have hr : ringOf n old p = p := by
      unfold ringOf
      split
      · rw [show p.length - n = 0 by omega]; rfl
      · exact List.take_of_length_le (by omega)
    have hs : isShed n p = false := by simp [isShed]; omega
    rw [hr, hs]
    unfold pushed ringOf shedOf
    rw [if_pos hlt]
    constructor
    · split
      · rw [show (p ++ [x]).length - n = 0 by simp; omega]; rfl
      · exact (List.take_of_length_le (by simp; omega)).symm
    · split
      · rw [show (p ++ [x]).length - n = 0 by simp; omega, show p.length - n = 0 by omega]; simp
      · rw [List.drop_eq_nil_of_le (by simp; omega), List.drop_eq_nil_of_le (by omega)]; simp
  · have hs : isShed n (ringOf n old p) = true := by simp [isShed, hl]; omega
    have hnl : ¬ (ringOf n old p).length < n := by rw [hl]; omega
    rw [hs]
    unfold pushed told
    rw [if_neg hnl, if_neg hnl]
    unfold ringOf shedOf
    cases old
    · simp only [Bool.false_eq_true, if_false]
      refine ⟨(List.take_append_of_le_length (by omega)).symm, ?_⟩
      rw [List.drop_append_of_le_length (by omega), if_pos trivial]
    · simp only [if_true]
      have e : (p ++ [x]).length - n = p.length - n + 1 := by simp; omega
      have hne : p.length - n < p.length := by omega
      rw [e]
      constructor
      · rw [List.drop_append_of_le_length (by omega), ← List.drop_drop, List.drop_one]
      · rw [List.take_append_of_le_length (by omega), List.take_add_one, List.headD_eq_head?_getD, List.head?_drop]
        simp [List.getElem?_eq_getElem hne]

/-- The law's loop: the ring, and those that were shed. -/
structure OrdAt (w0 : World) (b n : Nat) (old : Bool) (w : World) (D : Nat → Prop) (v : Value) (ring shed : List Int) : Prop where
  ring : RingIn w b D n old ring
  row : w.ownsRow w0.heap.size 3 1 v shed.length (shed.map (Value.int .i64))
  own : ∀ k, v.ownBlock = some k → ¬ D k
  low : ∀ k, D k → w0.heap.size ≤ k ∧ k < w.heap.size
  quiet : Quiet w0 w

theorem OrdAt.on {w0 w w' : World} {b n : Nat} {old : Bool} {D : Nat → Prop} {v : Value} {ring shed : List Int} (h : OrdAt w0 b n old w D v ring shed) (hq : Quiet w w') : OrdAt w0 b n old w' D v ring shed :=
  ⟨h.ring.quiet hq, row_keep h.row hq (by simp), h.own, fun k e => ⟨(h.low k e).1, Nat.lt_of_lt_of_le (h.low k e).2 hq.size⟩, h.quiet.trans hq⟩

theorem OrdAt.step {w0 w w' : World} {b n : Nat} {old : Bool} {D : Nat → Prop} {v : Value} {ring shed ys : List Int} (h : OrdAt w0 b n old w D v ring shed) (hs : StepIn w w' b D n old ys) : ∃ D', OrdAt w0 b n old w' D' v ys shed := by
  obtain ⟨D', r, g, a⟩ := hs
  have hz := a.size
  have hq := h.quiet.size
  refine ⟨D', r, row_keep h.row a h.own, fun k e hd => ?_, fun k hd => ?_, h.quiet.then a (fun i hi hd => by have := (h.low i hd).1; omega)⟩
  · have := (h.row.lt k e).2
    rcases g k hd with h1 | h1
    · exact h.own k e h1
    · omega
  · rcases g k hd with h1 | h1
    · have := h.low k h1; omega
    · omega

theorem OrdAt.app {w0 w w' : World} {b n : Nat} {old : Bool} {D : Nat → Prop} {v v' : Value} {ring shed : List Int} {x : Int} (h : OrdAt w0 b n old w D v ring shed)
    (hown : w'.ownsRow w0.heap.size 3 1 v' (shed.length + 1) (shed.map (Value.int .i64) ++ [.int .i64 x])) (hgrow : (w.alloc (.cells #[.int .i64 x] 3)).grownBy w' v.ownBlock) (hat : v'.ownBlock = v.ownBlock ∨ v'.ownBlock = some (w.heap.size + 1)) :
    OrdAt w0 b n old w' D v' ring (shed ++ [x]) := by
  have hA : Alters (fun k => v.ownBlock = some k) w w' := ((Alters.refl w).alloc _).grown hgrow (fun k e _ => e)
  have hz := hA.size
  refine ⟨h.ring.keep hA (fun k hd e => h.own k e hd), by simpa using hown, fun k e hd => ?_, fun k hd => ?_, h.quiet.then hA (fun i hi e => by have := (h.row.lt i e).1; omega)⟩
  · rcases hat with h1 | h1
    · exact h.own k (h1 ▸ e) hd
    · rw [h1] at e
      have := (h.low k hd).2
      simp at e
      omega
  · have := h.low k hd; omega

theorem Ints.take {w : World} {A : Option Addr} {n c k : Nat} {xs : List Int} (h : Ints w (.slice A n c) xs) (hk : k ≤ xs.length) : Ints w (.slice A k c) (xs.take k) := by
  obtain ⟨A', c', e, hl, hr, hs⟩ := h
  obtain ⟨rfl, _, rfl⟩ : A = A' ∧ _ ∧ c = c' := by simpa using e
  have hlk : (xs.take k).length = k := by simp; omega
  refine ⟨A, c, by rw [hlk], by rw [hlk]; omega, ⟨by simp, fun hn => ?_⟩, fun ad e hn => hs ad e (by omega)⟩
  obtain ⟨ad, rfl, hc⟩ := hr.2 (by omega)
  refine ⟨ad, rfl, fun j u hu => hc j u ?_⟩
  rw [← hu, List.map_take, List.getElem?_take_of_lt]
  rcases Nat.lt_or_ge j k with h | h
  · exact h
  · rw [List.getElem?_eq_none (by simp; omega)] at hu; cases hu

theorem Ints.drop {w : World} {b off n c k : Nat} {xs : List Int} (h : Ints w (.slice (some ⟨b, off, none⟩) n c) xs) (hk : k ≤ xs.length) (hc : ¬ c = k) : Ints w (.slice (some ⟨b, off + k, none⟩) (xs.length - k) (c - k)) (xs.drop k) := by
  have hcut := h.cut hk
  rw [if_neg hc] at hcut
  obtain ⟨A', c', e, hl, hr, hs⟩ := h
  obtain ⟨rfl, _, rfl⟩ : some ⟨b, off, none⟩ = A' ∧ _ ∧ c = c' := by simpa using e
  refine ⟨some ⟨b, off + k, none⟩, c - k, by simp, by simp; omega, ?_, fun ad e _ => ⟨b, off + k, by simpa using e.symm⟩⟩
  simpa [add_plain] using hcut

set_option maxRecDepth 100000 in
set_option maxHeartbeats 4000000 in
theorem order_walk (u : Nat) (old : Bool) (a : Option Addr) (cap : Nat) (L : List Int) (w : World) (hu : u ≤ 255) (hl : Ints w (.slice a L.length cap) L) (hlb : ∀ ad, a = some ad → 0 < L.length → ad.block < w.heap.size) :
    Calls Try.prog 5 #[.int .u8 u, .bool old, .slice a L.length cap] w fun e w' => e = .returned (.bool true) ∧ Below w.heap.size w w' := by
  have HL := Go.Lib.hid hl
  have hcap : L.length ≤ cap ∧ cap ≤ maxLen := by
    obtain ⟨A', c', e, h, _⟩ := hl
    obtain ⟨_, rfl⟩ : _ ∧ cap = c' := by simpa using e
    exact h
  obtain ⟨hc1, hc2⟩ := hcap
  unfold maxLen at hc2
  clear hl
  have m0 : 0 ≤ (u : Int) % 64 := by omega
  have m1 : (u : Int) % 64 < 64 := by omega
  have hu64 : u % 64 ≤ 63 := by omega
  go_enter Try.func5, Try.ntmps5
  go_wp2_with fail
  refine (awake_walk w).mono ?_
  rintro e w1 ⟨rfl, q1⟩
  by_cases hn200 : 200 < L.length
  · go_wp2
    go_ret
    exact ⟨rfl, q1.below (Nat.le_refl _) (by simp)⟩
  · go_wp2_with fail
    obtain ⟨N, hN⟩ := Int.eq_ofNat_of_zero_le (show 0 ≤ (u : Int) % 64 + 1 by omega)
    have hN1 : 1 ≤ N := by omega
    have hN64 : N ≤ 64 := by omega
    rw [hN]
    clear hN m0 m1
    refine (new_in N old w1 (by omega) (by omega)).mono ?_
    rintro e w2 ⟨rfl, hR, q2⟩
    rw [Int.toNat_natCast] at hR
    have hO : OrdAt w w1.heap.size N old w2 (fun k => k = w1.heap.size) (.slice none 0 0) (ringOf N old (L.take 0)) (shedOf N old (L.take 0)) := by
      have l1 : w1.heap.size < w2.heap.size := by obtain ⟨v, h, _⟩ := hR; exact h.own.lt
      have hz := q1.size
      have e1 : ringOf N old (L.take 0) = [] := by unfold ringOf; simp
      have e2 : shedOf N old (L.take 0) = [] := by unfold shedOf; simp
      rw [e1, e2]
      exact ⟨hR, World.ownsRow_nil _ _ _ _, by simp [Value.ownBlock], fun k e => by omega, q1.trans q2⟩
    clear hR q2 q1
    go_wp2
    generalize w1.heap.size = b at *
    have hgo : ∀ k, k < L.length → L.take (k + 1) = L.take k ++ [L.getD k 0] := fun k h => (take_step L k h).2
    have HGO := Go.Lib.hid hgo
    clear hgo
    go_loopw [11, 12] (fun v i wr => ∃ (k : Nat) (D : Nat → Prop), k ≤ L.length ∧ i = .int .i64 k ∧ OrdAt w b N old wr D v (ringOf N old (L.take k)) (shedOf N old (L.take k))) (fun _ i _ => L.length - (intOf i).toNat)
    case atStart => exact ⟨0, _, Nat.zero_le _, rfl, hO⟩
    case round =>
      clear hO
      obtain ⟨k, D, hk, rfl, hO⟩ := hrel
      by_cases hlt : k < L.length
      · obtain ⟨lb, lo, rfl, hz⟩ := (HL.out).cell hlt
        have hlb' := hlb _ rfl (by omega)
        have c1 := hO.quiet.cell hz (by simp)
        obtain ⟨e1, e2⟩ := order_step N old (L.take k) (L.getD k 0) hN1
        have hp := push_in b D N old (L.getD k 0) _ wr hO.ring
        have e3 := HGO.out k hlt
        rw [← e3] at e1 e2
        rw [e1] at hp
        have hsl : (shedOf N old (L.take k)).length ≤ 200 := by unfold shedOf; split <;> simp <;> omega
        generalize L.getD k 0 = x at *
        generalize told N old (ringOf N old (L.take k)) x = t at *
        generalize isShed N (ringOf N old (L.take k)) = o at *
        have HP := Go.Lib.hid hp
        have HO := Go.Lib.hid hO
        have E2 := Go.Lib.hid e2
        clear e1 e2 e3 hp hO hz
        generalize hys : ringOf N old (L.take (k + 1)) = ys at *
        have HY := Go.Lib.hid hys
        clear hys
        go_wp2_with fail
        refine HP.out.mono ?_
        rintro e w4 ⟨rfl, hst⟩
        obtain ⟨D2, hO2⟩ := HO.out.step hst
        have HO2 := Go.Lib.hid hO2
        cases o
        · have e2 : shedOf N old (L.take (k + 1)) = shedOf N old (L.take k) := by rw [E2.out]; simp
          have HE := Go.Lib.hid e2
          clear hst HO HP c1 e2 hO2 E2
          go_wp2
          go_roundw
          case rel => exact ⟨k + 1, D2, by omega, by go_num, by rw [HY.out, HE.out]; exact HO2.out⟩
          case measure => simp [intOf]; omega
        · have e2 : shedOf N old (L.take (k + 1)) = shedOf N old (L.take k) ++ [t] := by rw [E2.out]; simp
          have HE := Go.Lib.hid e2
          obtain ⟨i0, hi, hz0, hz1, hz2⟩ := info_parts info3
          have hsz := hO2.quiet.size
          clear hst HO HP c1 e2 E2 hO2
          generalize shedOf N old (L.take k) = sh at *
          go_wp2_with (at_builtin; refine wpList_append_reads _ rfl (.tmp 50) (.tmp 52) 28 rfl w.heap.size 3 i0 (.int .i64 0) 1 8 Try.underlying28 hi hz0 hz1 hz2 rfl (by decide) _ sh.length _ rfl (HO2.out.row.alloc _) (some ⟨w4.heap.size, 0, none⟩) 1 1 [.int .i64 t] rfl (Reads.one w4 t) ?d1 ?d2 ?d3 ?d4 ?d5)
          case d1 => intro u hu; simp at hu; subst hu; rfl
          case d2 => unfold maxLen; omega
          case d3 => omega
          case d4 => simp; omega
          case d5 =>
            intro v2 w5 hown hgrow hat
            have hO3 := HO2.out.app hown hgrow (by simpa using hat)
            have HO3 := Go.Lib.hid hO3
            clear hown hgrow hat hi hz0 hz1 hz2 HO2 hO3
            go_wp2
            go_roundw
            case rel => exact ⟨k + 1, D2, by omega, by go_num, by rw [HY.out, HE.out]; exact HO3.out⟩
            case measure => simp [intOf]; omega
      · obtain rfl : k = L.length := by omega
        rw [List.take_length] at hO
        clear HGO
        have HO := Go.Lib.hid hO
        by_cases hle : L.length ≤ N
        · have e1 : ringOf N old L = L := by
            unfold ringOf
            split
            · rw [show L.length - N = 0 by omega]; rfl
            · exact List.take_of_length_le (by omega)
          have e2 : shedOf N old L = [] := by
            unfold shedOf
            split
            · rw [show L.length - N = 0 by omega]; rfl
            · exact List.drop_eq_nil_of_le (by omega)
          rw [e1, e2] at hO
          obtain ⟨A, c, rfl⟩ := row_slice hO.row
          have HO := Go.Lib.hid hO
          clear hO e1 e2
          go_wp2_with fail
          refine (items_in b D N old L 300 _ HO.out.ring (by omega) (by omega)).mono ?_
          rintro e w4 ⟨v', rfl, hi, _, hq⟩
          rw [List.take_of_length_le (by omega)] at hi
          have hO4 := HO.out.on hq
          have hL4 := HL.out.quiet hO4.quiet
          go_wp2_with fail
          refine (same_walk _ _ L _ hi hL4).mono ?_
          rintro e w5 ⟨rfl, nd, rfl⟩
          have HQ := Go.Lib.hid (hO4.quiet.drewN nd)
          clear hi hq hO4 hL4
          go_wp2
          go_ret
          exact ⟨rfl, HQ.out.below (Nat.le_refl _) (by simp)⟩
        · obtain ⟨lb, lo, rfl, _⟩ := (HL.out).cell (k := 0) (by omega)
          have hgt : N < L.length := by omega
          have tok1 : True := trivial
          have tok2 : True := trivial
          have tok3 : True := trivial
          cases old
          · have e1 : ringOf N false L = L.take N := rfl
            have e2 : shedOf N false L = L.drop N := rfl
            rw [e1, e2] at hO
            have hs := (HL.out.drop (k := N) (by omega) (by omega)).quiet hO.quiet
            have hg := HL.out.take (k := N) (by omega)
            have hck : ¬ cap = N := by omega
            generalize L.drop N = sh at hO hs
            generalize L.take N = rg at hO hg
            have hlr := hO.ring.lens
            obtain ⟨A, c, rfl⟩ := row_slice hO.row
            have HO := Go.Lib.hid hO
            have HS := Go.Lib.hid hs
            have HG := Go.Lib.hid hg
            clear hO hs hg e1 e2
            go_wp2
            go_region_with (first
              | (go_at_call 17; have _t := tok2; refine (items_in b D N _ _ 300 _ (HO.out.on ((Alters.refl _).drewN _)).ring (by omega) (by omega)).mono ?_; rintro e w5 ⟨v', rfl, hi, _, hq⟩; clear tok2; rw [List.take_of_length_le (by omega)] at hi; have HI := Go.Lib.hid hi; have HQ := Go.Lib.hid ((HO.out.quiet.drewN _).trans hq); clear hi hq)
              | (go_at_call 16; have _t := tok1; refine (same_walk _ _ _ _ (Ints.of_row (HO.out.on ((Alters.refl _).drewN _)).row) (HS.out.quiet ((Alters.refl _).drewN _))).mono ?_; rintro e w5 ⟨rfl, nd, rfl⟩; clear tok1)
              | (go_at_call 16; have _t := tok3; clear tok3; refine (same_walk _ _ _ _ HI.out (HG.out.quiet HQ.out)).mono ?_; rintro e w5 ⟨rfl, nd, rfl⟩))
            all_goals go_wp2
            all_goals go_ret
            all_goals exact ⟨rfl, (HQ.out.drewN _).below (Nat.le_refl _) (by simp)⟩
          · obtain ⟨K, hK⟩ : ∃ K, L.length - N = K := ⟨_, rfl⟩
            have hKi : (L.length : Int) - (N : Int) = (K : Int) := by omega
            have hK1 : K ≤ L.length := by omega
            have e1 : ringOf N true L = L.drop K := by rw [← hK]; rfl
            have e2 : shedOf N true L = L.take K := by rw [← hK]; rfl
            rw [e1, e2] at hO
            have hs := (HL.out.take (k := K) (by omega)).quiet hO.quiet
            have hg := HL.out.drop (k := K) (by omega) (by omega)
            have hck : ¬ cap = K := by omega
            generalize L.take K = sh at hO hs
            generalize L.drop K = rg at hO hg
            have hlr := hO.ring.lens
            obtain ⟨A, c, rfl⟩ := row_slice hO.row
            have HO := Go.Lib.hid hO
            have HS := Go.Lib.hid hs
            have HG := Go.Lib.hid hg
            clear hO hs hg e1 e2 hK
            go_wp2
            clear hKi
            go_region_with (first
              | (go_at_call 17; have _t := tok2; refine (items_in b D N _ _ 300 _ (HO.out.on ((Alters.refl _).drewN _)).ring (by omega) (by omega)).mono ?_; rintro e w5 ⟨v', rfl, hi, _, hq⟩; clear tok2; rw [List.take_of_length_le (by omega)] at hi; have HI := Go.Lib.hid hi; have HQ := Go.Lib.hid ((HO.out.quiet.drewN _).trans hq); clear hi hq)
              | (go_at_call 16; have _t := tok1; refine (same_walk _ _ _ _ (Ints.of_row (HO.out.on ((Alters.refl _).drewN _)).row) (HS.out.quiet ((Alters.refl _).drewN _))).mono ?_; rintro e w5 ⟨rfl, nd, rfl⟩; clear tok1)
              | (go_at_call 16; have _t := tok3; clear tok3; refine (same_walk _ _ _ _ HI.out (HG.out.quiet HQ.out)).mono ?_; rintro e w5 ⟨rfl, nd, rfl⟩))
            all_goals go_wp2
            all_goals go_ret
            all_goals exact ⟨rfl, (HQ.out.drewN _).below (Nat.le_refl _) (by simp)⟩

section
open Go.ChangeShapes Go.WideShapes Go.ChangeAt Go.Deep

theorem slice_cap {H : Type} {enc : TypeId × Value → H} {P : Program} {w : World} {spare : Nat → Bool} {held : Bool} {t e : TypeId} {a : Option Addr} {len cap : Nat} {d : DataW H} {ps : List MemPlace} (ht : P.underlying t = some (.slice e))
    (h : DataW.Trod enc P w 0 spare held t (.slice a len cap) d ps) : len ≤ cap ∧ cap ≤ maxLen := by
  obtain ⟨fuel, hf⟩ := h
  rcases open_slice ht hf with ⟨hcs, _⟩ | ⟨x, l, c, m, n, D, Pl, hcs, _, hl, hm, _⟩
  · simp [Value.cells] at hcs
    obtain ⟨_, rfl, rfl⟩ := hcs
    exact ⟨Nat.le_refl _, Nat.zero_le _⟩
  · simp [Value.cells] at hcs
    obtain ⟨_, rfl, rfl⟩ := hcs
    exact ⟨hl, hm⟩

theorem open_list {H : Type} {enc : TypeId × Value → H} {w : World} {v : Value} {d : DataW H} {ps : List MemPlace} (hv : Value.okWide Try.prog w .any 0 28 v)
    (h : DataW.Trod enc Try.prog w 0 (fun _ => true) true 28 v d ps) : ∃ (a : Option Addr) (cap : Nat) (L : List Int), v = .slice a L.length cap ∧ Ints w v L ∧ (∀ ad, a = some ad → 0 < L.length → ad.block < w.heap.size) := by
  obtain ⟨a, len, cap, z, rfl, hn, _, hc⟩ := open_ints_at Try.underlying28 Try.underlying3 (by kernel_rfl) hv h
  obtain ⟨h1, h2⟩ := slice_cap Try.underlying28 h
  have hl : ((List.range len).map z).length = len := by simp
  refine ⟨a, cap, (List.range len).map z, by rw [hl], ⟨a, cap, by rw [hl], by rw [hl]; exact ⟨h1, h2⟩, ⟨by simp, fun h0 => ?_⟩, fun ad e h0 => ?_⟩, fun ad e h0 => ?_⟩
  · obtain ⟨b, off, rfl, hb, hz⟩ := hc (by omega)
    refine ⟨_, rfl, fun j u hu => ?_⟩
    have hj : j < len := by
      rcases Nat.lt_or_ge j len with h | h
      · exact h
      · rw [List.getElem?_eq_none (by simpa using h)] at hu; cases hu
    rw [add_plain]
    simp [hj] at hu
    subst hu
    exact hz j hj
  · obtain ⟨b, off, rfl, _, _⟩ := hc (by omega)
    exact ⟨b, off, by simpa using e.symm⟩
  · obtain ⟨b, off, rfl, hb, _⟩ := hc (by omega)
    obtain rfl : ⟨b, off, none⟩ = ad := by simpa using e
    exact hb

theorem ringOrder_run {H : Type} {enc : TypeId × Value → H} (W : World) (v0 v1 v2 : Value) (d0 d1 d2 : DataW H) (p0 p1 p2 : List MemPlace)
    (k0 : Value.okWide Try.prog W .any 0 5 v0) (h0 : DataW.Trod enc Try.prog W 0 (fun _ => true) true 5 v0 d0 p0)
    (k1 : Value.okWide Try.prog W .any 0 4 v1) (h1 : DataW.Trod enc Try.prog W 0 (fun _ => true) true 4 v1 d1 p1)
    (k2 : Value.okWide Try.prog W .any 0 28 v2) (h2 : DataW.Trod enc Try.prog W 0 (fun _ => true) true 28 v2 d2 p2) :
    Calls Try.prog 5 #[v0, v1, v2] W fun e w' => e = .returned (.bool true) ∧ Below W.heap.size W w' := by
  obtain ⟨r, rfl, wr⟩ := open_i Try.underlying5 k0 h0
  obtain ⟨o, rfl⟩ := open_b Try.underlying4 k1 h1
  obtain ⟨a, cap, L, rfl, hL, hb⟩ := open_list k2 h2
  simp [Lit.wf, IntKind.min, IntKind.max, IntKind.bits, IntKind.signed] at wr
  obtain ⟨u, rfl⟩ := Int.eq_ofNat_of_zero_le (show 0 ≤ r by omega)
  exact order_walk u o a cap L W (by omega) hL hb

theorem ringOrder_own : ownKnob Try.prog.godebug = none := by kernel_rfl
theorem ringOrder_laidOut : laidOutB Try.prog = true := by kernel_rfl

set_option maxRecDepth 100000 in
theorem ringOrder_lifted (os : Os) (started : os.Started) (H : Type) (enc : TypeId × Value → H) :
    ReturnsInHanded {} Try.checked os 5 .any (Rows.ringOrderSpec.pre6 enc Try.prog Try.f5 Rows.ringOrderRow.domain false) (Rows.ringOrderSpec.post enc Try.prog Try.f5 false true false false) := by
  refine returnsInHanded_of_change (C := Try.checked) ringOrder_own started (by kernel_rfl) Try.func5
    (ChangeSpec.witness6 (enc := enc) (C := Try.checked) false ⟨#[], #[.int .u8 0, .bool false, .slice none 0 0], []⟩ 8 (by kernel_rfl) (by kernel_rfl) (by kernel_rfl) (by kernel_rfl)) ?_
  intro W base args ds gs before hval0 hW hcnd _
  have hval : ∀ (j : Nat) t v, Try.f5.params[j]? = some t → args[j]? = some v → Value.okWide Try.prog W .any base t v := hval0
  have hW' := hW
  obtain ⟨p, q, hA0, hV, rfl, hfz, hnd⟩ := hW
  have hA : DataW.TrodAll enc Try.prog W 0 (fun _ => true) true Try.f5.params.toList args.toList ds p := hA0
  rw [Try.params5] at hA hval
  obtain ⟨v0, vs0, d0, ds0, p0, q0, hargs, rfl, rfl, h0, r0⟩ := trodAll_cons hA
  obtain ⟨v1, vs1, d1, ds1, p1, q1, rfl, rfl, rfl, h1, r1⟩ := trodAll_cons r0
  obtain ⟨v2, vs2, d2, ds2, p2, q2, rfl, rfl, rfl, h2, r2⟩ := trodAll_cons r1
  obtain ⟨rfl, rfl, rfl⟩ := trodAll_nil r2
  obtain rfl : args = #[v0, v1, v2] := by cases args; simp_all
  obtain ⟨rfl, rfl⟩ := trodVars_none hV
  have lt0 : ∀ x ∈ p0, x.block < W.heap.size := by obtain ⟨m, hm⟩ := h0; exact DataW.trod_lt m _ _ _ hm
  have lt1 : ∀ x ∈ p1, x.block < W.heap.size := by obtain ⟨m, hm⟩ := h1; exact DataW.trod_lt m _ _ _ hm
  have lt2 : ∀ x ∈ p2, x.block < W.heap.size := by obtain ⟨m, hm⟩ := h2; exact DataW.trod_lt m _ _ _ hm
  clear hA0
  refine (ringOrder_run W v0 v1 v2 d0 d1 d2 p0 p1 p2 (hval 0 5 v0 rfl rfl) h0 (hval 1 4 v1 rfl rfl) h1 (hval 2 28 v2 rfl rfl) h2).mono fun e W' ⟨he, bel⟩ => ?_
  subst he
  exact ⟨_, rfl, _, _, _, [], _, [], hW', trodAll_mk1 (shut_bool Try.underlying4 _), (trodAll_cons_mk (Below.trod ringOrder_laidOut (by kernel_rfl) (of_decide_eq_true (by kernel_rfl)) h0 bel lt0) (trodAll_cons_mk (Below.trod ringOrder_laidOut (by kernel_rfl) (of_decide_eq_true (by kernel_rfl)) h1 bel lt1) (trodAll_cons_mk (Below.trod ringOrder_laidOut (by kernel_rfl) (of_decide_eq_true (by kernel_rfl)) h2 bel lt2) trodAll_mk0))), rfl, bel.frame _, fun h => by cases h⟩

/-- The given statement. -/
theorem ringOrder_holds : Rows.RingOrderSaid :=
  OpenClaim.holds_of_wide 5 Try.f5 rfl rfl rfl rfl rfl rfl rfl ⟨rfl, rfl, rfl, rfl, rfl⟩ rfl rfl rfl rfl rfl (by kernel_rfl) Try.func5 (by kernel_rfl)
    (of_decide_eq_true (by kernel_rfl)) (by unfold Func.isWrapper; first | (rw [if_pos (by decide +kernel)]; kernel_rfl) | (rw [if_neg (by decide +kernel)]; exact ⟨rfl, rfl⟩))
    (fun os started H enc _ => ringOrder_lifted os started H enc)
#print axioms ringOrder_holds

end
end Go.Proofs.Ythlekeaebefhfaa
