/- What is wanted of rows and words in a region whose order is drawn. No condition. truth.Holds (51); the model's Row (48). No condition. The law on truth is awake (45): its example holds. No condition. -/
import Derived.Test.YtnpcakakjhiboaaDoorRow13
import Derived.Test.YtnpcakakjhiboaaDoorWord
import Derived.Test.YtnpcakakjhiboaaDoorLawAt
import Derived.Test.YtnpcakakjhiboaaDoorTruP
namespace Go.Proofs.YtnpcakakjhiboaaDoor
open Go.RowKit Go.Lo Go.WideShapes

/-- A row of Booleans. -/
def Want.row (l : List Bool) : Want := ⟨fun v W => ∃ a c, v = .slice a l.length c ∧ BlAt W a l, fun _ _ _ hq ⟨a, c, h1, h2⟩ => ⟨a, c, h1, h2.quiet hq⟩⟩
/-- A word. -/
def Want.word (L : List Hp) : Want := ⟨fun v W => ∃ a c, v = .slice a L.length c ∧ WdAt W a L, fun _ _ _ hq ⟨a, c, h1, h2⟩ => ⟨a, c, h1, h2.quiet hq⟩⟩

theorem rowF_len (f : Fm) (w : List Pt) : (rowF f w).length ≤ w.length := by
  unfold rowF
  split <;> simp

end Go.Proofs.YtnpcakakjhiboaaDoor

namespace Go.Proofs.YtnpcakakjhiboaaDoor
open Go Go.RowKit Go.Lo Go.WideShapes

/-- Does a formula hold at a place, within a word or not? -/
def holdsI (f : Fm) (w : List Pt) (i : Int) : Bool := decide (0 ≤ i) && holdsF f w i.toNat


/-- Where truth.Holds stands. -/
theorem bl_row_at {l : List Bool} {i : Int} (h0 : 0 ≤ i) (h1 : i < l.length) : ∃ n : Nat, i = n ∧ n < l.length ∧ l[n]? = some (l.getD n false) := by
  refine ⟨i.toNat, by omega, by omega, ?_⟩
  have : i.toNat < l.length := by omega
  simp [List.getD, this]

set_option maxRecDepth 100000 in
set_option maxHeartbeats 4000000 in
theorem holds51_walk (D : Nat → Prop) (t : Ft) (a : Option Addr) (cap : Nat) (L : List Hp) (i : Int) (w : World) (hin : In D w t) (hS : Shapes w) (hsz : t.size ≤ 10000) (hw : WdAt w a L) (hL : L.length ≤ 10000) : Calls Tryd.prog 51 #[t.val, .slice a L.length cap, .int .i64 i] w (Said (.bool (holdsI (Ft.pl t) (pts L) i)) w) := by
  have HI := Go.Lib.hid hin
  have HSH := Go.Lib.hid hS
  have HW := Go.Lib.hid hw
  clear hin hS hw
  unfold Ft.val
  go_enter Tryd.func51, Tryd.ntmps51
  go_upto_region 1 with (fail)
  have B : Hid (Blk (w.alloc (.cells #[.int .i64 t.top.n.op, .string t.top.n.nm, .int .i64 t.top.n.cmp, .int .i64 t.top.n.val, .int .i64 t.top.n.lo, .int .i64 t.top.n.hi, .slice t.top.a t.kids.length t.top.cap] 28)) w.heap.size #[.int .i64 t.top.n.op, .string t.top.n.nm, .int .i64 t.top.n.cmp, .int .i64 t.top.n.val, .int .i64 t.top.n.lo, .int .i64 t.top.n.hi, .slice t.top.a t.kids.length t.top.cap] 28) := Blk.new _ _ _
  have HQ : Hid (Quiet w (w.alloc (.cells #[.int .i64 t.top.n.op, .string t.top.n.nm, .int .i64 t.top.n.cmp, .int .i64 t.top.n.val, .int .i64 t.top.n.lo, .int .i64 t.top.n.hi, .slice t.top.a t.kids.length t.top.cap] 28))) := (Alters.refl _).alloc _
  generalize w.alloc _ = w1 at *
  obtain ⟨c0, c1, c2, c3, c4, c5, c6⟩ := seven_cells B.out
  have HC := Go.Lib.hid (row38_walk D t a cap L w1 (HI.out.quiet HQ.out) (HSH.out.keep HQ.out (by simp)) hsz (HW.out.quiet HQ.out) hL)
  have HV : Hid (holdsI (Ft.pl t) (pts L) i = (decide (0 ≤ i) && (rowF (Ft.pl t) (pts L)).getD i.toNat false)) := Go.Lib.hid rfl
  have hlen : (rowF (Ft.pl t) (pts L)).length ≤ 10000 := Nat.le_trans (rowF_len _ _) (by rw [pts_len]; exact hL)
  unfold Ft.val at HC
  generalize rowF (Ft.pl t) (pts L) = l at *
  go_wp2_with fail
  refine HC.out.mono ?_
  rintro e w2 ⟨ra, rc, rfl, hbl, hq2⟩
  clear c0 c1 c2 c3 c4 c5 c6 HC
  have HBL := Go.Lib.hid hbl
  replace HQ := Go.Lib.hid (HQ.out.trans hq2)
  clear hbl hq2
  by_cases h0 : 0 ≤ i
  rotate_left
  · have g0 : decide (0 ≤ i) = false := by simpa using h0
    rw [g0] at HV
    clear h0
    go_wp2_with fail
    go_ret
    exact ⟨by rw [HV.out]; rfl, HQ.out⟩
  · have g0 : decide (0 ≤ i) = true := by simpa using h0
    rw [g0, Bool.true_and] at HV
    by_cases h1 : i < l.length
    · obtain ⟨n, rfl, hn, hat⟩ := bl_row_at h0 h1
      obtain ⟨b, o, rfl, hc⟩ := HBL.out (fun h => by subst h; simp at hn)
      have d0 := hc n _ hat
      have g1 : decide ((n : Int) < (l.length : Int)) = true := by rw [decide_eq_true_eq]; omega
      rw [Int.toNat_natCast] at HV
      generalize l.getD n false = x at *
      clear hc hat h0
      go_wp2_with fail
      go_ret
      exact ⟨by rw [HV.out]; rfl, HQ.out⟩
    · have g1 : decide (i < (l.length : Int)) = false := by simpa using h1
      have HX : Hid (l.getD i.toNat false = false) := Go.Lib.hid (by rw [List.getD, List.getElem?_eq_none (by omega)]; rfl)
      clear h0 h1
      go_wp2_with fail
      go_ret
      exact ⟨by rw [HV.out, HX.out]; rfl, HQ.out⟩
end Go.Proofs.YtnpcakakjhiboaaDoor

namespace Go.Proofs.YtnpcakakjhiboaaDoor
open Go Go.RowKit Go.Lo Go.WideShapes

/-- The example's word, as it lies. -/
def exL (h : Nat) : List Hp := [⟨⟨0, [(⟨#[97]⟩, 0)]⟩, some ⟨h, 0, none⟩, 1⟩, ⟨⟨2, [(⟨#[97]⟩, 0)]⟩, some ⟨h + 1, 0, none⟩, 1⟩, ⟨⟨5, [(⟨#[98]⟩, 0)]⟩, some ⟨h + 1 + 1, 0, none⟩, 1⟩]

theorem exL_at {W : World} {h : Nat} (b0 : Blk W h #[.string ⟨#[97]⟩, .int .i64 0] 95) (b1 : Blk W (h + 1) #[.string ⟨#[97]⟩, .int .i64 0] 95) (b2 : Blk W (h + 1 + 1) #[.string ⟨#[98]⟩, .int .i64 0] 95)
    (b3 : Blk W (h + 1 + 1 + 1) #[.int .i64 0, .slice (some ⟨h, 0, none⟩) 1 1, .int .i64 2, .slice (some ⟨h + 1, 0, none⟩) 1 1, .int .i64 5, .slice (some ⟨h + 1 + 1, 0, none⟩) 1 1] 64) : WdAt W (some ⟨h + 1 + 1 + 1, 0, none⟩) (exL h) := by
  have one : ∀ (b : Nat) (c : UInt8), Blk W b #[.string ⟨#[c]⟩, .int .i64 0] 95 → PrAt W (some ⟨b, 0, none⟩) [(⟨#[c]⟩, 0)] := fun b c hb _ => ⟨b, 0, rfl, fun i q hq => by
    rcases i with _ | i
    · obtain rfl := Option.some.inj hq
      exact ⟨hb.cell 0 rfl, hb.cell 1 rfl⟩
    · simp at hq⟩
  refine ⟨by simp [exL, maxLen], fun _ => ⟨h + 1 + 1 + 1, 0, rfl, fun i q hq => ?_⟩, fun q hq => ?_, fun q hq => ?_⟩
  · rcases i with _ | _ | _ | i
    · obtain rfl := Option.some.inj hq
      exact ⟨b3.cell 0 rfl, b3.cell 1 rfl⟩
    · obtain rfl := Option.some.inj hq
      exact ⟨b3.cell 2 rfl, b3.cell 3 rfl⟩
    · obtain rfl := Option.some.inj hq
      exact ⟨b3.cell 4 rfl, b3.cell 5 rfl⟩
    · simp [exL] at hq
  · simp only [exL, List.mem_cons, List.not_mem_nil, or_false] at hq
    rcases hq with rfl | rfl | rfl
    · exact ⟨by simp [maxLen], one _ _ b0⟩
    · exact ⟨by simp [maxLen], one _ _ b1⟩
    · exact ⟨by simp [maxLen], one _ _ b2⟩
  · simp only [exL, List.mem_cons, List.not_mem_nil, or_false] at hq
    unfold I64
    rcases hq with rfl | rfl | rfl <;> simp

theorem row_of {W : World} {a : Option Addr} {L : List Hp} {c : Nat} {t : Ft} {f : Fm} {l : List Bool} (hp : Ft.pl t = f) (hi : In AllD W t) (hS : Shapes W) (hsz : f.size ≤ 10000) (hw : WdAt W a L) (hL : L.length ≤ 10000) (e : rowF f (pts L) = l) : Calls Tryd.prog 38 #[t.val, .slice a L.length c] W (GivesRow l W) := by
  subst hp e
  exact row38_walk AllD t a c L W hi hS (by rw [pl_size] at hsz; exact hsz) hw hL

theorem exU_size (hi : Int) : (exTwo 11 0 hi (exName 97) (exName 98)).size ≤ 10000 := by simp [exTwo, exName, Tr.size, Tr.sizeL]
theorem exA_size : (exOne 10 0 9 (exName 97)).size ≤ 10000 := by simp [exOne, exName, Tr.size, Tr.sizeL]

set_option maxRecDepth 100000 in
set_option maxHeartbeats 4000000 in
theorem awake13_walk (w : World) (hS : Shapes w) : Calls Tryd.prog 45 #[] w (Said (.bool true) w) := by
  have HSH := Go.Lib.hid hS
  clear hS
  go_enter Tryd.func45, Tryd.ntmps45
  go_upto_region 2 with (fail)
  have hq : Quiet w ((((w.alloc (.cells #[.string ⟨#[97]⟩, .int .i64 0] 95)).alloc (.cells #[.string ⟨#[97]⟩, .int .i64 0] 95)).alloc (.cells #[.string ⟨#[98]⟩, .int .i64 0] 95)).alloc (.cells #[.int .i64 0, .slice (some ⟨w.heap.size, 0, none⟩) 1 1, .int .i64 2, .slice (some ⟨w.heap.size + 1, 0, none⟩) 1 1, .int .i64 5, .slice (some ⟨w.heap.size + 1 + 1, 0, none⟩) 1 1] 64)) := ((((Alters.refl _).alloc _).alloc _).alloc _).alloc _
  have HW : Hid (WdAt ((((w.alloc (.cells #[.string ⟨#[97]⟩, .int .i64 0] 95)).alloc (.cells #[.string ⟨#[97]⟩, .int .i64 0] 95)).alloc (.cells #[.string ⟨#[98]⟩, .int .i64 0] 95)).alloc (.cells #[.int .i64 0, .slice (some ⟨w.heap.size, 0, none⟩) 1 1, .int .i64 2, .slice (some ⟨w.heap.size + 1, 0, none⟩) 1 1, .int .i64 5, .slice (some ⟨w.heap.size + 1 + 1, 0, none⟩) 1 1] 64)) (some ⟨w.heap.size + 1 + 1 + 1, 0, none⟩) (exL w.heap.size)) :=
    exL_at ((((Blk.new _ _ _).alloc _).alloc _).alloc _) (((alloc2 _ _ _ _).alloc _).alloc _) ((alloc3 _ _ _ _ _).alloc _) (alloc4 _ _ _ _ _ _)
  have HQ := Go.Lib.hid hq
  clear hq
  generalize (((w.alloc _).alloc _).alloc _).alloc _ = w1 at *
  generalize w.heap.size = h at *
  go_wp2_with fail
  refine (name_v13 AllD ⟨#[97]⟩ _).mono ?_
  rintro e w2 ⟨v1, rfl, hm1, hq⟩
  replace HQ := Go.Lib.hid (HQ.out.trans hq)
  replace HW := Go.Lib.hid (HW.out.quiet hq)
  have HM1 := Go.Lib.hid hm1
  clear hq hm1
  go_wp2_with fail
  refine (name_v13 AllD ⟨#[98]⟩ _).mono ?_
  rintro e w3 ⟨v2, rfl, hm2, hq⟩
  replace HQ := Go.Lib.hid (HQ.out.trans hq)
  replace HW := Go.Lib.hid (HW.out.quiet hq)
  replace HM1 := Go.Lib.hid (HM1.out.quiet hq)
  have HM2 := Go.Lib.hid hm2
  clear hq hm2
  go_wp2_with fail
  refine (two_v13 (D := AllD) 11 0 5 allD HM1.out HM2.out).mono ?_
  rintro e w4 ⟨v3, rfl, ⟨t3, rfl, hp3, hi3⟩, hq⟩
  replace HQ := Go.Lib.hid (HQ.out.trans hq)
  replace HW := Go.Lib.hid (HW.out.quiet hq)
  have HC := Go.Lib.hid (row_of (c := 3) (f := exTwo 11 0 5 (exName 97) (exName 98)) hp3 hi3 (HSH.out.keep HQ.out (by simp)) (exU_size 5) HW.out (by simp [exL]) row_exU5)
  clear hq hp3 hi3 HM1 HM2
  unfold Ft.val at HC ⊢
  go_wp2_with fail
  refine HC.out.mono ?_
  rintro e w5 ⟨xa, xc, rfl, hbx, hq⟩
  replace HQ := Go.Lib.hid (HQ.out.trans hq)
  replace HW := Go.Lib.hid (HW.out.quiet hq)
  have HBX := Go.Lib.hid hbx
  clear hq hbx HC
  go_wp2_with fail
  refine (name_v13 AllD ⟨#[97]⟩ _).mono ?_
  rintro e w6 ⟨v1, rfl, hm1, hq⟩
  replace HQ := Go.Lib.hid (HQ.out.trans hq)
  replace HW := Go.Lib.hid (HW.out.quiet hq)
  replace HBX := Go.Lib.hid (HBX.out.quiet hq)
  have HM1 := Go.Lib.hid hm1
  clear hq hm1
  go_wp2_with fail
  refine (name_v13 AllD ⟨#[98]⟩ _).mono ?_
  rintro e w7 ⟨v2, rfl, hm2, hq⟩
  replace HQ := Go.Lib.hid (HQ.out.trans hq)
  replace HW := Go.Lib.hid (HW.out.quiet hq)
  replace HBX := Go.Lib.hid (HBX.out.quiet hq)
  replace HM1 := Go.Lib.hid (HM1.out.quiet hq)
  have HM2 := Go.Lib.hid hm2
  clear hq hm2
  go_wp2_with fail
  refine (two_v13 (D := AllD) 11 0 4 allD HM1.out HM2.out).mono ?_
  rintro e w8 ⟨v4, rfl, ⟨t4, rfl, hp4, hi4⟩, hq⟩
  replace HQ := Go.Lib.hid (HQ.out.trans hq)
  replace HW := Go.Lib.hid (HW.out.quiet hq)
  replace HBX := Go.Lib.hid (HBX.out.quiet hq)
  have HC := Go.Lib.hid (row_of (c := 3) (f := exTwo 11 0 4 (exName 97) (exName 98)) hp4 hi4 (HSH.out.keep HQ.out (by simp)) (exU_size 4) HW.out (by simp [exL]) row_exU4)
  clear hq hp4 hi4 HM1 HM2
  unfold Ft.val at HC ⊢
  go_wp2_with fail
  refine HC.out.mono ?_
  rintro e w9 ⟨ya, yc, rfl, hby, hq⟩
  replace HQ := Go.Lib.hid (HQ.out.trans hq)
  replace HW := Go.Lib.hid (HW.out.quiet hq)
  replace HBX := Go.Lib.hid (HBX.out.quiet hq)
  have HBY := Go.Lib.hid hby
  clear hq hby HC
  go_wp2_with fail
  refine (name_v13 AllD ⟨#[97]⟩ _).mono ?_
  rintro e w10 ⟨v1, rfl, hm1, hq⟩
  replace HQ := Go.Lib.hid (HQ.out.trans hq)
  replace HW := Go.Lib.hid (HW.out.quiet hq)
  replace HBX := Go.Lib.hid (HBX.out.quiet hq)
  replace HBY := Go.Lib.hid (HBY.out.quiet hq)
  have HM1 := Go.Lib.hid hm1
  clear hq hm1
  go_wp2_with fail
  refine (one_v13 (D := AllD) 10 0 9 allD HM1.out).mono ?_
  rintro e w11 ⟨v5, rfl, ⟨t5, rfl, hp5, hi5⟩, hq⟩
  replace HQ := Go.Lib.hid (HQ.out.trans hq)
  replace HW := Go.Lib.hid (HW.out.quiet hq)
  replace HBX := Go.Lib.hid (HBX.out.quiet hq)
  replace HBY := Go.Lib.hid (HBY.out.quiet hq)
  have HC := Go.Lib.hid (row_of (c := 3) (f := exOne 10 0 9 (exName 97)) hp5 hi5 (HSH.out.keep HQ.out (by simp)) exA_size HW.out (by simp [exL]) row_exA)
  clear hq hp5 hi5 HM1
  unfold Ft.val at HC ⊢
  go_wp2_with fail
  refine HC.out.mono ?_
  rintro e w12 ⟨za, zc, rfl, hbz, hq⟩
  replace HQ := Go.Lib.hid (HQ.out.trans hq)
  replace HW := Go.Lib.hid (HW.out.quiet hq)
  replace HBX := Go.Lib.hid (HBX.out.quiet hq)
  replace HBY := Go.Lib.hid (HBY.out.quiet hq)
  obtain ⟨bx, ox, rfl, hcx⟩ := HBX.out (by simp)
  obtain ⟨by', oy, rfl, hcy⟩ := HBY.out (by simp)
  obtain ⟨bz, oz, rfl, hcz⟩ := hbz (by simp)
  have x0 := hcx 0 true rfl
  have x1 := hcx 1 true rfl
  have x2 := hcx 2 true rfl
  have y0 := hcy 0 false rfl
  have y1 := hcy 1 true rfl
  have z0 := hcz 0 false rfl
  have z1 := hcz 1 false rfl
  have z2 := hcz 2 false rfl
  rw [Nat.add_zero] at x0 y0 z0
  clear hq hcx hcy hcz hbz HC HBX HBY
  simp only [List.length_cons, List.length_nil]
  go_wp2_with fail
  refine (name_v13 AllD ⟨#[97]⟩ _).mono ?_
  rintro e w13 ⟨v1, rfl, ⟨t6, rfl, hp6, hi6⟩, hq⟩
  replace HQ := Go.Lib.hid (HQ.out.trans hq)
  replace HW := Go.Lib.hid (HW.out.quiet hq)
  have HC := Go.Lib.hid (holds51_walk AllD t6 _ 3 (exL h) 1 w13 hi6 (HSH.out.keep HQ.out (by simp)) (by rw [size_of (f := exName 97) hp6]; simp [exName, Tr.size, Tr.sizeL]) HW.out (by simp [exL]))
  rw [show Ft.pl t6 = exName 97 from hp6, show holdsI (exName 97) (pts (exL h)) 1 = true from holds_exN] at HC
  clear hq hp6 hi6 x0 x1 x2 y0 y1 z0 z1 z2
  unfold Ft.val at HC ⊢
  go_wp2_with fail
  refine HC.out.mono ?_
  rintro e w14 ⟨rfl, hq⟩
  replace HQ := Go.Lib.hid (HQ.out.trans hq)
  clear hq HC HW
  go_wp2_with fail
  go_ret
  exact ⟨rfl, HQ.out⟩
end Go.Proofs.YtnpcakakjhiboaaDoor
