/- Whether a node holds at a place, as the model tells it (134). No condition. The model's row of a formula on a word (89). No condition. The model's Row (48): where a formula holds on a word. No condition. -/
import Derived.Test.YtnpcakakjhiboaaDoorRef13a
import Derived.Test.YtnpcakakjhiboaaDoorRef13c
import Derived.Test.YtnpcakakjhiboaaDoorRef13d
import Derived.Test.YtnpcakakjhiboaaDoorRow13
import Derived.Test.YtnpcakakjhiboaaDoorNodes8
import Derived.Test.YtnpcakakjhiboaaDoorWordS
namespace Go.Proofs.YtnpcakakjhiboaaDoor
open Go Go.RowKit Go.Lo Go.WideShapes

theorem holds134_walk (op : Int) (nm : ByteArray) (cmp val lo hi : Int) (x6 : Value) (a : Option Addr) (cap : Nat) (L : List Hp) (i : Nat) (ra1 : Option Addr) (rc1 : Nat) (l1 : List Bool) (ra2 : Option Addr) (rc2 : Nat) (l2 : List Bool) (w : World) (hw : WdAt w a L) (hok : wordOk (pts L) = true) (hi' : i < L.length) (hr1 : BlAt w ra1 l1) (hr2 : BlAt w ra2 l2)
    (hop : 1 ≤ op ∧ op ≤ 12) (hk : (kidsOf op = 1 → l1.length = L.length) ∧ (kidsOf op = 2 → l1.length = L.length ∧ l2.length = L.length)) :
    Calls Tryd.prog 134 #[.agg #[.int .i64 op, .string nm, .int .i64 cmp, .int .i64 val, .int .i64 lo, .int .i64 hi, x6], .slice a L.length cap, .int .i64 (i : Int), .slice ra1 l1.length rc1, .slice ra2 l2.length rc2] w (Said (.bool (tvN (pts L) ⟨op, nm, cmp, val, lo, hi⟩ (rowT l1) (rowT l2) i)) w) := by
  have hcases : op = 1 ∨ op = 2 ∨ op = 3 ∨ op = 4 ∨ op = 5 ∨ op = 6 ∨ op = 7 ∨ op = 8 ∨ op = 9 ∨ op = 10 ∨ op = 11 ∨ op = 12 := by omega
  clear hop
  rcases hcases with rfl | rfl | rfl | rfl | rfl | rfl | rfl | rfl | rfl | rfl | rfl | rfl
  · rw [show tvN (pts L) ⟨1, nm, cmp, val, lo, hi⟩ (rowT l1) (rowT l2) i = (true) by simp [tvN]]
    exact h134_1 nm cmp val lo hi x6 a cap L i ra1 rc1 l1 ra2 rc2 l2 w hw hok hi' 
  · rw [show tvN (pts L) ⟨2, nm, cmp, val, lo, hi⟩ (rowT l1) (rowT l2) i = (false) by simp [tvN]]
    exact h134_2 nm cmp val lo hi x6 a cap L i ra1 rc1 l1 ra2 rc2 l2 w hw hok hi' 
  · rw [show tvN (pts L) ⟨3, nm, cmp, val, lo, hi⟩ (rowT l1) (rowT l2) i = (atomAt (prOf (pts L) i) nm cmp val) by simp [tvN]]
    exact h134_3 nm cmp val lo hi x6 a cap L i ra1 rc1 l1 ra2 rc2 l2 w hw hok hi' 
  · rw [show tvN (pts L) ⟨4, nm, cmp, val, lo, hi⟩ (rowT l1) (rowT l2) i = (!rowT l1 i) by simp [tvN]]
    exact h134_4 nm cmp val lo hi x6 a cap L i ra1 rc1 l1 ra2 rc2 l2 w hw hok hi' hr1 (hk.1 (by simp [kidsOf]))
  · rw [show tvN (pts L) ⟨5, nm, cmp, val, lo, hi⟩ (rowT l1) (rowT l2) i = (rowT l1 i && rowT l2 i) by simp [tvN]]
    exact h134_5 nm cmp val lo hi x6 a cap L i ra1 rc1 l1 ra2 rc2 l2 w hw hok hi' hr1 (hk.2 (by simp [kidsOf])).1 hr2 (hk.2 (by simp [kidsOf])).2
  · rw [show tvN (pts L) ⟨6, nm, cmp, val, lo, hi⟩ (rowT l1) (rowT l2) i = (rowT l1 i || rowT l2 i) by simp [tvN]]
    exact h134_6 nm cmp val lo hi x6 a cap L i ra1 rc1 l1 ra2 rc2 l2 w hw hok hi' hr1 (hk.2 (by simp [kidsOf])).1 hr2 (hk.2 (by simp [kidsOf])).2
  · rw [show tvN (pts L) ⟨7, nm, cmp, val, lo, hi⟩ (rowT l1) (rowT l2) i = (!rowT l1 i || rowT l2 i) by simp [tvN]]
    exact h134_7 nm cmp val lo hi x6 a cap L i ra1 rc1 l1 ra2 rc2 l2 w hw hok hi' hr1 (hk.2 (by simp [kidsOf])).1 hr2 (hk.2 (by simp [kidsOf])).2
  · rw [show tvN (pts L) ⟨8, nm, cmp, val, lo, hi⟩ (rowT l1) (rowT l2) i = (rowT l1 i == rowT l2 i) by simp [tvN]]
    exact h134_8 nm cmp val lo hi x6 a cap L i ra1 rc1 l1 ra2 rc2 l2 w hw hok hi' hr1 (hk.2 (by simp [kidsOf])).1 hr2 (hk.2 (by simp [kidsOf])).2
  · rw [show tvN (pts L) ⟨9, nm, cmp, val, lo, hi⟩ (rowT l1) (rowT l2) i = (evT (pts L) lo hi (rowT l1) i) by simp [tvN]]
    exact h134_9 nm cmp val lo hi x6 a cap L i ra1 rc1 l1 ra2 rc2 l2 w hw hok hi' hr1 (hk.1 (by simp [kidsOf]))
  · rw [show tvN (pts L) ⟨10, nm, cmp, val, lo, hi⟩ (rowT l1) (rowT l2) i = (!evT (pts L) lo hi (fun j => !rowT l1 j) i) by simp [tvN]]
    exact h134_10 nm cmp val lo hi x6 a cap L i ra1 rc1 l1 ra2 rc2 l2 w hw hok hi' hr1 (hk.1 (by simp [kidsOf]))
  · rw [show tvN (pts L) ⟨11, nm, cmp, val, lo, hi⟩ (rowT l1) (rowT l2) i = (unT (pts L) lo hi (rowT l1) (rowT l2) i) by simp [tvN]]
    exact h134_11 nm cmp val lo hi x6 a cap L i ra1 rc1 l1 ra2 rc2 l2 w hw hok hi' hr1 (hk.2 (by simp [kidsOf])).1 hr2 (hk.2 (by simp [kidsOf])).2
  · rw [show tvN (pts L) ⟨12, nm, cmp, val, lo, hi⟩ (rowT l1) (rowT l2) i = (!unT (pts L) lo hi (fun j => !rowT l1 j) (fun j => !rowT l2 j) i) by simp [tvN]]
    exact h134_12 nm cmp val lo hi x6 a cap L i ra1 rc1 l1 ra2 rc2 l2 w hw hok hi' hr1 (hk.2 (by simp [kidsOf])).1 hr2 (hk.2 (by simp [kidsOf])).2
end Go.Proofs.YtnpcakakjhiboaaDoor

namespace Go.Proofs.YtnpcakakjhiboaaDoor
open Go Go.RowKit Go.Lo Go.WideShapes

/-- A row under way: its first places, in a block that the loop owns. -/
structure Under (wl : World) (f : Nat → Bool) (v : Value) (k : Nat) (wr : World) : Prop where
  row : wr.ownsRow wl.heap.size 4 1 v k (((List.range k).map f).map Value.bool)
  quiet : Quiet wl wr

theorem Under.nil (wl : World) (f : Nat → Bool) : Under wl f (.slice none 0 0) 0 wl := ⟨World.ownsRow_nil _ _ _ _, Alters.refl _⟩

theorem Under.step {wl wr w3 w4 : World} {f : Nat → Bool} {v v4 : Value} {k : Nat} (h : Under wl f v k wr) (hq : Quiet wr w3) (hown : w4.ownsRow wl.heap.size 4 1 v4 (k + 1) (((List.range k).map f).map Value.bool ++ [.bool (f k)])) (hgrow : w3.grownBy w4 v.ownBlock) : Under wl f v4 (k + 1) w4 := by
  have hv : ∀ j, v.ownBlock = some j → wl.heap.size ≤ j ∧ j < wr.heap.size := fun j e => h.row.lt j e
  have hA : Alters (fun j => v.ownBlock = some j) wr w4 := (hq.to (p := fun j => v.ownBlock = some j)).grown hgrow (fun j e _ => e)
  refine ⟨by simpa [List.range_succ] using hown, h.quiet.then hA (fun i hi e => by have := (hv _ e).1; omega)⟩

theorem Under.bl {wl wr : World} {f : Nat → Bool} {n : Nat} {v : Value} (h : Under wl f v n wr) : ∃ a c, v = .slice a ((List.range n).map f).length c ∧ BlAt wr a ((List.range n).map f) := by
  obtain ⟨A, c, rfl⟩ := own_form h.row
  refine ⟨A, c, by simp, fun hn => ?_⟩
  rcases Reads.own h.row with ⟨-, hr⟩
  rcases n with _ | n
  · simp at hn
  obtain ⟨g, c9, hv⟩ := ownsRow_succ h.row
  obtain ⟨rfl, -⟩ : A = some ⟨g, 0, none⟩ ∧ c = c9 := by simpa using hv
  refine ⟨g, 0, rfl, fun i x hx => ?_⟩
  have := h.row.cells (g := g) rfl i (.bool x) (by rw [List.getElem?_map, hx]; rfl)
  rw [add_plain] at this
  exact this

set_option maxRecDepth 100000 in
set_option maxHeartbeats 8000000 in
theorem rows89_walk (D : Nat → Prop) (a : Option Addr) (cap : Nat) (L : List Hp) (t : Ft) : ∀ w, In D w t → WdAt w a L → wordOk (pts L) = true → L.length ≤ 10000 → (∀ n ∈ (Ft.pl t).pre, wrong n = 0) → Calls Tryd.prog 89 #[t.val, .slice a L.length cap] w (GivesRow (rowsC (pts L) (Ft.pl t)) w) := by
  induction t using Tr.ind with
  | h x ks ih =>
    intro w hin hw hok hL hwr
    obtain ⟨⟨op, nm, cmp, val, lo, hi⟩, a9, cap9⟩ := x
    have hpl : Ft.pl (.nd ⟨⟨op, nm, cmp, val, lo, hi⟩, a9, cap9⟩ ks) = .nd ⟨op, nm, cmp, val, lo, hi⟩ (ks.map Ft.pl) := by simp [Ft.pl, Tr.map, Tr.mapL_eq]
    rw [hpl] at hwr ⊢
    obtain ⟨h1, h12, hkl, -, -⟩ := wrong_zero (hwr (.nd ⟨op, nm, cmp, val, lo, hi⟩ (ks.map Ft.pl)) (by simp [Tr.pre]))
    rw [List.length_map] at hkl
    have hk2 := kids_le2 op
    try simp only at h1 h12 hkl
    rw [← hkl] at hk2
    have hsub : ∀ y, y ∈ ks → ∀ n ∈ (Ft.pl y).pre, wrong n = 0 := fun y hy n hn => hwr n (by
      simp only [Tr.pre, Tr.preL_eq, List.mem_cons, List.mem_flatMap, List.mem_map]
      exact .inr ⟨_, ⟨y, hy, rfl⟩, hn⟩)
    have HI := Go.Lib.hid hin
    have HIH := Go.Lib.hid ih
    have HW := Go.Lib.hid hw
    have HOK := Go.Lib.hid hok
    have HL := Go.Lib.hid hL
    have HOP : Hid (1 ≤ op ∧ op ≤ 12) := Go.Lib.hid ⟨h1, h12⟩
    have HKL := Go.Lib.hid hkl
    have HSUB := Go.Lib.hid hsub
    rw [rowsC_nd, List.map_map]
    clear hin ih hw hok hL hwr hpl h1 h12 hkl hsub
    unfold Ft.val
    simp only [Tr.top, Tr.kids]
    rcases ks with _ | ⟨x, _ | ⟨y, _ | ⟨z, r⟩⟩⟩
    · skip
      simp only [List.length_nil, List.map_nil] at HKL ⊢
      have hbx := Blk.new w #[.int .i64 op, .string nm, .int .i64 cmp, .int .i64 val, .int .i64 lo, .int .i64 hi, .slice a9 0 cap9] 33
      have hq : Quiet w (w.alloc (.cells #[.int .i64 op, .string nm, .int .i64 cmp, .int .i64 val, .int .i64 lo, .int .i64 hi, .slice a9 0 cap9] 33)) := (Alters.refl _).alloc _
      go_enter Tryd.func89, Tryd.ntmps89
      go_upto_region 3 with (fail)
      generalize w.alloc _ = w1 at *
      have HQ := Go.Lib.hid hq
      clear hq
      obtain ⟨c0, c1, c2, c3, c4, c5, c6⟩ := seven_cells hbx
      have HU0 := Go.Lib.hid (Under.nil w1 (tvN (pts L) ⟨op, nm, cmp, val, lo, hi⟩ (rowT []) (rowT [])))
      have hL := HL.out
      clear c0 c1 c2 c3 c4 c5
      go_wp2_with fail
      clear c6
      go_loopw [7, 8] (fun mv i wr => ∃ k : Nat, k ≤ L.length ∧ i = .int .i64 k ∧ Under w1 (tvN (pts L) ⟨op, nm, cmp, val, lo, hi⟩ (rowT []) (rowT [])) mv k wr) (fun _ i _ => L.length - (intOf i).toNat)
      case atStart => exact ⟨0, Nat.zero_le _, rfl, HU0.out⟩
      case round =>
        obtain ⟨k, hk, rfl, hU⟩ := hrel
        by_cases hlt : k < L.length
        · have HH := Go.Lib.hid (holds134_walk op nm cmp val lo hi (.slice a9 0 cap9) a cap L k none 0 [] none 0 [] _ ((HW.out.quiet HQ.out).quiet hU.quiet) HOK.out hlt (fun h => absurd rfl h) (fun h => absurd rfl h) HOP.out (by rw [← HKL.out]; simp))
          obtain ⟨c0, c1, c2, c3, c4, c5, c6⟩ := seven_cells (hU.quiet.blk hbx (by simp))
          have HU := Go.Lib.hid hU
          clear hU
          go_wp2_with fail
          refine HH.out.mono ?_
          rintro e w8 ⟨rfl, hq8⟩
          have hqa : Quiet w8 (w8.alloc (.cells #[.bool ((tvN (pts L) ⟨op, nm, cmp, val, lo, hi⟩ (rowT []) (rowT [])) k)] 4)) := (Alters.refl _).alloc _
          have hqk := hq8.trans hqa
          have hown8 := row_keep HU.out.row hqk (by simp)
          have hrd : Reads (w8.alloc (.cells #[.bool ((tvN (pts L) ⟨op, nm, cmp, val, lo, hi⟩ (rowT []) (rowT [])) k)] 4)) (some ⟨w8.heap.size, 0, none⟩) 1 1 [.bool ((tvN (pts L) ⟨op, nm, cmp, val, lo, hi⟩ (rowT []) (rowT [])) k)] := ⟨rfl, fun _ => ⟨_, rfl, World.news_of_block (Blk.new _ _ _)⟩⟩
          obtain ⟨i0, hi0, hz0, hz1, hz2⟩ := info_parts info4
          have hbg : w1.heap.size ≤ (w8.alloc (.cells #[.bool ((tvN (pts L) ⟨op, nm, cmp, val, lo, hi⟩ (rowT []) (rowT [])) k)] 4)).heap.size := by have h1 := HU.out.quiet.size; have h2 := hqk.size; omega
          have HK8 := Go.Lib.hid hqk
          clear hq8 hqa hqk HH c0 c1 c2 c3 c4 c5 c6
          go_wp2_with (at_builtin; refine wpList_append_reads _ rfl (.tmp 35) (.tmp 42) 47 rfl w1.heap.size 4 i0 _ 1 1 Tryd.underlying47 hi0 hz0 hz1 hz2 rfl (by decide) _ k _ rfl hown8 (some ⟨w8.heap.size, 0, none⟩) 1 1 [.bool ((tvN (pts L) ⟨op, nm, cmp, val, lo, hi⟩ (rowT []) (rowT [])) k)] rfl hrd (by simp [Value.oneCell']) (by unfold maxLen; omega) (by omega) hbg ?_)
          intro v9 w9 hown9 hgrow9 hat9
          have HN := Go.Lib.hid (HU.out.step HK8.out (by rw [List.map_map]; exact hown9) hgrow9)
          clear hown9 hgrow9 hat9 hrd hown8
          go_wp2_with fail
          go_roundw
          case rel => exact ⟨k + 1, by omega, by go_num, HN.out⟩
          case measure => simp [intOf]; omega
        · obtain rfl : k = L.length := by omega
          obtain ⟨ar, cr, rfl, hbl⟩ := hU.bl
          have HBL := Go.Lib.hid hbl
          have HUQ := Go.Lib.hid hU.quiet
          clear hbl hU
          go_wp2_with fail
          go_ret
          have e : rowB (pts L) ⟨op, nm, cmp, val, lo, hi⟩ [] = (List.range L.length).map (tvN (pts L) ⟨op, nm, cmp, val, lo, hi⟩ (rowT []) (rowT [])) := by simp [rowB, pts_len]
          rw [e]
          exact ⟨ar, cr, rfl, HBL.out, HQ.out.trans HUQ.out⟩
    · obtain ⟨b, o, rfl, hD, hc⟩ := HI.out.fs (by simp [Tr.kids])
      simp only [List.length_cons, List.length_nil, List.map_cons, List.map_nil, Function.comp] at HKL ⊢
      have hbx := Blk.new w #[.int .i64 op, .string nm, .int .i64 cmp, .int .i64 val, .int .i64 lo, .int .i64 hi, .slice (some ⟨b, o, none⟩) 1 cap9] 33
      have hq : Quiet w (w.alloc (.cells #[.int .i64 op, .string nm, .int .i64 cmp, .int .i64 val, .int .i64 lo, .int .i64 hi, .slice (some ⟨b, o, none⟩) 1 cap9] 33)) := (Alters.refl _).alloc _
      go_enter Tryd.func89, Tryd.ntmps89
      go_upto_region 3 with (fail)
      generalize w.alloc _ = w1 at *
      have HQ := Go.Lib.hid hq
      clear hq
      obtain ⟨c0, c1, c2, c3, c4, c5, c6⟩ := seven_cells hbx
      have HC0 := Go.Lib.hid (hc 0 x (by simp [Tr.kids]))
      clear hc hD
      obtain ⟨d0, d1, d2, d3, d4, d5, d6⟩ := (HC0.out.keep HQ.out (by simp)).seven
      simp only [Nat.zero_mul, Nat.add_zero] at d0 d1 d2 d3 d4 d5 d6
      have HK := Go.Lib.hid (HIH.out x (by simp) _ ((HI.out.kid (k := x) (by simp [Tr.kids])).quiet HQ.out) (HW.out.quiet HQ.out) HOK.out HL.out (HSUB.out x (by simp)))
      have HLN0 : Hid ((rowsC (pts L) (Ft.pl x)).length = L.length) := Go.Lib.hid (by rw [rowsC_eq]; simp [pts_len])
      generalize rowsC (pts L) (Ft.pl x) = r0 at *
      unfold Ft.val at HK
      go_wp2_with fail
      refine HK.out.mono ?_
      rintro e w2 ⟨ra0, rc0, rfl, hbl0, hq⟩
      clear d0 d1 d2 d3 d4 d5 d6 c0 c1 c2 c3 c4 c5 c6 HK
      have HBL0 := Go.Lib.hid hbl0
      replace hbx := hq.blk hbx (by simp)
      replace HQ := Go.Lib.hid (HQ.out.trans hq)
      clear hq hbl0
      obtain ⟨c0, c1, c2, c3, c4, c5, c6⟩ := seven_cells hbx
      have HU0 := Go.Lib.hid (Under.nil w2 (tvN (pts L) ⟨op, nm, cmp, val, lo, hi⟩ (rowT r0) (rowT [])))
      have hL := HL.out
      clear c0 c1 c2 c3 c4 c5
      go_wp2_with fail
      clear c6
      go_loopw [7, 8] (fun mv i wr => ∃ k : Nat, k ≤ L.length ∧ i = .int .i64 k ∧ Under w2 (tvN (pts L) ⟨op, nm, cmp, val, lo, hi⟩ (rowT r0) (rowT [])) mv k wr) (fun _ i _ => L.length - (intOf i).toNat)
      case atStart => exact ⟨0, Nat.zero_le _, rfl, HU0.out⟩
      case round =>
        obtain ⟨k, hk, rfl, hU⟩ := hrel
        by_cases hlt : k < L.length
        · have HH := Go.Lib.hid (holds134_walk op nm cmp val lo hi (.slice (some ⟨b, o, none⟩) 1 cap9) a cap L k ra0 rc0 r0 none 0 [] _ ((HW.out.quiet HQ.out).quiet hU.quiet) HOK.out hlt ((HBL0.out.quiet hU.quiet)) (fun h => absurd rfl h) HOP.out (by rw [← HKL.out]; simp; exact HLN0.out))
          obtain ⟨c0, c1, c2, c3, c4, c5, c6⟩ := seven_cells (hU.quiet.blk hbx (by simp))
          have HU := Go.Lib.hid hU
          clear hU
          go_wp2_with fail
          refine HH.out.mono ?_
          rintro e w8 ⟨rfl, hq8⟩
          have hqa : Quiet w8 (w8.alloc (.cells #[.bool ((tvN (pts L) ⟨op, nm, cmp, val, lo, hi⟩ (rowT r0) (rowT [])) k)] 4)) := (Alters.refl _).alloc _
          have hqk := hq8.trans hqa
          have hown8 := row_keep HU.out.row hqk (by simp)
          have hrd : Reads (w8.alloc (.cells #[.bool ((tvN (pts L) ⟨op, nm, cmp, val, lo, hi⟩ (rowT r0) (rowT [])) k)] 4)) (some ⟨w8.heap.size, 0, none⟩) 1 1 [.bool ((tvN (pts L) ⟨op, nm, cmp, val, lo, hi⟩ (rowT r0) (rowT [])) k)] := ⟨rfl, fun _ => ⟨_, rfl, World.news_of_block (Blk.new _ _ _)⟩⟩
          obtain ⟨i0, hi0, hz0, hz1, hz2⟩ := info_parts info4
          have hbg : w2.heap.size ≤ (w8.alloc (.cells #[.bool ((tvN (pts L) ⟨op, nm, cmp, val, lo, hi⟩ (rowT r0) (rowT [])) k)] 4)).heap.size := by have h1 := HU.out.quiet.size; have h2 := hqk.size; omega
          have HK8 := Go.Lib.hid hqk
          clear hq8 hqa hqk HH c0 c1 c2 c3 c4 c5 c6
          go_wp2_with (at_builtin; refine wpList_append_reads _ rfl (.tmp 35) (.tmp 42) 47 rfl w2.heap.size 4 i0 _ 1 1 Tryd.underlying47 hi0 hz0 hz1 hz2 rfl (by decide) _ k _ rfl hown8 (some ⟨w8.heap.size, 0, none⟩) 1 1 [.bool ((tvN (pts L) ⟨op, nm, cmp, val, lo, hi⟩ (rowT r0) (rowT [])) k)] rfl hrd (by simp [Value.oneCell']) (by unfold maxLen; omega) (by omega) hbg ?_)
          intro v9 w9 hown9 hgrow9 hat9
          have HN := Go.Lib.hid (HU.out.step HK8.out (by rw [List.map_map]; exact hown9) hgrow9)
          clear hown9 hgrow9 hat9 hrd hown8
          go_wp2_with fail
          go_roundw
          case rel => exact ⟨k + 1, by omega, by go_num, HN.out⟩
          case measure => simp [intOf]; omega
        · obtain rfl : k = L.length := by omega
          obtain ⟨ar, cr, rfl, hbl⟩ := hU.bl
          have HBL := Go.Lib.hid hbl
          have HUQ := Go.Lib.hid hU.quiet
          clear hbl hU
          go_wp2_with fail
          go_ret
          have e : rowB (pts L) ⟨op, nm, cmp, val, lo, hi⟩ [r0] = (List.range L.length).map (tvN (pts L) ⟨op, nm, cmp, val, lo, hi⟩ (rowT r0) (rowT [])) := by simp [rowB, pts_len]
          rw [e]
          exact ⟨ar, cr, rfl, HBL.out, HQ.out.trans HUQ.out⟩
    · obtain ⟨b, o, rfl, hD, hc⟩ := HI.out.fs (by simp [Tr.kids])
      simp only [List.length_cons, List.length_nil, List.map_cons, List.map_nil, Function.comp] at HKL ⊢
      have hbx := Blk.new w #[.int .i64 op, .string nm, .int .i64 cmp, .int .i64 val, .int .i64 lo, .int .i64 hi, .slice (some ⟨b, o, none⟩) 2 cap9] 33
      have hq : Quiet w (w.alloc (.cells #[.int .i64 op, .string nm, .int .i64 cmp, .int .i64 val, .int .i64 lo, .int .i64 hi, .slice (some ⟨b, o, none⟩) 2 cap9] 33)) := (Alters.refl _).alloc _
      go_enter Tryd.func89, Tryd.ntmps89
      go_upto_region 3 with (fail)
      generalize w.alloc _ = w1 at *
      have HQ := Go.Lib.hid hq
      clear hq
      obtain ⟨c0, c1, c2, c3, c4, c5, c6⟩ := seven_cells hbx
      have HC0 := Go.Lib.hid (hc 0 x (by simp [Tr.kids]))
      have HC1 := Go.Lib.hid (hc 1 y (by simp [Tr.kids]))
      clear hc hD
      obtain ⟨d0, d1, d2, d3, d4, d5, d6⟩ := (HC0.out.keep HQ.out (by simp)).seven
      simp only [Nat.zero_mul, Nat.add_zero] at d0 d1 d2 d3 d4 d5 d6
      have HK := Go.Lib.hid (HIH.out x (by simp) _ ((HI.out.kid (k := x) (by simp [Tr.kids])).quiet HQ.out) (HW.out.quiet HQ.out) HOK.out HL.out (HSUB.out x (by simp)))
      have HLN0 : Hid ((rowsC (pts L) (Ft.pl x)).length = L.length) := Go.Lib.hid (by rw [rowsC_eq]; simp [pts_len])
      generalize rowsC (pts L) (Ft.pl x) = r0 at *
      unfold Ft.val at HK
      go_wp2_with fail
      refine HK.out.mono ?_
      rintro e w2 ⟨ra0, rc0, rfl, hbl0, hq⟩
      clear d0 d1 d2 d3 d4 d5 d6 c0 c1 c2 c3 c4 c5 c6 HK
      have HBL0 := Go.Lib.hid hbl0
      replace hbx := hq.blk hbx (by simp)
      replace HQ := Go.Lib.hid (HQ.out.trans hq)
      clear hq hbl0
      obtain ⟨c0, c1, c2, c3, c4, c5, c6⟩ := seven_cells hbx
      obtain ⟨d0, d1, d2, d3, d4, d5, d6⟩ := (HC1.out.keep HQ.out (by simp)).seven
      simp only [Nat.one_mul] at d0 d1 d2 d3 d4 d5 d6
      have HK := Go.Lib.hid (HIH.out y (by simp) _ ((HI.out.kid (k := y) (by simp [Tr.kids])).quiet HQ.out) (HW.out.quiet HQ.out) HOK.out HL.out (HSUB.out y (by simp)))
      have HLN1 : Hid ((rowsC (pts L) (Ft.pl y)).length = L.length) := Go.Lib.hid (by rw [rowsC_eq]; simp [pts_len])
      generalize rowsC (pts L) (Ft.pl y) = r1 at *
      unfold Ft.val at HK
      go_wp2_with fail
      refine HK.out.mono ?_
      rintro e w3 ⟨ra1, rc1, rfl, hbl1, hq⟩
      clear d0 d1 d2 d3 d4 d5 d6 c0 c1 c2 c3 c4 c5 c6 HK
      have HBL1 := Go.Lib.hid hbl1
      replace HBL0 := Go.Lib.hid (HBL0.out.quiet hq)
      replace hbx := hq.blk hbx (by simp)
      replace HQ := Go.Lib.hid (HQ.out.trans hq)
      clear hq hbl1
      obtain ⟨c0, c1, c2, c3, c4, c5, c6⟩ := seven_cells hbx
      have HU0 := Go.Lib.hid (Under.nil w3 (tvN (pts L) ⟨op, nm, cmp, val, lo, hi⟩ (rowT r0) (rowT r1)))
      have hL := HL.out
      clear c0 c1 c2 c3 c4 c5
      go_wp2_with fail
      clear c6
      go_loopw [7, 8] (fun mv i wr => ∃ k : Nat, k ≤ L.length ∧ i = .int .i64 k ∧ Under w3 (tvN (pts L) ⟨op, nm, cmp, val, lo, hi⟩ (rowT r0) (rowT r1)) mv k wr) (fun _ i _ => L.length - (intOf i).toNat)
      case atStart => exact ⟨0, Nat.zero_le _, rfl, HU0.out⟩
      case round =>
        obtain ⟨k, hk, rfl, hU⟩ := hrel
        by_cases hlt : k < L.length
        · have HH := Go.Lib.hid (holds134_walk op nm cmp val lo hi (.slice (some ⟨b, o, none⟩) 2 cap9) a cap L k ra0 rc0 r0 ra1 rc1 r1 _ ((HW.out.quiet HQ.out).quiet hU.quiet) HOK.out hlt ((HBL0.out.quiet hU.quiet)) ((HBL1.out.quiet hU.quiet)) HOP.out (by rw [← HKL.out]; simp; exact ⟨HLN0.out, HLN1.out⟩))
          obtain ⟨c0, c1, c2, c3, c4, c5, c6⟩ := seven_cells (hU.quiet.blk hbx (by simp))
          have HU := Go.Lib.hid hU
          clear hU
          go_wp2_with fail
          refine HH.out.mono ?_
          rintro e w8 ⟨rfl, hq8⟩
          have hqa : Quiet w8 (w8.alloc (.cells #[.bool ((tvN (pts L) ⟨op, nm, cmp, val, lo, hi⟩ (rowT r0) (rowT r1)) k)] 4)) := (Alters.refl _).alloc _
          have hqk := hq8.trans hqa
          have hown8 := row_keep HU.out.row hqk (by simp)
          have hrd : Reads (w8.alloc (.cells #[.bool ((tvN (pts L) ⟨op, nm, cmp, val, lo, hi⟩ (rowT r0) (rowT r1)) k)] 4)) (some ⟨w8.heap.size, 0, none⟩) 1 1 [.bool ((tvN (pts L) ⟨op, nm, cmp, val, lo, hi⟩ (rowT r0) (rowT r1)) k)] := ⟨rfl, fun _ => ⟨_, rfl, World.news_of_block (Blk.new _ _ _)⟩⟩
          obtain ⟨i0, hi0, hz0, hz1, hz2⟩ := info_parts info4
          have hbg : w3.heap.size ≤ (w8.alloc (.cells #[.bool ((tvN (pts L) ⟨op, nm, cmp, val, lo, hi⟩ (rowT r0) (rowT r1)) k)] 4)).heap.size := by have h1 := HU.out.quiet.size; have h2 := hqk.size; omega
          have HK8 := Go.Lib.hid hqk
          clear hq8 hqa hqk HH c0 c1 c2 c3 c4 c5 c6
          go_wp2_with (at_builtin; refine wpList_append_reads _ rfl (.tmp 35) (.tmp 42) 47 rfl w3.heap.size 4 i0 _ 1 1 Tryd.underlying47 hi0 hz0 hz1 hz2 rfl (by decide) _ k _ rfl hown8 (some ⟨w8.heap.size, 0, none⟩) 1 1 [.bool ((tvN (pts L) ⟨op, nm, cmp, val, lo, hi⟩ (rowT r0) (rowT r1)) k)] rfl hrd (by simp [Value.oneCell']) (by unfold maxLen; omega) (by omega) hbg ?_)
          intro v9 w9 hown9 hgrow9 hat9
          have HN := Go.Lib.hid (HU.out.step HK8.out (by rw [List.map_map]; exact hown9) hgrow9)
          clear hown9 hgrow9 hat9 hrd hown8
          go_wp2_with fail
          go_roundw
          case rel => exact ⟨k + 1, by omega, by go_num, HN.out⟩
          case measure => simp [intOf]; omega
        · obtain rfl : k = L.length := by omega
          obtain ⟨ar, cr, rfl, hbl⟩ := hU.bl
          have HBL := Go.Lib.hid hbl
          have HUQ := Go.Lib.hid hU.quiet
          clear hbl hU
          go_wp2_with fail
          go_ret
          have e : rowB (pts L) ⟨op, nm, cmp, val, lo, hi⟩ [r0, r1] = (List.range L.length).map (tvN (pts L) ⟨op, nm, cmp, val, lo, hi⟩ (rowT r0) (rowT r1)) := by simp [rowB, pts_len]
          rw [e]
          exact ⟨ar, cr, rfl, HBL.out, HQ.out.trans HUQ.out⟩
    · simp at hk2
end Go.Proofs.YtnpcakakjhiboaaDoor

namespace Go.Proofs.YtnpcakakjhiboaaDoor
open Go Go.RowKit Go.Lo Go.WideShapes

set_option maxRecDepth 100000 in
set_option maxHeartbeats 4000000 in
theorem row48_walk (D : Nat → Prop) (t : Ft) (a : Option Addr) (cap : Nat) (L : List Hp) (w : World) (hin : In D w t) (hsz : t.size ≤ 10000) (hw : WdAt w a L) (hL : L.length ≤ 10000) : Calls Tryd.prog 48 #[t.val, .slice a L.length cap] w (GivesRow (rowF (Ft.pl t) (pts L)) w) := by
  have HI := Go.Lib.hid hin
  have HW := Go.Lib.hid hw
  clear hin hw
  unfold Ft.val
  go_enter Tryd.func48, Tryd.ntmps48
  go_upto_region 1 with (fail)
  have B : Hid (Blk (w.alloc (.cells #[.int .i64 t.top.n.op, .string t.top.n.nm, .int .i64 t.top.n.cmp, .int .i64 t.top.n.val, .int .i64 t.top.n.lo, .int .i64 t.top.n.hi, .slice t.top.a t.kids.length t.top.cap] 33)) w.heap.size #[.int .i64 t.top.n.op, .string t.top.n.nm, .int .i64 t.top.n.cmp, .int .i64 t.top.n.val, .int .i64 t.top.n.lo, .int .i64 t.top.n.hi, .slice t.top.a t.kids.length t.top.cap] 33) := Blk.new _ _ _
  have HQ : Hid (Quiet w (w.alloc (.cells #[.int .i64 t.top.n.op, .string t.top.n.nm, .int .i64 t.top.n.cmp, .int .i64 t.top.n.val, .int .i64 t.top.n.lo, .int .i64 t.top.n.hi, .slice t.top.a t.kids.length t.top.cap] 33))) := (Alters.refl _).alloc _
  generalize w.alloc _ = w1 at *
  obtain ⟨c0, c1, c2, c3, c4, c5, c6⟩ := seven_cells B.out
  have HC := Go.Lib.hid (first8_walk D t (by omega) w1 (HI.out.quiet HQ.out))
  unfold Ft.val at HC
  by_cases hf : first (Ft.pl t) = 0
  rotate_left
  · have HN : Hid (rowF (Ft.pl t) (pts L) = []) := Go.Lib.hid (by unfold rowF; rw [if_neg (fun e => hf e.1)])
    generalize first (Ft.pl t) = F0 at *
    have b1 : (F0 != 0) = true := by simpa using hf
    clear hf
    go_wp2_with fail
    refine HC.out.mono ?_
    rintro e w2 ⟨rfl, hq2⟩
    clear c0 c1 c2 c3 c4 c5 c6 HC
    go_wp2_with fail
    go_ret
    rw [HN.out]
    exact ⟨none, 0, rfl, fun h => absurd rfl h, HQ.out.trans hq2⟩
  · rw [hf] at HC
    have HF := Go.Lib.hid hf
    clear hf
    go_wp2_with fail
    refine HC.out.mono ?_
    rintro e w2 ⟨rfl, hq2⟩
    clear c0 c1 c2 c3 c4 c5 c6 HC
    replace B := Go.Lib.hid (hq2.blk B.out (by simp))
    replace HQ := Go.Lib.hid (HQ.out.trans hq2)
    clear hq2
    have HC := Go.Lib.hid (right88_walk a cap L w2 (HW.out.quiet HQ.out))
    cases hwd : wordOk (pts L)
    · rw [hwd] at HC
      have HN : Hid (rowF (Ft.pl t) (pts L) = []) := Go.Lib.hid (by unfold rowF; rw [if_neg (fun e => by rw [hwd] at e; exact absurd e.2 (by decide))])
      clear hwd
      go_wp2_with fail
      refine HC.out.mono ?_
      rintro e w3 ⟨rfl, hq3⟩
      clear HC
      go_wp2_with fail
      go_ret
      rw [HN.out]
      exact ⟨none, 0, rfl, fun h => absurd rfl h, HQ.out.trans hq3⟩
    · rw [hwd] at HC
      have HN : Hid (rowF (Ft.pl t) (pts L) = rowsC (pts L) (Ft.pl t)) := Go.Lib.hid (rowF_sound HF.out hwd)
      have HWD := Go.Lib.hid hwd
      clear hwd
      go_wp2_with fail
      refine HC.out.mono ?_
      rintro e w3 ⟨rfl, hq3⟩
      clear HC
      replace B := Go.Lib.hid (hq3.blk B.out (by simp))
      replace HQ := Go.Lib.hid (HQ.out.trans hq3)
      clear hq3
      obtain ⟨c0, c1, c2, c3, c4, c5, c6⟩ := seven_cells B.out
      have HC := Go.Lib.hid (rows89_walk D a cap L t w3 (HI.out.quiet HQ.out) (HW.out.quiet HQ.out) HWD.out hL ((first_zero _).1 HF.out))
      unfold Ft.val at HC
      go_wp2_with fail
      refine HC.out.mono ?_
      rintro e w4 ⟨ra, rc, rfl, hbl, hq4⟩
      clear c0 c1 c2 c3 c4 c5 c6 HC
      go_wp2_with fail
      go_ret
      rw [HN.out]
      exact ⟨ra, rc, rfl, hbl, HQ.out.trans hq4⟩

theorem row48_of {D : Nat → Prop} {W : World} {a : Option Addr} {L : List Hp} {c : Nat} {t : Ft} {f : Fm} (hp : Ft.pl t = f) (hi : In D W t) (hsz : f.size ≤ 10000) (hw : WdAt W a L) (hL : L.length ≤ 10000) : Calls Tryd.prog 48 #[t.val, .slice a L.length c] W (GivesRow (rowF f (pts L)) W) := by
  subst hp
  exact row48_walk D t a c L W hi (by rw [show (Ft.pl t).size = t.size from Tr.map_size _ _] at hsz; exact hsz) hw hL
end Go.Proofs.YtnpcakakjhiboaaDoor
