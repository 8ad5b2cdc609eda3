/- What holds of a place of a word, node by node: the closures of truth.rule. No condition. truth.rule: what holds of a place of a word, node by node. No condition. -/
import Derived.Test.YtnpcakakjhiboaaDoorLabel5
import Derived.Test.YtnpcakakjhiboaaDoorReach1
import Derived.Test.YtnpcakakjhiboaaDoorReach2
import Derived.Test.YtnpcakakjhiboaaDoorReach3
import Derived.Test.YtnpcakakjhiboaaDoorMem
import Derived.Shelf.Abstract
namespace Go.Proofs.YtnpcakakjhiboaaDoor
open Go.RowKit Go.Lo Go.WideShapes

set_option maxRecDepth 100000 in
theorem c112 (i : Int) (W : World) : Calls Tryd.prog 112 #[.int .i64 i] W (Said (.bool true) W) := by
  go_enter Tryd.func112, Tryd.ntmps112
  go_wp2
  go_ret
  exact ⟨rfl, Alters.refl _⟩

set_option maxRecDepth 100000 in
theorem c127 (i : Int) (W : World) : Calls Tryd.prog 127 #[.int .i64 i] W (Said (.bool false) W) := by
  go_enter Tryd.func127, Tryd.ntmps127
  go_wp2
  go_ret
  exact ⟨rfl, Alters.refl _⟩

set_option maxRecDepth 100000 in
set_option maxHeartbeats 2000000 in
theorem c115 (i : Nat) (W : World) (bx1 : Nat) (ra1 : Option Addr) (rc1 : Nat) (l1 : List Bool) (hx1 : Blk W bx1 #[.slice ra1 l1.length rc1] 47) (hr1 : BlAt W ra1 l1) (hi1 : i < l1.length) : Calls Tryd.prog 115 #[.int .i64 (i : Int), .pointer (some ⟨bx1, 0, none⟩)] W (Said (.bool (!rowT l1 i)) W) := by
  obtain ⟨rb1, ro1, rfl, hc1⟩ := hr1 (fun h => by subst h; simp at hi1)
  obtain ⟨x1, hq1⟩ : ∃ x, l1[i]? = some x := ⟨_, List.getElem?_eq_getElem hi1⟩
  have f1 := hc1 i x1 hq1
  have HX1 := Go.Lib.hid (rowT_at hq1)
  have g1 := hx1.cell 0 rfl
  clear hc1 hq1 hx1 hr1
  rw [HX1.out]
  go_enter Tryd.func115, Tryd.ntmps115
  go_wp2
  go_ret
  exact ⟨rfl, Alters.refl _⟩

set_option maxRecDepth 100000 in
set_option maxHeartbeats 2000000 in
theorem c116 (i : Nat) (W : World) (bx1 : Nat) (ra1 : Option Addr) (rc1 : Nat) (l1 : List Bool) (hx1 : Blk W bx1 #[.slice ra1 l1.length rc1] 47) (hr1 : BlAt W ra1 l1) (hi1 : i < l1.length) (bx2 : Nat) (ra2 : Option Addr) (rc2 : Nat) (l2 : List Bool) (hx2 : Blk W bx2 #[.slice ra2 l2.length rc2] 47) (hr2 : BlAt W ra2 l2) (hi2 : i < l2.length) : Calls Tryd.prog 116 #[.int .i64 (i : Int), .pointer (some ⟨bx1, 0, none⟩), .pointer (some ⟨bx2, 0, none⟩)] W (Said (.bool (rowT l1 i && rowT l2 i)) W) := by
  obtain ⟨rb1, ro1, rfl, hc1⟩ := hr1 (fun h => by subst h; simp at hi1)
  obtain ⟨x1, hq1⟩ : ∃ x, l1[i]? = some x := ⟨_, List.getElem?_eq_getElem hi1⟩
  have f1 := hc1 i x1 hq1
  have HX1 := Go.Lib.hid (rowT_at hq1)
  have g1 := hx1.cell 0 rfl
  clear hc1 hq1 hx1 hr1
  obtain ⟨rb2, ro2, rfl, hc2⟩ := hr2 (fun h => by subst h; simp at hi2)
  obtain ⟨x2, hq2⟩ : ∃ x, l2[i]? = some x := ⟨_, List.getElem?_eq_getElem hi2⟩
  have f2 := hc2 i x2 hq2
  have HX2 := Go.Lib.hid (rowT_at hq2)
  have g2 := hx2.cell 0 rfl
  clear hc2 hq2 hx2 hr2
  rw [HX1.out, HX2.out]
  go_enter Tryd.func116, Tryd.ntmps116
  cases x1
  · go_wp2
    go_ret
    exact ⟨rfl, Alters.refl _⟩
  · go_wp2
    go_ret
    exact ⟨rfl, Alters.refl _⟩

set_option maxRecDepth 100000 in
set_option maxHeartbeats 2000000 in
theorem c117 (i : Nat) (W : World) (bx1 : Nat) (ra1 : Option Addr) (rc1 : Nat) (l1 : List Bool) (hx1 : Blk W bx1 #[.slice ra1 l1.length rc1] 47) (hr1 : BlAt W ra1 l1) (hi1 : i < l1.length) (bx2 : Nat) (ra2 : Option Addr) (rc2 : Nat) (l2 : List Bool) (hx2 : Blk W bx2 #[.slice ra2 l2.length rc2] 47) (hr2 : BlAt W ra2 l2) (hi2 : i < l2.length) : Calls Tryd.prog 117 #[.int .i64 (i : Int), .pointer (some ⟨bx1, 0, none⟩), .pointer (some ⟨bx2, 0, none⟩)] W (Said (.bool (rowT l1 i || rowT l2 i)) W) := by
  obtain ⟨rb1, ro1, rfl, hc1⟩ := hr1 (fun h => by subst h; simp at hi1)
  obtain ⟨x1, hq1⟩ : ∃ x, l1[i]? = some x := ⟨_, List.getElem?_eq_getElem hi1⟩
  have f1 := hc1 i x1 hq1
  have HX1 := Go.Lib.hid (rowT_at hq1)
  have g1 := hx1.cell 0 rfl
  clear hc1 hq1 hx1 hr1
  obtain ⟨rb2, ro2, rfl, hc2⟩ := hr2 (fun h => by subst h; simp at hi2)
  obtain ⟨x2, hq2⟩ : ∃ x, l2[i]? = some x := ⟨_, List.getElem?_eq_getElem hi2⟩
  have f2 := hc2 i x2 hq2
  have HX2 := Go.Lib.hid (rowT_at hq2)
  have g2 := hx2.cell 0 rfl
  clear hc2 hq2 hx2 hr2
  rw [HX1.out, HX2.out]
  go_enter Tryd.func117, Tryd.ntmps117
  cases x1
  · go_wp2
    go_ret
    exact ⟨rfl, Alters.refl _⟩
  · go_wp2
    go_ret
    exact ⟨rfl, Alters.refl _⟩

set_option maxRecDepth 100000 in
set_option maxHeartbeats 2000000 in
theorem c118 (i : Nat) (W : World) (bx1 : Nat) (ra1 : Option Addr) (rc1 : Nat) (l1 : List Bool) (hx1 : Blk W bx1 #[.slice ra1 l1.length rc1] 47) (hr1 : BlAt W ra1 l1) (hi1 : i < l1.length) (bx2 : Nat) (ra2 : Option Addr) (rc2 : Nat) (l2 : List Bool) (hx2 : Blk W bx2 #[.slice ra2 l2.length rc2] 47) (hr2 : BlAt W ra2 l2) (hi2 : i < l2.length) : Calls Tryd.prog 118 #[.int .i64 (i : Int), .pointer (some ⟨bx1, 0, none⟩), .pointer (some ⟨bx2, 0, none⟩)] W (Said (.bool (!rowT l1 i || rowT l2 i)) W) := by
  obtain ⟨rb1, ro1, rfl, hc1⟩ := hr1 (fun h => by subst h; simp at hi1)
  obtain ⟨x1, hq1⟩ : ∃ x, l1[i]? = some x := ⟨_, List.getElem?_eq_getElem hi1⟩
  have f1 := hc1 i x1 hq1
  have HX1 := Go.Lib.hid (rowT_at hq1)
  have g1 := hx1.cell 0 rfl
  clear hc1 hq1 hx1 hr1
  obtain ⟨rb2, ro2, rfl, hc2⟩ := hr2 (fun h => by subst h; simp at hi2)
  obtain ⟨x2, hq2⟩ : ∃ x, l2[i]? = some x := ⟨_, List.getElem?_eq_getElem hi2⟩
  have f2 := hc2 i x2 hq2
  have HX2 := Go.Lib.hid (rowT_at hq2)
  have g2 := hx2.cell 0 rfl
  clear hc2 hq2 hx2 hr2
  rw [HX1.out, HX2.out]
  go_enter Tryd.func118, Tryd.ntmps118
  cases x1
  · go_wp2
    go_ret
    exact ⟨rfl, Alters.refl _⟩
  · go_wp2
    go_ret
    exact ⟨rfl, Alters.refl _⟩

set_option maxRecDepth 100000 in
set_option maxHeartbeats 2000000 in
theorem c119 (i : Nat) (W : World) (bx1 : Nat) (ra1 : Option Addr) (rc1 : Nat) (l1 : List Bool) (hx1 : Blk W bx1 #[.slice ra1 l1.length rc1] 47) (hr1 : BlAt W ra1 l1) (hi1 : i < l1.length) (bx2 : Nat) (ra2 : Option Addr) (rc2 : Nat) (l2 : List Bool) (hx2 : Blk W bx2 #[.slice ra2 l2.length rc2] 47) (hr2 : BlAt W ra2 l2) (hi2 : i < l2.length) : Calls Tryd.prog 119 #[.int .i64 (i : Int), .pointer (some ⟨bx1, 0, none⟩), .pointer (some ⟨bx2, 0, none⟩)] W (Said (.bool (rowT l1 i == rowT l2 i)) W) := by
  obtain ⟨rb1, ro1, rfl, hc1⟩ := hr1 (fun h => by subst h; simp at hi1)
  obtain ⟨x1, hq1⟩ : ∃ x, l1[i]? = some x := ⟨_, List.getElem?_eq_getElem hi1⟩
  have f1 := hc1 i x1 hq1
  have HX1 := Go.Lib.hid (rowT_at hq1)
  have g1 := hx1.cell 0 rfl
  clear hc1 hq1 hx1 hr1
  obtain ⟨rb2, ro2, rfl, hc2⟩ := hr2 (fun h => by subst h; simp at hi2)
  obtain ⟨x2, hq2⟩ : ∃ x, l2[i]? = some x := ⟨_, List.getElem?_eq_getElem hi2⟩
  have f2 := hc2 i x2 hq2
  have HX2 := Go.Lib.hid (rowT_at hq2)
  have g2 := hx2.cell 0 rfl
  clear hc2 hq2 hx2 hr2
  rw [HX1.out, HX2.out]
  go_enter Tryd.func119, Tryd.ntmps119
  go_upto_region 1 with (fail)
  refine wp_region_wants (by kernel_rfl) (by kernel_rfl) (by kernel_rfl) (by kernel_rfl) (CellsAt W [(⟨bx1, 0, none⟩, .slice (some ⟨rb1, ro1, none⟩) l1.length rc1), (⟨rb1, ro1 + i, none⟩, .bool x1), (⟨bx2, 0, none⟩, .slice (some ⟨rb2, ro2, none⟩) l2.length rc2), (⟨rb2, ro2 + i, none⟩, .bool x2)]) (fun _ _ hq h => h.keep hq) [Want.is (.slice (some ⟨rb1, ro1, none⟩) l1.length rc1), Want.is (.int .i64 (i : Int)), Want.is (.pointer (some ⟨rb1, ro1 + i, none⟩)), Want.is (.bool x1), Want.is (.slice (some ⟨rb2, ro2, none⟩) l2.length rc2), Want.is (.int .i64 (i : Int)), Want.is (.pointer (some ⟨rb2, ro2 + i, none⟩)), Want.is (.bool x2), Want.is (.bool (x1 == x2))] ((CellsAt.cons (a := ⟨bx1, 0, none⟩) (v := .slice (some ⟨rb1, ro1, none⟩) l1.length rc1) (g1) (CellsAt.cons (a := ⟨rb1, ro1 + i, none⟩) (v := .bool x1) (f1) (CellsAt.cons (a := ⟨bx2, 0, none⟩) (v := .slice (some ⟨rb2, ro2, none⟩) l2.length rc2) (g2) (CellsAt.cons (a := ⟨rb2, ro2 + i, none⟩) (v := .bool x2) (f2) (CellsAt.nil (Alters.refl _)))))).keep ((Alters.refl _).drew)) (by decide) ?_
  refine Steps.cons ?_ (Steps.cons ?_ (Steps.cons ?_ (Steps.cons ?_ (Steps.cons ?_ (Steps.cons ?_ (Steps.cons ?_ (Steps.cons ?_ (Steps.cons ?_ (Steps.last ?_)))))))))
  · intro u W K hS hF hK
    simp only [putsFrom, Act.put, Nat.reduceAdd, List.setIfInBounds_toArray, List.set_cons_zero, List.set_cons_succ] at hK ⊢
    clear hF
    have x0 := hS.at (bx1) (0) (.slice (some ⟨rb1, ro1, none⟩) l1.length rc1) (by simp)
    go_simp
    exact hK.out _ _ (Alters.refl _) rfl
  · intro u W K hS hF hK
    simp only [putsFrom, Act.put, Nat.reduceAdd, List.setIfInBounds_toArray, List.set_cons_zero, List.set_cons_succ] at hK ⊢
    clear hF
    go_simp
    exact hK.out _ _ (Alters.refl _) rfl
  · intro u W K hS hF hK
    have f0 : u 0 = .slice (some ⟨rb1, ro1, none⟩) l1.length rc1 := hF 0 (by kernel_rfl)
    have f1 : u 1 = .int .i64 (i : Int) := hF 1 (by kernel_rfl)
    simp only [putsFrom, Act.put, Nat.reduceAdd, List.setIfInBounds_toArray, List.set_cons_zero, List.set_cons_succ, f0, f1] at hK ⊢
    clear hF
    go_simp
    exact hK.out _ _ (Alters.refl _) rfl
  · intro u W K hS hF hK
    have f2 : u 2 = .pointer (some ⟨rb1, ro1 + i, none⟩) := hF 2 (by kernel_rfl)
    simp only [putsFrom, Act.put, Nat.reduceAdd, List.setIfInBounds_toArray, List.set_cons_zero, List.set_cons_succ, f2] at hK ⊢
    clear hF
    have x0 := hS.at (rb1) (ro1 + i) (.bool x1) (by simp)
    go_simp
    exact hK.out _ _ (Alters.refl _) rfl
  · intro u W K hS hF hK
    simp only [putsFrom, Act.put, Nat.reduceAdd, List.setIfInBounds_toArray, List.set_cons_zero, List.set_cons_succ] at hK ⊢
    clear hF
    have x0 := hS.at (bx2) (0) (.slice (some ⟨rb2, ro2, none⟩) l2.length rc2) (by simp)
    go_simp
    exact hK.out _ _ (Alters.refl _) rfl
  · intro u W K hS hF hK
    simp only [putsFrom, Act.put, Nat.reduceAdd, List.setIfInBounds_toArray, List.set_cons_zero, List.set_cons_succ] at hK ⊢
    clear hF
    go_simp
    exact hK.out _ _ (Alters.refl _) rfl
  · intro u W K hS hF hK
    have f4 : u 4 = .slice (some ⟨rb2, ro2, none⟩) l2.length rc2 := hF 4 (by kernel_rfl)
    have f5 : u 5 = .int .i64 (i : Int) := hF 5 (by kernel_rfl)
    simp only [putsFrom, Act.put, Nat.reduceAdd, List.setIfInBounds_toArray, List.set_cons_zero, List.set_cons_succ, f4, f5] at hK ⊢
    clear hF
    go_simp
    exact hK.out _ _ (Alters.refl _) rfl
  · intro u W K hS hF hK
    have f6 : u 6 = .pointer (some ⟨rb2, ro2 + i, none⟩) := hF 6 (by kernel_rfl)
    simp only [putsFrom, Act.put, Nat.reduceAdd, List.setIfInBounds_toArray, List.set_cons_zero, List.set_cons_succ, f6] at hK ⊢
    clear hF
    have x0 := hS.at (rb2) (ro2 + i) (.bool x2) (by simp)
    go_simp
    exact hK.out _ _ (Alters.refl _) rfl
  · intro u W K hS hF hK
    have f3 : u 3 = .bool x1 := hF 3 (by kernel_rfl)
    have f7 : u 7 = .bool x2 := hF 7 (by kernel_rfl)
    simp only [putsFrom, Act.put, Nat.reduceAdd, List.setIfInBounds_toArray, List.set_cons_zero, List.set_cons_succ, f3, f7] at hK ⊢
    clear hF
    go_simp
    exact hK.out _ _ (Alters.refl _) rfl
  · intro u W hS hF
    have f8 : u 8 = .bool (x1 == x2) := hF 8 (by simp)
    simp only [putsFrom, Act.put, Nat.reduceAdd, List.setIfInBounds_toArray, List.set_cons_zero, List.set_cons_succ, f8]
    clear hF f8
    have HS := Go.Lib.hid hS
    clear hS
    go_simp
    go_wp2
    go_ret
    exact ⟨rfl, HS.out.quiet⟩

set_option maxRecDepth 100000 in
set_option maxHeartbeats 2000000 in
theorem c113 (i : Nat) (W0 : World) (bw bn : Nat) (a : Option Addr) (cap : Nat) (L : List Hp) (op : Value) (nm : ByteArray) (cmp val : Int) (x4 x5 x6 : Value) (hbw : Blk W0 bw #[.slice a L.length cap] 45) (hbn : Blk W0 bn #[op, .string nm, .int .i64 cmp, .int .i64 val, x4, x5, x6] 28) (hw : WdAt W0 a L) (hi : i < L.length) : Calls Tryd.prog 113 #[.int .i64 (i : Int), .pointer (some ⟨bw, 0, none⟩), .pointer (some ⟨bn, 0, none⟩)] W0 (Said (.bool (atomAt (prOf (pts L) i) nm cmp val)) W0) := by
  obtain ⟨b, o, rfl, hc⟩ := hw.cells (fun h => by subst h; simp at hi)
  obtain ⟨q, hq⟩ : ∃ q, L[i]? = some q := ⟨_, List.getElem?_eq_getElem hi⟩
  have d1 := (hc i q hq).2
  have HP := Go.Lib.hid (hw.props q (List.mem_of_getElem? hq))
  have hpr : prOf (pts L) i = q.p.props := by simp [prOf, pts, hq]
  have gw := hbw.cell 0 rfl
  have n1 := hbn.cell 1 rfl
  have n2 := hbn.cell 2 rfl
  have n3 := hbn.cell 3 rfl
  rw [hpr]
  clear hpr hc hw hq hbw hbn
  go_enter Tryd.func113, Tryd.ntmps113
  go_upto_region 1 with (fail)
  refine wp_region_wants (by kernel_rfl) (by kernel_rfl) (by kernel_rfl) (by kernel_rfl) (CellsAt W0 [(⟨bw, 0, none⟩, .slice (some ⟨b, o, none⟩) L.length cap), (⟨b, o + i * 2 + 1, none⟩, .slice q.a q.p.props.length q.cap), (⟨bn, 1, none⟩, .string nm), (⟨bn, 2, none⟩, .int .i64 cmp), (⟨bn, 3, none⟩, .int .i64 val)]) (fun _ _ hq h => h.keep hq) [Want.is (.slice (some ⟨b, o, none⟩) L.length cap), Want.is (.int .i64 (i : Int)), Want.is (.pointer (some ⟨b, o + i * 2, none⟩)), Want.is (.pointer (some ⟨b, o + i * 2 + 1, none⟩)), Want.is (.slice q.a q.p.props.length q.cap), Want.is (.pointer (some ⟨bn, 1, none⟩)), Want.is (.agg #[.string nm, .int .i64 cmp, .int .i64 val]), Want.is (.bool (atomAt q.p.props nm cmp val))] ((CellsAt.cons (a := ⟨bw, 0, none⟩) (v := .slice (some ⟨b, o, none⟩) L.length cap) (gw) (CellsAt.cons (a := ⟨b, o + i * 2 + 1, none⟩) (v := .slice q.a q.p.props.length q.cap) (d1) (CellsAt.cons (a := ⟨bn, 1, none⟩) (v := .string nm) (n1) (CellsAt.cons (a := ⟨bn, 2, none⟩) (v := .int .i64 cmp) (n2) (CellsAt.cons (a := ⟨bn, 3, none⟩) (v := .int .i64 val) (n3) (CellsAt.nil (Alters.refl _))))))).keep ((Alters.refl _).drew)) (by decide) ?_
  refine Steps.cons ?_ (Steps.cons ?_ (Steps.cons ?_ (Steps.cons ?_ (Steps.cons ?_ (Steps.cons ?_ (Steps.cons ?_ (Steps.cons ?_ (Steps.last ?_))))))))
  · intro u W K hS hF hK
    simp only [putsFrom, Act.put, Nat.reduceAdd, List.setIfInBounds_toArray, List.set_cons_zero, List.set_cons_succ] at hK ⊢
    clear hF
    have x0 := hS.at (bw) (0) (.slice (some ⟨b, o, none⟩) L.length cap) (by simp)
    go_simp
    exact hK.out _ _ (Alters.refl _) rfl
  · intro u W K hS hF hK
    simp only [putsFrom, Act.put, Nat.reduceAdd, List.setIfInBounds_toArray, List.set_cons_zero, List.set_cons_succ] at hK ⊢
    clear hF
    go_simp
    exact hK.out _ _ (Alters.refl _) rfl
  · intro u W K hS hF hK
    have f0 : u 0 = .slice (some ⟨b, o, none⟩) L.length cap := hF 0 (by kernel_rfl)
    have f1 : u 1 = .int .i64 (i : Int) := hF 1 (by kernel_rfl)
    simp only [putsFrom, Act.put, Nat.reduceAdd, List.setIfInBounds_toArray, List.set_cons_zero, List.set_cons_succ, f0, f1] at hK ⊢
    clear hF
    go_simp
    exact hK.out _ _ (Alters.refl _) rfl
  · intro u W K hS hF hK
    have f2 : u 2 = .pointer (some ⟨b, o + i * 2, none⟩) := hF 2 (by kernel_rfl)
    simp only [putsFrom, Act.put, Nat.reduceAdd, List.setIfInBounds_toArray, List.set_cons_zero, List.set_cons_succ, f2] at hK ⊢
    clear hF
    go_simp
    exact hK.out _ _ (Alters.refl _) rfl
  · intro u W K hS hF hK
    have f3 : u 3 = .pointer (some ⟨b, o + i * 2 + 1, none⟩) := hF 3 (by kernel_rfl)
    simp only [putsFrom, Act.put, Nat.reduceAdd, List.setIfInBounds_toArray, List.set_cons_zero, List.set_cons_succ, f3] at hK ⊢
    clear hF
    have x0 := hS.at (b) (o + i * 2 + 1) (.slice q.a q.p.props.length q.cap) (by simp)
    go_simp
    exact hK.out _ _ (Alters.refl _) rfl
  · intro u W K hS hF hK
    simp only [putsFrom, Act.put, Nat.reduceAdd, List.setIfInBounds_toArray, List.set_cons_zero, List.set_cons_succ] at hK ⊢
    clear hF
    go_simp
    exact hK.out _ _ (Alters.refl _) rfl
  · intro u W K hS hF hK
    have f5 : u 5 = .pointer (some ⟨bn, 1, none⟩) := hF 5 (by kernel_rfl)
    simp only [putsFrom, Act.put, Nat.reduceAdd, List.setIfInBounds_toArray, List.set_cons_zero, List.set_cons_succ, f5] at hK ⊢
    clear hF
    have x0 := hS.at (bn) (1) (.string nm) (by simp)
    have x1 := hS.at (bn) (2) (.int .i64 cmp) (by simp)
    have x2 := hS.at (bn) (3) (.int .i64 val) (by simp)
    go_simp
    exact hK.out _ _ (Alters.refl _) rfl
  · intro u W K hS hF hK
    have f4 : u 4 = .slice q.a q.p.props.length q.cap := hF 4 (by kernel_rfl)
    have f6 : u 6 = .agg #[.string nm, .int .i64 cmp, .int .i64 val] := hF 6 (by kernel_rfl)
    simp only [putsFrom, Act.put, Nat.reduceAdd, List.setIfInBounds_toArray, List.set_cons_zero, List.set_cons_succ, f4, f6] at hK ⊢
    clear hF
    go_simp
    refine (holds114_walk q.a q.cap q.p.props nm cmp val W (HP.out.1) (HP.out.2.quiet hS.quiet)).mono ?_
    rintro e W2 ⟨rfl, hq⟩
    exact hK.out _ _ hq rfl
  · intro u W hS hF
    have f7 : u 7 = .bool (atomAt q.p.props nm cmp val) := hF 7 (by simp)
    simp only [putsFrom, Act.put, Nat.reduceAdd, List.setIfInBounds_toArray, List.set_cons_zero, List.set_cons_succ, f7]
    clear hF f7
    have HS := Go.Lib.hid hS
    clear hS
    go_simp
    go_wp2
    go_ret
    exact ⟨rfl, HS.out.quiet⟩

set_option maxRecDepth 100000 in
set_option maxHeartbeats 2000000 in
theorem c120 (i : Nat) (W0 : World) (bn bw : Nat) (a : Option Addr) (cap : Nat) (L : List Hp) (x0 x1 x2 x3 : Value) (lo hi : Int) (x6 : Value) (hbw : Blk W0 bw #[.slice a L.length cap] 45) (hbn : Blk W0 bn #[x0, x1, x2, x3, .int .i64 lo, .int .i64 hi, x6] 28) (hw : WdAt W0 a L) (hok : wordOk (pts L) = true) (hi' : i < L.length) (bx1 : Nat) (ra1 : Option Addr) (rc1 : Nat) (l1 : List Bool) (hx1 : Blk W0 bx1 #[.slice ra1 l1.length rc1] 47) (hr1 : BlAt W0 ra1 l1) (hn1 : l1.length = L.length) : Calls Tryd.prog 120 #[.int .i64 (i : Int), .pointer (some ⟨bn, 0, none⟩), .pointer (some ⟨bw, 0, none⟩), .pointer (some ⟨bx1, 0, none⟩)] W0 (Said (.bool (evT (pts L) lo hi (rowT l1) i)) W0) := by
  have HC := Go.Lib.hid (show Calls Tryd.prog 121 #[.agg #[.int .i64 lo, .int .i64 hi], .slice a L.length cap, .int .i64 (i : Int), .slice ra1 l1.length rc1, .bool true] W0 (Said (.bool (evT (pts L) lo hi (rowT l1) i)) W0) from by have := some_walk lo hi a cap L i ra1 rc1 l1 true W0 hw hok hi' hr1 hn1; simpa using this)
  have gw := hbw.cell 0 rfl
  have n4 := hbn.cell 4 rfl
  have n5 := hbn.cell 5 rfl
  have g1 := hx1.cell 0 rfl
  clear hw hok hbw hbn hx1 hr1 hn1
  go_enter Tryd.func120, Tryd.ntmps120
  go_wp2_with fail
  refine HC.out.mono ?_
  rintro e w3 ⟨rfl, hq⟩
  clear HC
  go_wp2_with fail
  go_ret
  exact ⟨rfl, hq⟩

set_option maxRecDepth 100000 in
set_option maxHeartbeats 2000000 in
theorem c122 (i : Nat) (W0 : World) (bn bw : Nat) (a : Option Addr) (cap : Nat) (L : List Hp) (x0 x1 x2 x3 : Value) (lo hi : Int) (x6 : Value) (hbw : Blk W0 bw #[.slice a L.length cap] 45) (hbn : Blk W0 bn #[x0, x1, x2, x3, .int .i64 lo, .int .i64 hi, x6] 28) (hw : WdAt W0 a L) (hok : wordOk (pts L) = true) (hi' : i < L.length) (bx1 : Nat) (ra1 : Option Addr) (rc1 : Nat) (l1 : List Bool) (hx1 : Blk W0 bx1 #[.slice ra1 l1.length rc1] 47) (hr1 : BlAt W0 ra1 l1) (hn1 : l1.length = L.length) : Calls Tryd.prog 122 #[.int .i64 (i : Int), .pointer (some ⟨bn, 0, none⟩), .pointer (some ⟨bw, 0, none⟩), .pointer (some ⟨bx1, 0, none⟩)] W0 (Said (.bool (!evT (pts L) lo hi (fun j => !rowT l1 j) i)) W0) := by
  have HC := Go.Lib.hid (show Calls Tryd.prog 121 #[.agg #[.int .i64 lo, .int .i64 hi], .slice a L.length cap, .int .i64 (i : Int), .slice ra1 l1.length rc1, .bool false] W0 (Said (.bool (evT (pts L) lo hi (fun j => !rowT l1 j) i)) W0) from by have := some_walk lo hi a cap L i ra1 rc1 l1 false W0 hw hok hi' hr1 hn1; simpa using this)
  have gw := hbw.cell 0 rfl
  have n4 := hbn.cell 4 rfl
  have n5 := hbn.cell 5 rfl
  have g1 := hx1.cell 0 rfl
  clear hw hok hbw hbn hx1 hr1 hn1
  go_enter Tryd.func122, Tryd.ntmps122
  go_wp2_with fail
  refine HC.out.mono ?_
  rintro e w3 ⟨rfl, hq⟩
  clear HC
  go_wp2_with fail
  go_ret
  exact ⟨rfl, hq⟩

set_option maxRecDepth 100000 in
set_option maxHeartbeats 2000000 in
theorem c123 (i : Nat) (W0 : World) (bn bw : Nat) (a : Option Addr) (cap : Nat) (L : List Hp) (x0 x1 x2 x3 : Value) (lo hi : Int) (x6 : Value) (hbw : Blk W0 bw #[.slice a L.length cap] 45) (hbn : Blk W0 bn #[x0, x1, x2, x3, .int .i64 lo, .int .i64 hi, x6] 28) (hw : WdAt W0 a L) (hok : wordOk (pts L) = true) (hi' : i < L.length) (bx1 : Nat) (ra1 : Option Addr) (rc1 : Nat) (l1 : List Bool) (hx1 : Blk W0 bx1 #[.slice ra1 l1.length rc1] 47) (hr1 : BlAt W0 ra1 l1) (hn1 : l1.length = L.length) (bx2 : Nat) (ra2 : Option Addr) (rc2 : Nat) (l2 : List Bool) (hx2 : Blk W0 bx2 #[.slice ra2 l2.length rc2] 47) (hr2 : BlAt W0 ra2 l2) (hn2 : l2.length = L.length) : Calls Tryd.prog 123 #[.int .i64 (i : Int), .pointer (some ⟨bn, 0, none⟩), .pointer (some ⟨bw, 0, none⟩), .pointer (some ⟨bx1, 0, none⟩), .pointer (some ⟨bx2, 0, none⟩)] W0 (Said (.bool (unT (pts L) lo hi (rowT l1) (rowT l2) i)) W0) := by
  have HC := Go.Lib.hid (until_walk lo hi a cap L i ra1 rc1 l1 ra2 rc2 l2 W0 hw hok hi' hr1 hn1 hr2 hn2)
  have gw := hbw.cell 0 rfl
  have n4 := hbn.cell 4 rfl
  have n5 := hbn.cell 5 rfl
  have g1 := hx1.cell 0 rfl
  have g2 := hx2.cell 0 rfl
  clear hw hok hbw hbn hx1 hr1 hn1 hx2 hr2 hn2
  go_enter Tryd.func123, Tryd.ntmps123
  go_wp2_with fail
  refine HC.out.mono ?_
  rintro e w3 ⟨rfl, hq⟩
  clear HC
  go_wp2_with fail
  go_ret
  exact ⟨rfl, hq⟩

set_option maxRecDepth 100000 in
set_option maxHeartbeats 2000000 in
theorem c125 (i : Nat) (W0 : World) (bn bw : Nat) (a : Option Addr) (cap : Nat) (L : List Hp) (x0 x1 x2 x3 : Value) (lo hi : Int) (x6 : Value) (hbw : Blk W0 bw #[.slice a L.length cap] 45) (hbn : Blk W0 bn #[x0, x1, x2, x3, .int .i64 lo, .int .i64 hi, x6] 28) (hw : WdAt W0 a L) (hok : wordOk (pts L) = true) (hi' : i < L.length) (bx1 : Nat) (ra1 : Option Addr) (rc1 : Nat) (l1 : List Bool) (hx1 : Blk W0 bx1 #[.slice ra1 l1.length rc1] 47) (hr1 : BlAt W0 ra1 l1) (hn1 : l1.length = L.length) (bx2 : Nat) (ra2 : Option Addr) (rc2 : Nat) (l2 : List Bool) (hx2 : Blk W0 bx2 #[.slice ra2 l2.length rc2] 47) (hr2 : BlAt W0 ra2 l2) (hn2 : l2.length = L.length) : Calls Tryd.prog 125 #[.int .i64 (i : Int), .pointer (some ⟨bn, 0, none⟩), .pointer (some ⟨bw, 0, none⟩), .pointer (some ⟨bx1, 0, none⟩), .pointer (some ⟨bx2, 0, none⟩)] W0 (Said (.bool (!unT (pts L) lo hi (fun j => !rowT l1 j) (fun j => !rowT l2 j) i)) W0) := by
  have HC := Go.Lib.hid (release_walk lo hi a cap L i ra1 rc1 l1 ra2 rc2 l2 W0 hw hok hi' hr1 hn1 hr2 hn2)
  have gw := hbw.cell 0 rfl
  have n4 := hbn.cell 4 rfl
  have n5 := hbn.cell 5 rfl
  have g1 := hx1.cell 0 rfl
  have g2 := hx2.cell 0 rfl
  clear hw hok hbw hbn hx1 hr1 hn1 hx2 hr2 hn2
  go_enter Tryd.func125, Tryd.ntmps125
  go_wp2_with fail
  refine HC.out.mono ?_
  rintro e w3 ⟨rfl, hq⟩
  clear HC
  go_wp2_with fail
  go_ret
  exact ⟨rfl, hq⟩

end Go.Proofs.YtnpcakakjhiboaaDoor

namespace Go.Proofs.YtnpcakakjhiboaaDoor
open Go Go.RowKit Go.Lo Go.WideShapes

/-- A function that tells of a place whether a node holds there. -/
def Rules (L : List Hp) (n : Nd) (A B : Nat → Bool) (v : Value) (W : World) : Prop :=
  ∃ g lb, v = .func (.func g) #[] lb ∧ (∀ args w, (callFunc g args).run Tryd.prog w = .ok (.enter g args) w) ∧ ∀ W', Quiet W W' → ∀ i : Nat, i < L.length → Calls Tryd.prog g (#[.int .i64 (i : Int)] ++ lb) W' (Said (.bool (tvN (pts L) n A B i)) W')

theorem four (w : World) (c1 c2 c3 c4 : Array Value) (t1 t2 t3 t4 : TypeId) : Blk ((((w.alloc (.cells c1 t1)).alloc (.cells c2 t2)).alloc (.cells c3 t3)).alloc (.cells c4 t4)) w.heap.size c1 t1 ∧
    Blk ((((w.alloc (.cells c1 t1)).alloc (.cells c2 t2)).alloc (.cells c3 t3)).alloc (.cells c4 t4)) (w.heap.size + 1) c2 t2 ∧ Blk ((((w.alloc (.cells c1 t1)).alloc (.cells c2 t2)).alloc (.cells c3 t3)).alloc (.cells c4 t4)) (w.heap.size + 1 + 1) c3 t3 ∧
    Blk ((((w.alloc (.cells c1 t1)).alloc (.cells c2 t2)).alloc (.cells c3 t3)).alloc (.cells c4 t4)) (w.heap.size + 1 + 1 + 1) c4 t4 ∧ Quiet w ((((w.alloc (.cells c1 t1)).alloc (.cells c2 t2)).alloc (.cells c3 t3)).alloc (.cells c4 t4)) :=
  ⟨(((Blk.new _ _ _).alloc _).alloc _).alloc _, ((alloc2 _ _ _ _).alloc _).alloc _, (alloc3 _ _ _ _ _).alloc _, alloc4 _ _ _ _ _ _, ((((Alters.refl _).alloc _).alloc _).alloc _).alloc _⟩

set_option maxRecDepth 100000 in
set_option maxHeartbeats 4000000 in
theorem rule_walk (op : Int) (nm : ByteArray) (cmp val lo hi : Int) (x6 : Value) (a : Option Addr) (cap : Nat) (L : List Hp) (ra1 : Option Addr) (rc1 : Nat) (l1 : List Bool) (ra2 : Option Addr) (rc2 : Nat) (l2 : List Bool) (w : World) (hw : WdAt w a L) (hok : wordOk (pts L) = true) (hr1 : BlAt w ra1 l1) (hr2 : BlAt w ra2 l2)
    (hop : 1 ≤ op ∧ op ≤ 12) (hk : (kidsOf op = 1 → l1.length = L.length) ∧ (kidsOf op = 2 → l1.length = L.length ∧ l2.length = L.length)) :
    Calls Tryd.prog 81 #[.agg #[.int .i64 op, .string nm, .int .i64 cmp, .int .i64 val, .int .i64 lo, .int .i64 hi, x6], .slice a L.length cap, .slice ra1 l1.length rc1, .slice ra2 l2.length rc2] w fun e w' => ∃ v, e = .returned v ∧ Rules L ⟨op, nm, cmp, val, lo, hi⟩ (rowT l1) (rowT l2) v w' ∧ Quiet w w' := by
  obtain ⟨h1, h2, h3, h4, hq⟩ := four w #[.int .i64 op, .string nm, .int .i64 cmp, .int .i64 val, .int .i64 lo, .int .i64 hi, x6] #[.slice a L.length cap] #[.slice ra1 l1.length rc1] #[.slice ra2 l2.length rc2] 28 45 47 47
  have c0 := h1.cell 0 rfl
  go_enter Tryd.func81, Tryd.ntmps81
  go_upto_region 1 with (fail)
  generalize (((w.alloc _).alloc _).alloc _).alloc _ = w1 at *
  have H1 := Go.Lib.hid h1
  have H2 := Go.Lib.hid h2
  have H3 := Go.Lib.hid h3
  have H4 := Go.Lib.hid h4
  have HQ := Go.Lib.hid hq
  clear h1 h2 h3 h4 hq
  have hcases : op = 1 ∨ op = 2 ∨ op = 3 ∨ op = 4 ∨ op = 5 ∨ op = 6 ∨ op = 7 ∨ op = 8 ∨ op = 9 ∨ op = 10 ∨ op = 11 ∨ op = 12 := by omega
  clear hop
  rcases hcases with rfl | rfl | rfl | rfl | rfl | rfl | rfl | rfl | rfl | rfl | rfl | rfl
  · go_wp2
    go_ret
    refine ⟨_, rfl, ⟨112, _, rfl, Go.Proofs.enters_of Tryd.func112 (by kernel_rfl) rfl, fun W' hq i hil => ?_⟩, HQ.out⟩
    rw [show tvN (pts L) ⟨1, nm, cmp, val, lo, hi⟩ (rowT l1) (rowT l2) i = (true) by simp [tvN]]
    exact c112 _ _
  · go_wp2
    go_ret
    refine ⟨_, rfl, ⟨127, _, rfl, Go.Proofs.enters_of Tryd.func127 (by kernel_rfl) rfl, fun W' hq i hil => ?_⟩, HQ.out⟩
    rw [show tvN (pts L) ⟨2, nm, cmp, val, lo, hi⟩ (rowT l1) (rowT l2) i = (false) by simp [tvN]]
    exact c127 _ _
  · go_wp2
    go_ret
    refine ⟨_, rfl, ⟨113, _, rfl, Go.Proofs.enters_of Tryd.func113 (by kernel_rfl) rfl, fun W' hq i hil => ?_⟩, HQ.out⟩
    rw [show tvN (pts L) ⟨3, nm, cmp, val, lo, hi⟩ (rowT l1) (rowT l2) i = (atomAt (prOf (pts L) i) nm cmp val) by simp [tvN]]
    exact c113 i W' (w.heap.size + 1) w.heap.size a cap L _ nm cmp val _ _ _ (hq.blk H2.out (by simp)) (hq.blk H1.out (by simp)) ((hw.quiet HQ.out).quiet hq) hil
  · go_wp2
    go_ret
    refine ⟨_, rfl, ⟨115, _, rfl, Go.Proofs.enters_of Tryd.func115 (by kernel_rfl) rfl, fun W' hq i hil => ?_⟩, HQ.out⟩
    rw [show tvN (pts L) ⟨4, nm, cmp, val, lo, hi⟩ (rowT l1) (rowT l2) i = (!rowT l1 i) by simp [tvN]]
    exact c115 i W' (w.heap.size + 1 + 1) ra1 rc1 l1 (hq.blk H3.out (by simp)) ((hr1.quiet HQ.out).quiet hq) (by rw [hk.1 (by simp [kidsOf])]; exact hil)
  · go_wp2
    go_ret
    refine ⟨_, rfl, ⟨116, _, rfl, Go.Proofs.enters_of Tryd.func116 (by kernel_rfl) rfl, fun W' hq i hil => ?_⟩, HQ.out⟩
    rw [show tvN (pts L) ⟨5, nm, cmp, val, lo, hi⟩ (rowT l1) (rowT l2) i = (rowT l1 i && rowT l2 i) by simp [tvN]]
    exact c116 i W' (w.heap.size + 1 + 1) ra1 rc1 l1 (hq.blk H3.out (by simp)) ((hr1.quiet HQ.out).quiet hq) (by rw [(hk.2 (by simp [kidsOf])).1]; exact hil) (w.heap.size + 1 + 1 + 1) ra2 rc2 l2 (hq.blk H4.out (by simp)) ((hr2.quiet HQ.out).quiet hq) (by rw [(hk.2 (by simp [kidsOf])).2]; exact hil)
  · go_wp2
    go_ret
    refine ⟨_, rfl, ⟨117, _, rfl, Go.Proofs.enters_of Tryd.func117 (by kernel_rfl) rfl, fun W' hq i hil => ?_⟩, HQ.out⟩
    rw [show tvN (pts L) ⟨6, nm, cmp, val, lo, hi⟩ (rowT l1) (rowT l2) i = (rowT l1 i || rowT l2 i) by simp [tvN]]
    exact c117 i W' (w.heap.size + 1 + 1) ra1 rc1 l1 (hq.blk H3.out (by simp)) ((hr1.quiet HQ.out).quiet hq) (by rw [(hk.2 (by simp [kidsOf])).1]; exact hil) (w.heap.size + 1 + 1 + 1) ra2 rc2 l2 (hq.blk H4.out (by simp)) ((hr2.quiet HQ.out).quiet hq) (by rw [(hk.2 (by simp [kidsOf])).2]; exact hil)
  · go_wp2
    go_ret
    refine ⟨_, rfl, ⟨118, _, rfl, Go.Proofs.enters_of Tryd.func118 (by kernel_rfl) rfl, fun W' hq i hil => ?_⟩, HQ.out⟩
    rw [show tvN (pts L) ⟨7, nm, cmp, val, lo, hi⟩ (rowT l1) (rowT l2) i = (!rowT l1 i || rowT l2 i) by simp [tvN]]
    exact c118 i W' (w.heap.size + 1 + 1) ra1 rc1 l1 (hq.blk H3.out (by simp)) ((hr1.quiet HQ.out).quiet hq) (by rw [(hk.2 (by simp [kidsOf])).1]; exact hil) (w.heap.size + 1 + 1 + 1) ra2 rc2 l2 (hq.blk H4.out (by simp)) ((hr2.quiet HQ.out).quiet hq) (by rw [(hk.2 (by simp [kidsOf])).2]; exact hil)
  · go_wp2
    go_ret
    refine ⟨_, rfl, ⟨119, _, rfl, Go.Proofs.enters_of Tryd.func119 (by kernel_rfl) rfl, fun W' hq i hil => ?_⟩, HQ.out⟩
    rw [show tvN (pts L) ⟨8, nm, cmp, val, lo, hi⟩ (rowT l1) (rowT l2) i = (rowT l1 i == rowT l2 i) by simp [tvN]]
    exact c119 i W' (w.heap.size + 1 + 1) ra1 rc1 l1 (hq.blk H3.out (by simp)) ((hr1.quiet HQ.out).quiet hq) (by rw [(hk.2 (by simp [kidsOf])).1]; exact hil) (w.heap.size + 1 + 1 + 1) ra2 rc2 l2 (hq.blk H4.out (by simp)) ((hr2.quiet HQ.out).quiet hq) (by rw [(hk.2 (by simp [kidsOf])).2]; exact hil)
  · go_wp2
    go_ret
    refine ⟨_, rfl, ⟨120, _, rfl, Go.Proofs.enters_of Tryd.func120 (by kernel_rfl) rfl, fun W' hq i hil => ?_⟩, HQ.out⟩
    rw [show tvN (pts L) ⟨9, nm, cmp, val, lo, hi⟩ (rowT l1) (rowT l2) i = (evT (pts L) lo hi (rowT l1) i) by simp [tvN]]
    exact c120 i W' w.heap.size (w.heap.size + 1) a cap L _ _ _ _ lo hi _ (hq.blk H2.out (by simp)) (hq.blk H1.out (by simp)) ((hw.quiet HQ.out).quiet hq) hok hil (w.heap.size + 1 + 1) ra1 rc1 l1 (hq.blk H3.out (by simp)) ((hr1.quiet HQ.out).quiet hq) (hk.1 (by simp [kidsOf]))
  · go_wp2
    go_ret
    refine ⟨_, rfl, ⟨122, _, rfl, Go.Proofs.enters_of Tryd.func122 (by kernel_rfl) rfl, fun W' hq i hil => ?_⟩, HQ.out⟩
    rw [show tvN (pts L) ⟨10, nm, cmp, val, lo, hi⟩ (rowT l1) (rowT l2) i = (!evT (pts L) lo hi (fun j => !rowT l1 j) i) by simp [tvN]]
    exact c122 i W' w.heap.size (w.heap.size + 1) a cap L _ _ _ _ lo hi _ (hq.blk H2.out (by simp)) (hq.blk H1.out (by simp)) ((hw.quiet HQ.out).quiet hq) hok hil (w.heap.size + 1 + 1) ra1 rc1 l1 (hq.blk H3.out (by simp)) ((hr1.quiet HQ.out).quiet hq) (hk.1 (by simp [kidsOf]))
  · go_wp2
    go_ret
    refine ⟨_, rfl, ⟨123, _, rfl, Go.Proofs.enters_of Tryd.func123 (by kernel_rfl) rfl, fun W' hq i hil => ?_⟩, HQ.out⟩
    rw [show tvN (pts L) ⟨11, nm, cmp, val, lo, hi⟩ (rowT l1) (rowT l2) i = (unT (pts L) lo hi (rowT l1) (rowT l2) i) by simp [tvN]]
    exact c123 i W' w.heap.size (w.heap.size + 1) a cap L _ _ _ _ lo hi _ (hq.blk H2.out (by simp)) (hq.blk H1.out (by simp)) ((hw.quiet HQ.out).quiet hq) hok hil (w.heap.size + 1 + 1) ra1 rc1 l1 (hq.blk H3.out (by simp)) ((hr1.quiet HQ.out).quiet hq) (hk.2 (by simp [kidsOf])).1 (w.heap.size + 1 + 1 + 1) ra2 rc2 l2 (hq.blk H4.out (by simp)) ((hr2.quiet HQ.out).quiet hq) (hk.2 (by simp [kidsOf])).2
  · go_wp2
    go_ret
    refine ⟨_, rfl, ⟨125, _, rfl, Go.Proofs.enters_of Tryd.func125 (by kernel_rfl) rfl, fun W' hq i hil => ?_⟩, HQ.out⟩
    rw [show tvN (pts L) ⟨12, nm, cmp, val, lo, hi⟩ (rowT l1) (rowT l2) i = (!unT (pts L) lo hi (fun j => !rowT l1 j) (fun j => !rowT l2 j) i) by simp [tvN]]
    exact c125 i W' w.heap.size (w.heap.size + 1) a cap L _ _ _ _ lo hi _ (hq.blk H2.out (by simp)) (hq.blk H1.out (by simp)) ((hw.quiet HQ.out).quiet hq) hok hil (w.heap.size + 1 + 1) ra1 rc1 l1 (hq.blk H3.out (by simp)) ((hr1.quiet HQ.out).quiet hq) (hk.2 (by simp [kidsOf])).1 (w.heap.size + 1 + 1 + 1) ra2 rc2 l2 (hq.blk H4.out (by simp)) ((hr2.quiet HQ.out).quiet hq) (hk.2 (by simp [kidsOf])).2
end Go.Proofs.YtnpcakakjhiboaaDoor
