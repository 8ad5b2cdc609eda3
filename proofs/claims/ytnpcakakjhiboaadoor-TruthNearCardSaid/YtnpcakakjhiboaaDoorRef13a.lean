/- Whether a node holds at a place, as the model tells it (a). No condition. Whether a node holds at a place, as the model tells it (b9). No condition. Whether a node holds at a place, as the model tells it (b10). No condition. -/
import Derived.Test.YtnpcakakjhiboaaDoorRef13
import Derived.Test.YtnpcakakjhiboaaDoorMem
namespace Go.Proofs.YtnpcakakjhiboaaDoor
open Go Go.RowKit Go.Lo Go.WideShapes

set_option maxRecDepth 100000 in
set_option maxHeartbeats 8000000 in
theorem h134_1 (nm : ByteArray) (cmp val lo hi : Int) (x6 : Value) (a : Option Addr) (cap : Nat) (L : List Hp) (i : Nat) (ra1 : Option Addr) (rc1 : Nat) (l1 : List Bool) (ra2 : Option Addr) (rc2 : Nat) (l2 : List Bool) (w : World) (_hw : WdAt w a L) (_hok : wordOk (pts L) = true) (_hi' : i < L.length)  : Calls Tryd.prog 134 #[.agg #[.int .i64 1, .string nm, .int .i64 cmp, .int .i64 val, .int .i64 lo, .int .i64 hi, x6], .slice a L.length cap, .int .i64 (i : Int), .slice ra1 l1.length rc1, .slice ra2 l2.length rc2] w (Said (.bool (true)) w) := by
  go_enter Tryd.func134, Tryd.ntmps134
  have hB := Blk.new w #[.int .i64 1, .string nm, .int .i64 cmp, .int .i64 val, .int .i64 lo, .int .i64 hi, x6] 33
  have hq1 : Quiet w (w.alloc (.cells #[.int .i64 1, .string nm, .int .i64 cmp, .int .i64 val, .int .i64 lo, .int .i64 hi, x6] 33)) := (Alters.refl _).alloc _
  go_upto_region 1 with (fail)
  generalize w.alloc _ = w1 at *
  have HQ1 := Go.Lib.hid hq1
  have HB1 := Go.Lib.hid hB
  clear hq1 hB
  have k0 := HB1.out.cell 0 rfl
  go_wp2_with fail
  go_ret
  exact ⟨by rfl, HQ1.out⟩

set_option maxRecDepth 100000 in
set_option maxHeartbeats 8000000 in
theorem h134_2 (nm : ByteArray) (cmp val lo hi : Int) (x6 : Value) (a : Option Addr) (cap : Nat) (L : List Hp) (i : Nat) (ra1 : Option Addr) (rc1 : Nat) (l1 : List Bool) (ra2 : Option Addr) (rc2 : Nat) (l2 : List Bool) (w : World) (_hw : WdAt w a L) (_hok : wordOk (pts L) = true) (_hi' : i < L.length)  : Calls Tryd.prog 134 #[.agg #[.int .i64 2, .string nm, .int .i64 cmp, .int .i64 val, .int .i64 lo, .int .i64 hi, x6], .slice a L.length cap, .int .i64 (i : Int), .slice ra1 l1.length rc1, .slice ra2 l2.length rc2] w (Said (.bool (false)) w) := by
  go_enter Tryd.func134, Tryd.ntmps134
  have hB := Blk.new w #[.int .i64 2, .string nm, .int .i64 cmp, .int .i64 val, .int .i64 lo, .int .i64 hi, x6] 33
  have hq1 : Quiet w (w.alloc (.cells #[.int .i64 2, .string nm, .int .i64 cmp, .int .i64 val, .int .i64 lo, .int .i64 hi, x6] 33)) := (Alters.refl _).alloc _
  go_upto_region 1 with (fail)
  generalize w.alloc _ = w1 at *
  have HQ1 := Go.Lib.hid hq1
  have HB1 := Go.Lib.hid hB
  clear hq1 hB
  have k0 := HB1.out.cell 0 rfl
  go_wp2_with fail
  go_ret
  exact ⟨by rfl, HQ1.out⟩

set_option maxRecDepth 100000 in
set_option maxHeartbeats 8000000 in
theorem h134_3 (nm : ByteArray) (cmp val lo hi : Int) (x6 : Value) (a : Option Addr) (cap : Nat) (L : List Hp) (i : Nat) (ra1 : Option Addr) (rc1 : Nat) (l1 : List Bool) (ra2 : Option Addr) (rc2 : Nat) (l2 : List Bool) (w : World) (hw : WdAt w a L) (_hok : wordOk (pts L) = true) (hi' : i < L.length)  : Calls Tryd.prog 134 #[.agg #[.int .i64 3, .string nm, .int .i64 cmp, .int .i64 val, .int .i64 lo, .int .i64 hi, x6], .slice a L.length cap, .int .i64 (i : Int), .slice ra1 l1.length rc1, .slice ra2 l2.length rc2] w (Said (.bool (atomAt (prOf (pts L) i) nm cmp val)) w) := by
  obtain ⟨b, o, rfl, hc⟩ := hw.cells (fun h => by subst h; simp at hi')
  obtain ⟨q, hq⟩ : ∃ q, L[i]? = some q := ⟨_, List.getElem?_eq_getElem hi'⟩
  have d1 := (hc i q hq).2
  have HP := Go.Lib.hid (hw.props q (List.mem_of_getElem? hq))
  have hpr : prOf (pts L) i = q.p.props := by simp [prOf, pts, hq]
  rw [hpr]
  clear hpr hc hw hq
  go_enter Tryd.func134, Tryd.ntmps134
  have hB := Blk.new w #[.int .i64 3, .string nm, .int .i64 cmp, .int .i64 val, .int .i64 lo, .int .i64 hi, x6] 33
  have hq1 : Quiet w (w.alloc (.cells #[.int .i64 3, .string nm, .int .i64 cmp, .int .i64 val, .int .i64 lo, .int .i64 hi, x6] 33)) := (Alters.refl _).alloc _
  go_upto_region 1 with (fail)
  generalize w.alloc _ = w1 at *
  have HQ1 := Go.Lib.hid hq1
  have HB1 := Go.Lib.hid hB
  clear hq1 hB
  have k0 := HB1.out.cell 0 rfl
  replace d1 := HQ1.out.cell d1 (by simp)
  have k1 := HB1.out.cell 1 rfl
  have k2 := HB1.out.cell 2 rfl
  have k3 := HB1.out.cell 3 rfl
  go_upto_region 6 with (fail)
  refine wp_region_wants (by kernel_rfl) (by kernel_rfl) (by kernel_rfl) (by kernel_rfl) (CellsAt w1 [(⟨b, o + i * 2 + 1, none⟩, .slice q.a q.p.props.length q.cap), (⟨w.heap.size, 1, none⟩, .string nm), (⟨w.heap.size, 2, none⟩, .int .i64 cmp), (⟨w.heap.size, 3, none⟩, .int .i64 val)]) (fun _ _ hq h => h.keep hq) [Want.is (.slice (some ⟨b, o, none⟩) L.length cap), Want.is (.int .i64 (i : Int)), Want.is (.pointer (some ⟨b, o + i * 2, none⟩)), Want.is (.pointer (some ⟨b, o + i * 2 + 1, none⟩)), Want.is (.slice q.a q.p.props.length q.cap), Want.is (.pointer (some ⟨w.heap.size, 1, none⟩)), Want.is (.string nm), Want.is (.pointer (some ⟨w.heap.size, 2, none⟩)), Want.is (.int .i64 cmp), Want.is (.pointer (some ⟨w.heap.size, 3, none⟩)), Want.is (.int .i64 val), Want.is (.agg #[.string nm, .int .i64 cmp, .int .i64 val]), Want.is (.bool (atomAt q.p.props nm cmp val))] ((CellsAt.cons (a := ⟨b, o + i * 2 + 1, none⟩) (v := .slice q.a q.p.props.length q.cap) (d1) (CellsAt.cons (a := ⟨w.heap.size, 1, none⟩) (v := .string nm) (k1) (CellsAt.cons (a := ⟨w.heap.size, 2, none⟩) (v := .int .i64 cmp) (k2) (CellsAt.cons (a := ⟨w.heap.size, 3, none⟩) (v := .int .i64 val) (k3) (CellsAt.nil (Alters.refl _)))))).keep ((Alters.refl _).drew)) (by decide) ?_
  refine Steps.cons ?_ (Steps.cons ?_ (Steps.cons ?_ (Steps.cons ?_ (Steps.cons ?_ (Steps.cons ?_ (Steps.cons ?_ (Steps.cons ?_ (Steps.cons ?_ (Steps.cons ?_ (Steps.cons ?_ (Steps.cons ?_ (Steps.cons ?_ (Steps.last ?_)))))))))))))
  · intro u W K hS hF hK
    simp only [putsFrom, Act.put, Nat.reduceAdd, List.setIfInBounds_toArray, List.set_cons_zero, List.set_cons_succ] at hK ⊢
    clear hF
    go_simp
    exact hK.out _ _ (Alters.refl _) rfl
  · intro u W K hS hF hK
    simp only [putsFrom, Act.put, Nat.reduceAdd, List.setIfInBounds_toArray, List.set_cons_zero, List.set_cons_succ] at hK ⊢
    clear hF
    go_simp
    exact hK.out _ _ (Alters.refl _) rfl
  · intro u W K hS hF hK
    have f0 : u 0 = .slice (some ⟨b, o, none⟩) L.length cap := hF 0 (by kernel_rfl)
    have f1 : u 1 = .int .i64 (i : Int) := hF 1 (by kernel_rfl)
    simp only [putsFrom, Act.put, Nat.reduceAdd, List.setIfInBounds_toArray, List.set_cons_zero, List.set_cons_succ, f0, f1] at hK ⊢
    clear hF
    go_simp
    exact hK.out _ _ (Alters.refl _) rfl
  · intro u W K hS hF hK
    have f2 : u 2 = .pointer (some ⟨b, o + i * 2, none⟩) := hF 2 (by kernel_rfl)
    simp only [putsFrom, Act.put, Nat.reduceAdd, List.setIfInBounds_toArray, List.set_cons_zero, List.set_cons_succ, f2] at hK ⊢
    clear hF
    go_simp
    exact hK.out _ _ (Alters.refl _) rfl
  · intro u W K hS hF hK
    have f3 : u 3 = .pointer (some ⟨b, o + i * 2 + 1, none⟩) := hF 3 (by kernel_rfl)
    simp only [putsFrom, Act.put, Nat.reduceAdd, List.setIfInBounds_toArray, List.set_cons_zero, List.set_cons_succ, f3] at hK ⊢
    clear hF
    have x0 := hS.at (b) (o + i * 2 + 1) (.slice q.a q.p.props.length q.cap) (by simp)
    go_simp
    exact hK.out _ _ (Alters.refl _) rfl
  · intro u W K hS hF hK
    simp only [putsFrom, Act.put, Nat.reduceAdd, List.setIfInBounds_toArray, List.set_cons_zero, List.set_cons_succ] at hK ⊢
    clear hF
    go_simp
    exact hK.out _ _ (Alters.refl _) rfl
  · intro u W K hS hF hK
    have f5 : u 5 = .pointer (some ⟨w.heap.size, 1, none⟩) := hF 5 (by kernel_rfl)
    simp only [putsFrom, Act.put, Nat.reduceAdd, List.setIfInBounds_toArray, List.set_cons_zero, List.set_cons_succ, f5] at hK ⊢
    clear hF
    have x0 := hS.at (w.heap.size) (1) (.string nm) (by simp)
    go_simp
    exact hK.out _ _ (Alters.refl _) rfl
  · intro u W K hS hF hK
    simp only [putsFrom, Act.put, Nat.reduceAdd, List.setIfInBounds_toArray, List.set_cons_zero, List.set_cons_succ] at hK ⊢
    clear hF
    go_simp
    exact hK.out _ _ (Alters.refl _) rfl
  · intro u W K hS hF hK
    have f7 : u 7 = .pointer (some ⟨w.heap.size, 2, none⟩) := hF 7 (by kernel_rfl)
    simp only [putsFrom, Act.put, Nat.reduceAdd, List.setIfInBounds_toArray, List.set_cons_zero, List.set_cons_succ, f7] at hK ⊢
    clear hF
    have x0 := hS.at (w.heap.size) (2) (.int .i64 cmp) (by simp)
    go_simp
    exact hK.out _ _ (Alters.refl _) rfl
  · intro u W K hS hF hK
    simp only [putsFrom, Act.put, Nat.reduceAdd, List.setIfInBounds_toArray, List.set_cons_zero, List.set_cons_succ] at hK ⊢
    clear hF
    go_simp
    exact hK.out _ _ (Alters.refl _) rfl
  · intro u W K hS hF hK
    have f9 : u 9 = .pointer (some ⟨w.heap.size, 3, none⟩) := hF 9 (by kernel_rfl)
    simp only [putsFrom, Act.put, Nat.reduceAdd, List.setIfInBounds_toArray, List.set_cons_zero, List.set_cons_succ, f9] at hK ⊢
    clear hF
    have x0 := hS.at (w.heap.size) (3) (.int .i64 val) (by simp)
    go_simp
    exact hK.out _ _ (Alters.refl _) rfl
  · intro u W K hS hF hK
    have f6 : u 6 = .string nm := hF 6 (by kernel_rfl)
    have f8 : u 8 = .int .i64 cmp := hF 8 (by kernel_rfl)
    have f10 : u 10 = .int .i64 val := hF 10 (by kernel_rfl)
    simp only [putsFrom, Act.put, Nat.reduceAdd, List.setIfInBounds_toArray, List.set_cons_zero, List.set_cons_succ, f6, f8, f10] at hK ⊢
    clear hF
    go_simp
    exact hK.out _ _ (Alters.refl _) rfl
  · intro u W K hS hF hK
    have f4 : u 4 = .slice q.a q.p.props.length q.cap := hF 4 (by kernel_rfl)
    have f11 : u 11 = .agg #[.string nm, .int .i64 cmp, .int .i64 val] := hF 11 (by kernel_rfl)
    simp only [putsFrom, Act.put, Nat.reduceAdd, List.setIfInBounds_toArray, List.set_cons_zero, List.set_cons_succ, f4, f11] at hK ⊢
    clear hF
    go_simp
    refine (holds165_walk q.a q.cap q.p.props nm cmp val W (HP.out.1) (HP.out.2.quiet (HQ1.out.trans hS.quiet))).mono ?_
    rintro e W2 ⟨rfl, hq⟩
    exact hK.out _ _ hq rfl
  · intro u W hS hF
    have f12 : u 12 = .bool (atomAt q.p.props nm cmp val) := hF 12 (by simp)
    simp only [putsFrom, Act.put, Nat.reduceAdd, List.setIfInBounds_toArray, List.set_cons_zero, List.set_cons_succ, f12]
    clear hF f12
    have HS := Go.Lib.hid hS
    clear hS
    go_simp
    go_wp2
    go_ret
    exact ⟨by rfl, HQ1.out.trans HS.out.quiet⟩

set_option maxRecDepth 100000 in
set_option maxHeartbeats 8000000 in
theorem h134_4 (nm : ByteArray) (cmp val lo hi : Int) (x6 : Value) (a : Option Addr) (cap : Nat) (L : List Hp) (i : Nat) (ra1 : Option Addr) (rc1 : Nat) (l1 : List Bool) (ra2 : Option Addr) (rc2 : Nat) (l2 : List Bool) (w : World) (_hw : WdAt w a L) (_hok : wordOk (pts L) = true) (hi' : i < L.length) (hr1 : BlAt w ra1 l1) (hn1 : l1.length = L.length) : Calls Tryd.prog 134 #[.agg #[.int .i64 4, .string nm, .int .i64 cmp, .int .i64 val, .int .i64 lo, .int .i64 hi, x6], .slice a L.length cap, .int .i64 (i : Int), .slice ra1 l1.length rc1, .slice ra2 l2.length rc2] w (Said (.bool (!rowT l1 i)) w) := by
  obtain ⟨rb1, ro1, rfl, hc1⟩ := hr1 (fun h => by subst h; simp at hn1; omega)
  have HC1 := Go.Lib.hid hc1
  have HN1 := Go.Lib.hid hn1
  clear hr1 hc1 hn1
  obtain ⟨x1, hx1⟩ : ∃ x, l1[i]? = some x := ⟨_, List.getElem?_eq_getElem (by have := HN1.out; omega)⟩
  have li1 : i < l1.length := by have := HN1.out; omega
  have f1 := HC1.out i x1 hx1
  rw [rowT_at hx1]
  clear hx1
  go_enter Tryd.func134, Tryd.ntmps134
  have hB := Blk.new w #[.int .i64 4, .string nm, .int .i64 cmp, .int .i64 val, .int .i64 lo, .int .i64 hi, x6] 33
  have hq1 : Quiet w (w.alloc (.cells #[.int .i64 4, .string nm, .int .i64 cmp, .int .i64 val, .int .i64 lo, .int .i64 hi, x6] 33)) := (Alters.refl _).alloc _
  go_upto_region 1 with (fail)
  generalize w.alloc _ = w1 at *
  have HQ1 := Go.Lib.hid hq1
  have HB1 := Go.Lib.hid hB
  clear hq1 hB
  have k0 := HB1.out.cell 0 rfl
  replace f1 := HQ1.out.cell f1 (by simp)
  go_wp2_with fail
  go_ret
  exact ⟨by rfl, HQ1.out⟩

set_option maxRecDepth 100000 in
set_option maxHeartbeats 8000000 in
theorem h134_5 (nm : ByteArray) (cmp val lo hi : Int) (x6 : Value) (a : Option Addr) (cap : Nat) (L : List Hp) (i : Nat) (ra1 : Option Addr) (rc1 : Nat) (l1 : List Bool) (ra2 : Option Addr) (rc2 : Nat) (l2 : List Bool) (w : World) (_hw : WdAt w a L) (_hok : wordOk (pts L) = true) (hi' : i < L.length) (hr1 : BlAt w ra1 l1) (hn1 : l1.length = L.length) (hr2 : BlAt w ra2 l2) (hn2 : l2.length = L.length) : Calls Tryd.prog 134 #[.agg #[.int .i64 5, .string nm, .int .i64 cmp, .int .i64 val, .int .i64 lo, .int .i64 hi, x6], .slice a L.length cap, .int .i64 (i : Int), .slice ra1 l1.length rc1, .slice ra2 l2.length rc2] w (Said (.bool (rowT l1 i && rowT l2 i)) w) := by
  obtain ⟨rb1, ro1, rfl, hc1⟩ := hr1 (fun h => by subst h; simp at hn1; omega)
  have HC1 := Go.Lib.hid hc1
  have HN1 := Go.Lib.hid hn1
  clear hr1 hc1 hn1
  obtain ⟨rb2, ro2, rfl, hc2⟩ := hr2 (fun h => by subst h; simp at hn2; omega)
  have HC2 := Go.Lib.hid hc2
  have HN2 := Go.Lib.hid hn2
  clear hr2 hc2 hn2
  obtain ⟨x1, hx1⟩ : ∃ x, l1[i]? = some x := ⟨_, List.getElem?_eq_getElem (by have := HN1.out; omega)⟩
  have li1 : i < l1.length := by have := HN1.out; omega
  have f1 := HC1.out i x1 hx1
  rw [rowT_at hx1]
  clear hx1
  obtain ⟨x2, hx2⟩ : ∃ x, l2[i]? = some x := ⟨_, List.getElem?_eq_getElem (by have := HN2.out; omega)⟩
  have li2 : i < l2.length := by have := HN2.out; omega
  have f2 := HC2.out i x2 hx2
  rw [rowT_at hx2]
  clear hx2
  go_enter Tryd.func134, Tryd.ntmps134
  have hB := Blk.new w #[.int .i64 5, .string nm, .int .i64 cmp, .int .i64 val, .int .i64 lo, .int .i64 hi, x6] 33
  have hq1 : Quiet w (w.alloc (.cells #[.int .i64 5, .string nm, .int .i64 cmp, .int .i64 val, .int .i64 lo, .int .i64 hi, x6] 33)) := (Alters.refl _).alloc _
  go_upto_region 1 with (fail)
  generalize w.alloc _ = w1 at *
  have HQ1 := Go.Lib.hid hq1
  have HB1 := Go.Lib.hid hB
  clear hq1 hB
  have k0 := HB1.out.cell 0 rfl
  replace f1 := HQ1.out.cell f1 (by simp)
  replace f2 := HQ1.out.cell f2 (by simp)
  cases x1
  · go_wp2_with fail
    go_ret
    exact ⟨by rfl, HQ1.out⟩
  · go_wp2_with fail
    go_ret
    exact ⟨by rfl, HQ1.out⟩

set_option maxRecDepth 100000 in
set_option maxHeartbeats 8000000 in
theorem h134_6 (nm : ByteArray) (cmp val lo hi : Int) (x6 : Value) (a : Option Addr) (cap : Nat) (L : List Hp) (i : Nat) (ra1 : Option Addr) (rc1 : Nat) (l1 : List Bool) (ra2 : Option Addr) (rc2 : Nat) (l2 : List Bool) (w : World) (_hw : WdAt w a L) (_hok : wordOk (pts L) = true) (hi' : i < L.length) (hr1 : BlAt w ra1 l1) (hn1 : l1.length = L.length) (hr2 : BlAt w ra2 l2) (hn2 : l2.length = L.length) : Calls Tryd.prog 134 #[.agg #[.int .i64 6, .string nm, .int .i64 cmp, .int .i64 val, .int .i64 lo, .int .i64 hi, x6], .slice a L.length cap, .int .i64 (i : Int), .slice ra1 l1.length rc1, .slice ra2 l2.length rc2] w (Said (.bool (rowT l1 i || rowT l2 i)) w) := by
  obtain ⟨rb1, ro1, rfl, hc1⟩ := hr1 (fun h => by subst h; simp at hn1; omega)
  have HC1 := Go.Lib.hid hc1
  have HN1 := Go.Lib.hid hn1
  clear hr1 hc1 hn1
  obtain ⟨rb2, ro2, rfl, hc2⟩ := hr2 (fun h => by subst h; simp at hn2; omega)
  have HC2 := Go.Lib.hid hc2
  have HN2 := Go.Lib.hid hn2
  clear hr2 hc2 hn2
  obtain ⟨x1, hx1⟩ : ∃ x, l1[i]? = some x := ⟨_, List.getElem?_eq_getElem (by have := HN1.out; omega)⟩
  have li1 : i < l1.length := by have := HN1.out; omega
  have f1 := HC1.out i x1 hx1
  rw [rowT_at hx1]
  clear hx1
  obtain ⟨x2, hx2⟩ : ∃ x, l2[i]? = some x := ⟨_, List.getElem?_eq_getElem (by have := HN2.out; omega)⟩
  have li2 : i < l2.length := by have := HN2.out; omega
  have f2 := HC2.out i x2 hx2
  rw [rowT_at hx2]
  clear hx2
  go_enter Tryd.func134, Tryd.ntmps134
  have hB := Blk.new w #[.int .i64 6, .string nm, .int .i64 cmp, .int .i64 val, .int .i64 lo, .int .i64 hi, x6] 33
  have hq1 : Quiet w (w.alloc (.cells #[.int .i64 6, .string nm, .int .i64 cmp, .int .i64 val, .int .i64 lo, .int .i64 hi, x6] 33)) := (Alters.refl _).alloc _
  go_upto_region 1 with (fail)
  generalize w.alloc _ = w1 at *
  have HQ1 := Go.Lib.hid hq1
  have HB1 := Go.Lib.hid hB
  clear hq1 hB
  have k0 := HB1.out.cell 0 rfl
  replace f1 := HQ1.out.cell f1 (by simp)
  replace f2 := HQ1.out.cell f2 (by simp)
  cases x1
  · go_wp2_with fail
    go_ret
    exact ⟨by rfl, HQ1.out⟩
  · go_wp2_with fail
    go_ret
    exact ⟨by rfl, HQ1.out⟩

set_option maxRecDepth 100000 in
set_option maxHeartbeats 8000000 in
theorem h134_7 (nm : ByteArray) (cmp val lo hi : Int) (x6 : Value) (a : Option Addr) (cap : Nat) (L : List Hp) (i : Nat) (ra1 : Option Addr) (rc1 : Nat) (l1 : List Bool) (ra2 : Option Addr) (rc2 : Nat) (l2 : List Bool) (w : World) (_hw : WdAt w a L) (_hok : wordOk (pts L) = true) (hi' : i < L.length) (hr1 : BlAt w ra1 l1) (hn1 : l1.length = L.length) (hr2 : BlAt w ra2 l2) (hn2 : l2.length = L.length) : Calls Tryd.prog 134 #[.agg #[.int .i64 7, .string nm, .int .i64 cmp, .int .i64 val, .int .i64 lo, .int .i64 hi, x6], .slice a L.length cap, .int .i64 (i : Int), .slice ra1 l1.length rc1, .slice ra2 l2.length rc2] w (Said (.bool (!rowT l1 i || rowT l2 i)) w) := by
  obtain ⟨rb1, ro1, rfl, hc1⟩ := hr1 (fun h => by subst h; simp at hn1; omega)
  have HC1 := Go.Lib.hid hc1
  have HN1 := Go.Lib.hid hn1
  clear hr1 hc1 hn1
  obtain ⟨rb2, ro2, rfl, hc2⟩ := hr2 (fun h => by subst h; simp at hn2; omega)
  have HC2 := Go.Lib.hid hc2
  have HN2 := Go.Lib.hid hn2
  clear hr2 hc2 hn2
  obtain ⟨x1, hx1⟩ : ∃ x, l1[i]? = some x := ⟨_, List.getElem?_eq_getElem (by have := HN1.out; omega)⟩
  have li1 : i < l1.length := by have := HN1.out; omega
  have f1 := HC1.out i x1 hx1
  rw [rowT_at hx1]
  clear hx1
  obtain ⟨x2, hx2⟩ : ∃ x, l2[i]? = some x := ⟨_, List.getElem?_eq_getElem (by have := HN2.out; omega)⟩
  have li2 : i < l2.length := by have := HN2.out; omega
  have f2 := HC2.out i x2 hx2
  rw [rowT_at hx2]
  clear hx2
  go_enter Tryd.func134, Tryd.ntmps134
  have hB := Blk.new w #[.int .i64 7, .string nm, .int .i64 cmp, .int .i64 val, .int .i64 lo, .int .i64 hi, x6] 33
  have hq1 : Quiet w (w.alloc (.cells #[.int .i64 7, .string nm, .int .i64 cmp, .int .i64 val, .int .i64 lo, .int .i64 hi, x6] 33)) := (Alters.refl _).alloc _
  go_upto_region 1 with (fail)
  generalize w.alloc _ = w1 at *
  have HQ1 := Go.Lib.hid hq1
  have HB1 := Go.Lib.hid hB
  clear hq1 hB
  have k0 := HB1.out.cell 0 rfl
  replace f1 := HQ1.out.cell f1 (by simp)
  replace f2 := HQ1.out.cell f2 (by simp)
  cases x1
  · go_wp2_with fail
    go_ret
    exact ⟨by rfl, HQ1.out⟩
  · go_wp2_with fail
    go_ret
    exact ⟨by rfl, HQ1.out⟩

set_option maxRecDepth 100000 in
set_option maxHeartbeats 8000000 in
theorem h134_8 (nm : ByteArray) (cmp val lo hi : Int) (x6 : Value) (a : Option Addr) (cap : Nat) (L : List Hp) (i : Nat) (ra1 : Option Addr) (rc1 : Nat) (l1 : List Bool) (ra2 : Option Addr) (rc2 : Nat) (l2 : List Bool) (w : World) (_hw : WdAt w a L) (_hok : wordOk (pts L) = true) (hi' : i < L.length) (hr1 : BlAt w ra1 l1) (hn1 : l1.length = L.length) (hr2 : BlAt w ra2 l2) (hn2 : l2.length = L.length) : Calls Tryd.prog 134 #[.agg #[.int .i64 8, .string nm, .int .i64 cmp, .int .i64 val, .int .i64 lo, .int .i64 hi, x6], .slice a L.length cap, .int .i64 (i : Int), .slice ra1 l1.length rc1, .slice ra2 l2.length rc2] w (Said (.bool (rowT l1 i == rowT l2 i)) w) := by
  obtain ⟨rb1, ro1, rfl, hc1⟩ := hr1 (fun h => by subst h; simp at hn1; omega)
  have HC1 := Go.Lib.hid hc1
  have HN1 := Go.Lib.hid hn1
  clear hr1 hc1 hn1
  obtain ⟨rb2, ro2, rfl, hc2⟩ := hr2 (fun h => by subst h; simp at hn2; omega)
  have HC2 := Go.Lib.hid hc2
  have HN2 := Go.Lib.hid hn2
  clear hr2 hc2 hn2
  obtain ⟨x1, hx1⟩ : ∃ x, l1[i]? = some x := ⟨_, List.getElem?_eq_getElem (by have := HN1.out; omega)⟩
  have li1 : i < l1.length := by have := HN1.out; omega
  have f1 := HC1.out i x1 hx1
  rw [rowT_at hx1]
  clear hx1
  obtain ⟨x2, hx2⟩ : ∃ x, l2[i]? = some x := ⟨_, List.getElem?_eq_getElem (by have := HN2.out; omega)⟩
  have li2 : i < l2.length := by have := HN2.out; omega
  have f2 := HC2.out i x2 hx2
  rw [rowT_at hx2]
  clear hx2
  go_enter Tryd.func134, Tryd.ntmps134
  have hB := Blk.new w #[.int .i64 8, .string nm, .int .i64 cmp, .int .i64 val, .int .i64 lo, .int .i64 hi, x6] 33
  have hq1 : Quiet w (w.alloc (.cells #[.int .i64 8, .string nm, .int .i64 cmp, .int .i64 val, .int .i64 lo, .int .i64 hi, x6] 33)) := (Alters.refl _).alloc _
  go_upto_region 1 with (fail)
  generalize w.alloc _ = w1 at *
  have HQ1 := Go.Lib.hid hq1
  have HB1 := Go.Lib.hid hB
  clear hq1 hB
  have k0 := HB1.out.cell 0 rfl
  replace f1 := HQ1.out.cell f1 (by simp)
  replace f2 := HQ1.out.cell f2 (by simp)
  go_upto_region 16 with (fail)
  go_quiet (fail)
  go_wp2_with fail
  go_ret
  exact ⟨by rfl, HQ1.out.drewN _⟩
end Go.Proofs.YtnpcakakjhiboaaDoor

namespace Go.Proofs.YtnpcakakjhiboaaDoor
open Go Go.RowKit Go.Lo Go.WideShapes

set_option maxRecDepth 100000 in
set_option maxHeartbeats 8000000 in
theorem h134_9 (nm : ByteArray) (cmp val lo hi : Int) (x6 : Value) (a : Option Addr) (cap : Nat) (L : List Hp) (i : Nat) (ra1 : Option Addr) (rc1 : Nat) (l1 : List Bool) (ra2 : Option Addr) (rc2 : Nat) (l2 : List Bool) (w : World) (hw : WdAt w a L) (hok : wordOk (pts L) = true) (hi' : i < L.length) (hr1 : BlAt w ra1 l1) (hn1 : l1.length = L.length) : Calls Tryd.prog 134 #[.agg #[.int .i64 9, .string nm, .int .i64 cmp, .int .i64 val, .int .i64 lo, .int .i64 hi, x6], .slice a L.length cap, .int .i64 (i : Int), .slice ra1 l1.length rc1, .slice ra2 l2.length rc2] w (Said (.bool (evT (pts L) lo hi (rowT l1) i)) w) := by
  obtain ⟨rb1, ro1, rfl, hc1⟩ := hr1 (fun h => by subst h; simp at hn1; omega)
  have HC1 := Go.Lib.hid hc1
  have HN1 := Go.Lib.hid hn1
  clear hr1 hc1 hn1
  go_enter Tryd.func134, Tryd.ntmps134
  have hB := Blk.new w #[.int .i64 9, .string nm, .int .i64 cmp, .int .i64 val, .int .i64 lo, .int .i64 hi, x6] 33
  have hq1 : Quiet w (w.alloc (.cells #[.int .i64 9, .string nm, .int .i64 cmp, .int .i64 val, .int .i64 lo, .int .i64 hi, x6] 33)) := (Alters.refl _).alloc _
  go_upto_region 1 with (fail)
  generalize w.alloc _ = w1 at *
  have HQ1 := Go.Lib.hid hq1
  have HB1 := Go.Lib.hid hB
  clear hq1 hB
  have HW := Go.Lib.hid hw
  have HOK := Go.Lib.hid hok
  have hl := hw.len
  unfold maxLen at hl
  have k0 := HB1.out.cell 0 rfl
  clear hw hok
  go_upto_region 17 with (fail)
  clear k0
  go_wp2_with fail
  go_loopw [11, 12, 13] (fun ahv shv x wr => ∃ (j : Nat) (ah sh : Bool), i ≤ j ∧ j ≤ L.length ∧ x = .int .i64 j ∧ ahv = .bool ah ∧ shv = .bool sh ∧ (∀ k, i ≤ k → k < j → inR (pts L) lo hi i k = true → rowT l1 k = false) ∧ Quiet w1 wr) (fun _ _ x _ => L.length - (intOf x).toNat)
  case atStart => exact ⟨i, false, true, Nat.le_refl _, by omega, rfl, rfl, rfl, fun k h1 h2 => by omega, Alters.refl _⟩
  case round =>
    obtain ⟨j, ah, sh, hij, hj, rfl, rfl, rfl, hE, hQ⟩ := hrel
    have HQ := Go.Lib.hid hQ
    have HE := Go.Lib.hid hE
    have HQW := Go.Lib.hid (HQ1.out.trans hQ)
    have hbx := hQ.blk HB1.out (by simp)
    clear hE hQ
    obtain ⟨k0, k1, k2, k3, k4, k5, k6⟩ := seven_cells hbx
    by_cases hlt : j < L.length
    rotate_left
    · have HP : Hid ((evT (pts L) lo hi (rowT l1) i) = false) := Go.Lib.hid (ev_stop HOK.out HE.out (.inl (by rw [pts_len]; omega)))
      go_wp2_with fail
      go_ret
      exact ⟨by rw [HP.out]; rfl, HQW.out⟩
    · have hjj : decide (i ≤ j) = true := by simpa using hij
      obtain ⟨x1, hx1⟩ : ∃ x, l1[j]? = some x := ⟨_, List.getElem?_eq_getElem (by have := HN1.out; omega)⟩
      have lj1 : j < l1.length := by have := HN1.out; omega
      have f1 := HQW.out.cell (HC1.out j x1 hx1) (by simp)
      have HX1 := Go.Lib.hid (rowT_at hx1)
      clear hx1
      have HI := Go.Lib.hid (in166_walk (.int .i64 9) (.string nm) (.int .i64 cmp) (.int .i64 val) x6 lo hi a cap L i j wr (HW.out.quiet HQW.out) HOK.out hij hlt)
      go_wp2_with fail
      refine HI.out.mono ?_
      rintro e w3 ⟨rfl, hq3⟩
      clear HI k0 k1 k2 k3 k4 k5 k6
      replace hbx := hq3.blk hbx (by simp)
      obtain ⟨k0, k1, k2, k3, k4, k5, k6⟩ := seven_cells hbx
      replace f1 := hq3.cell f1 (by simp)
      have HQ3 := Go.Lib.hid (HQ.out.trans hq3)
      clear hbx hq3
      cases hin : inR (pts L) lo hi i j
      · have HINR := Go.Lib.hid hin
        clear hin
        cases x1
        · cases ah
          · cases sh
            · go_wp2_with fail
              go_roundw
              case rel => exact ⟨j + 1, _, _, by omega, by omega, by go_num, rfl, rfl, step_no HE.out (fun h => by rw [HINR.out] at h; cases h), HQ3.out⟩
              case measure => simp [intOf]; omega
            · go_wp2_with fail
              go_roundw
              case rel => exact ⟨j + 1, _, _, by omega, by omega, by go_num, rfl, rfl, step_no HE.out (fun h => by rw [HINR.out] at h; cases h), HQ3.out⟩
              case measure => simp [intOf]; omega
          · cases sh
            · go_wp2_with fail
              go_roundw
              case rel => exact ⟨j + 1, _, _, by omega, by omega, by go_num, rfl, rfl, step_no HE.out (fun h => by rw [HINR.out] at h; cases h), HQ3.out⟩
              case measure => simp [intOf]; omega
            · go_wp2_with fail
              go_roundw
              case rel => exact ⟨j + 1, _, _, by omega, by omega, by go_num, rfl, rfl, step_no HE.out (fun h => by rw [HINR.out] at h; cases h), HQ3.out⟩
              case measure => simp [intOf]; omega
        · cases ah
          · cases sh
            · go_wp2_with fail
              go_roundw
              case rel => exact ⟨j + 1, _, _, by omega, by omega, by go_num, rfl, rfl, step_no HE.out (fun h => by rw [HINR.out] at h; cases h), HQ3.out⟩
              case measure => simp [intOf]; omega
            · go_wp2_with fail
              go_roundw
              case rel => exact ⟨j + 1, _, _, by omega, by omega, by go_num, rfl, rfl, step_no HE.out (fun h => by rw [HINR.out] at h; cases h), HQ3.out⟩
              case measure => simp [intOf]; omega
          · cases sh
            · go_wp2_with fail
              go_roundw
              case rel => exact ⟨j + 1, _, _, by omega, by omega, by go_num, rfl, rfl, step_no HE.out (fun h => by rw [HINR.out] at h; cases h), HQ3.out⟩
              case measure => simp [intOf]; omega
            · go_wp2_with fail
              go_roundw
              case rel => exact ⟨j + 1, _, _, by omega, by omega, by go_num, rfl, rfl, step_no HE.out (fun h => by rw [HINR.out] at h; cases h), HQ3.out⟩
              case measure => simp [intOf]; omega
      · have HINR := Go.Lib.hid hin
        clear hin
        cases x1
        · cases ah
          · cases sh
            · go_wp2_with fail
              go_roundw
              case rel => exact ⟨j + 1, _, _, by omega, by omega, by go_num, rfl, rfl, step_no HE.out (fun _ => by first | exact HX1.out | (simp only [HX1.out]; done) | (simp only [HX1.out]; rfl)), HQ3.out⟩
              case measure => simp [intOf]; omega
            · go_wp2_with fail
              go_roundw
              case rel => exact ⟨j + 1, _, _, by omega, by omega, by go_num, rfl, rfl, step_no HE.out (fun _ => by first | exact HX1.out | (simp only [HX1.out]; done) | (simp only [HX1.out]; rfl)), HQ3.out⟩
              case measure => simp [intOf]; omega
          · cases sh
            · go_wp2_with fail
              go_roundw
              case rel => exact ⟨j + 1, _, _, by omega, by omega, by go_num, rfl, rfl, step_no HE.out (fun _ => by first | exact HX1.out | (simp only [HX1.out]; done) | (simp only [HX1.out]; rfl)), HQ3.out⟩
              case measure => simp [intOf]; omega
            · go_wp2_with fail
              go_roundw
              case rel => exact ⟨j + 1, _, _, by omega, by omega, by go_num, rfl, rfl, step_no HE.out (fun _ => by first | exact HX1.out | (simp only [HX1.out]; done) | (simp only [HX1.out]; rfl)), HQ3.out⟩
              case measure => simp [intOf]; omega
        · have HP : Hid ((evT (pts L) lo hi (rowT l1) i) = true) := Go.Lib.hid (ev_hit (j := j) (by rw [pts_len]; exact hlt) HINR.out (by first | exact HX1.out | (simp only [HX1.out]; done) | (simp only [HX1.out]; rfl)))
          go_wp2_with fail
          go_ret
          exact ⟨by rw [HP.out]; rfl, HQ1.out.trans HQ3.out⟩
end Go.Proofs.YtnpcakakjhiboaaDoor

namespace Go.Proofs.YtnpcakakjhiboaaDoor
open Go Go.RowKit Go.Lo Go.WideShapes

set_option maxRecDepth 100000 in
set_option maxHeartbeats 8000000 in
theorem h134_10 (nm : ByteArray) (cmp val lo hi : Int) (x6 : Value) (a : Option Addr) (cap : Nat) (L : List Hp) (i : Nat) (ra1 : Option Addr) (rc1 : Nat) (l1 : List Bool) (ra2 : Option Addr) (rc2 : Nat) (l2 : List Bool) (w : World) (hw : WdAt w a L) (hok : wordOk (pts L) = true) (hi' : i < L.length) (hr1 : BlAt w ra1 l1) (hn1 : l1.length = L.length) : Calls Tryd.prog 134 #[.agg #[.int .i64 10, .string nm, .int .i64 cmp, .int .i64 val, .int .i64 lo, .int .i64 hi, x6], .slice a L.length cap, .int .i64 (i : Int), .slice ra1 l1.length rc1, .slice ra2 l2.length rc2] w (Said (.bool (!evT (pts L) lo hi (fun j => !rowT l1 j) i)) w) := by
  obtain ⟨rb1, ro1, rfl, hc1⟩ := hr1 (fun h => by subst h; simp at hn1; omega)
  have HC1 := Go.Lib.hid hc1
  have HN1 := Go.Lib.hid hn1
  clear hr1 hc1 hn1
  go_enter Tryd.func134, Tryd.ntmps134
  have hB := Blk.new w #[.int .i64 10, .string nm, .int .i64 cmp, .int .i64 val, .int .i64 lo, .int .i64 hi, x6] 33
  have hq1 : Quiet w (w.alloc (.cells #[.int .i64 10, .string nm, .int .i64 cmp, .int .i64 val, .int .i64 lo, .int .i64 hi, x6] 33)) := (Alters.refl _).alloc _
  go_upto_region 1 with (fail)
  generalize w.alloc _ = w1 at *
  have HQ1 := Go.Lib.hid hq1
  have HB1 := Go.Lib.hid hB
  clear hq1 hB
  have HW := Go.Lib.hid hw
  have HOK := Go.Lib.hid hok
  have hl := hw.len
  unfold maxLen at hl
  have k0 := HB1.out.cell 0 rfl
  clear hw hok
  go_upto_region 17 with (fail)
  clear k0
  go_wp2_with fail
  go_loopw [11, 12, 13] (fun ahv shv x wr => ∃ (j : Nat) (ah sh : Bool), i ≤ j ∧ j ≤ L.length ∧ x = .int .i64 j ∧ ahv = .bool ah ∧ shv = .bool sh ∧ (∀ k, i ≤ k → k < j → inR (pts L) lo hi i k = true → (fun j => !rowT l1 j) k = false) ∧ Quiet w1 wr) (fun _ _ x _ => L.length - (intOf x).toNat)
  case atStart => exact ⟨i, false, true, Nat.le_refl _, by omega, rfl, rfl, rfl, fun k h1 h2 => by omega, Alters.refl _⟩
  case round =>
    obtain ⟨j, ah, sh, hij, hj, rfl, rfl, rfl, hE, hQ⟩ := hrel
    have HQ := Go.Lib.hid hQ
    have HE := Go.Lib.hid hE
    have HQW := Go.Lib.hid (HQ1.out.trans hQ)
    have hbx := hQ.blk HB1.out (by simp)
    clear hE hQ
    obtain ⟨k0, k1, k2, k3, k4, k5, k6⟩ := seven_cells hbx
    by_cases hlt : j < L.length
    rotate_left
    · have HP : Hid ((!evT (pts L) lo hi (fun j => !rowT l1 j) i) = true) := Go.Lib.hid (by rw [ev_stop HOK.out HE.out (.inl (by rw [pts_len]; omega))]; rfl)
      go_wp2_with fail
      go_ret
      exact ⟨by rw [HP.out]; rfl, HQW.out⟩
    · have hjj : decide (i ≤ j) = true := by simpa using hij
      obtain ⟨x1, hx1⟩ : ∃ x, l1[j]? = some x := ⟨_, List.getElem?_eq_getElem (by have := HN1.out; omega)⟩
      have lj1 : j < l1.length := by have := HN1.out; omega
      have f1 := HQW.out.cell (HC1.out j x1 hx1) (by simp)
      have HX1 := Go.Lib.hid (rowT_at hx1)
      clear hx1
      have HI := Go.Lib.hid (in166_walk (.int .i64 10) (.string nm) (.int .i64 cmp) (.int .i64 val) x6 lo hi a cap L i j wr (HW.out.quiet HQW.out) HOK.out hij hlt)
      go_wp2_with fail
      refine HI.out.mono ?_
      rintro e w3 ⟨rfl, hq3⟩
      clear HI k0 k1 k2 k3 k4 k5 k6
      replace hbx := hq3.blk hbx (by simp)
      obtain ⟨k0, k1, k2, k3, k4, k5, k6⟩ := seven_cells hbx
      replace f1 := hq3.cell f1 (by simp)
      have HQ3 := Go.Lib.hid (HQ.out.trans hq3)
      clear hbx hq3
      cases hin : inR (pts L) lo hi i j
      · have HINR := Go.Lib.hid hin
        clear hin
        cases x1
        · cases ah
          · cases sh
            · go_wp2_with fail
              go_roundw
              case rel => exact ⟨j + 1, _, _, by omega, by omega, by go_num, rfl, rfl, step_no HE.out (fun h => by rw [HINR.out] at h; cases h), HQ3.out⟩
              case measure => simp [intOf]; omega
            · go_wp2_with fail
              go_roundw
              case rel => exact ⟨j + 1, _, _, by omega, by omega, by go_num, rfl, rfl, step_no HE.out (fun h => by rw [HINR.out] at h; cases h), HQ3.out⟩
              case measure => simp [intOf]; omega
          · cases sh
            · go_wp2_with fail
              go_roundw
              case rel => exact ⟨j + 1, _, _, by omega, by omega, by go_num, rfl, rfl, step_no HE.out (fun h => by rw [HINR.out] at h; cases h), HQ3.out⟩
              case measure => simp [intOf]; omega
            · go_wp2_with fail
              go_roundw
              case rel => exact ⟨j + 1, _, _, by omega, by omega, by go_num, rfl, rfl, step_no HE.out (fun h => by rw [HINR.out] at h; cases h), HQ3.out⟩
              case measure => simp [intOf]; omega
        · cases ah
          · cases sh
            · go_wp2_with fail
              go_roundw
              case rel => exact ⟨j + 1, _, _, by omega, by omega, by go_num, rfl, rfl, step_no HE.out (fun h => by rw [HINR.out] at h; cases h), HQ3.out⟩
              case measure => simp [intOf]; omega
            · go_wp2_with fail
              go_roundw
              case rel => exact ⟨j + 1, _, _, by omega, by omega, by go_num, rfl, rfl, step_no HE.out (fun h => by rw [HINR.out] at h; cases h), HQ3.out⟩
              case measure => simp [intOf]; omega
          · cases sh
            · go_wp2_with fail
              go_roundw
              case rel => exact ⟨j + 1, _, _, by omega, by omega, by go_num, rfl, rfl, step_no HE.out (fun h => by rw [HINR.out] at h; cases h), HQ3.out⟩
              case measure => simp [intOf]; omega
            · go_wp2_with fail
              go_roundw
              case rel => exact ⟨j + 1, _, _, by omega, by omega, by go_num, rfl, rfl, step_no HE.out (fun h => by rw [HINR.out] at h; cases h), HQ3.out⟩
              case measure => simp [intOf]; omega
      · have HINR := Go.Lib.hid hin
        clear hin
        cases x1
        · have HP : Hid ((!evT (pts L) lo hi (fun j => !rowT l1 j) i) = false) := Go.Lib.hid (by rw [ev_hit (j := j) (by rw [pts_len]; exact hlt) HINR.out (by first | exact HX1.out | (simp only [HX1.out]; done) | (simp only [HX1.out]; rfl))]; rfl)
          go_wp2_with fail
          go_ret
          exact ⟨by rw [HP.out]; rfl, HQ1.out.trans HQ3.out⟩
        · cases ah
          · cases sh
            · go_wp2_with fail
              go_roundw
              case rel => exact ⟨j + 1, _, _, by omega, by omega, by go_num, rfl, rfl, step_no HE.out (fun _ => by first | exact HX1.out | (simp only [HX1.out]; done) | (simp only [HX1.out]; rfl)), HQ3.out⟩
              case measure => simp [intOf]; omega
            · go_wp2_with fail
              go_roundw
              case rel => exact ⟨j + 1, _, _, by omega, by omega, by go_num, rfl, rfl, step_no HE.out (fun _ => by first | exact HX1.out | (simp only [HX1.out]; done) | (simp only [HX1.out]; rfl)), HQ3.out⟩
              case measure => simp [intOf]; omega
          · cases sh
            · go_wp2_with fail
              go_roundw
              case rel => exact ⟨j + 1, _, _, by omega, by omega, by go_num, rfl, rfl, step_no HE.out (fun _ => by first | exact HX1.out | (simp only [HX1.out]; done) | (simp only [HX1.out]; rfl)), HQ3.out⟩
              case measure => simp [intOf]; omega
            · go_wp2_with fail
              go_roundw
              case rel => exact ⟨j + 1, _, _, by omega, by omega, by go_num, rfl, rfl, step_no HE.out (fun _ => by first | exact HX1.out | (simp only [HX1.out]; done) | (simp only [HX1.out]; rfl)), HQ3.out⟩
              case measure => simp [intOf]; omega
end Go.Proofs.YtnpcakakjhiboaaDoor
