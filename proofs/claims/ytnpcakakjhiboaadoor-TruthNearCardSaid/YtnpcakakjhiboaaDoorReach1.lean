/- Loops over a word (1). No condition. -/
import Derived.Test.YtnpcakakjhiboaaDoorWord
namespace Go.Proofs.YtnpcakakjhiboaaDoor
open Go.RowKit Go.Lo Go.WideShapes

set_option maxRecDepth 100000 in
set_option maxHeartbeats 4000000 in
theorem some_walk (lo hi : Int) (a : Option Addr) (cap : Nat) (L : List Hp) (i : Nat) (ra1 : Option Addr) (rc1 : Nat) (l1 : List Bool) (v : Bool) (w : World) (hw : WdAt w a L) (hok : wordOk (pts L) = true) (hi' : i < L.length) (hb1 : BlAt w ra1 l1) (hn1 : l1.length = L.length) : Calls Tryd.prog 121 #[.agg #[.int .i64 lo, .int .i64 hi], .slice a L.length cap, .int .i64 (i : Int), .slice ra1 l1.length rc1, .bool v] w (Said (.bool (evT (pts L) lo hi (fun j => rowT l1 j == v) i)) w) := by
  have hl := hw.len
  unfold maxLen at hl
  have hne : L ≠ [] := fun h => by subst h; simp at hi'
  obtain ⟨b, o, rfl, hc⟩ := hw.cells hne
  obtain ⟨r, hr⟩ : ∃ r, L[i]? = some r := ⟨_, List.getElem?_eq_getElem hi'⟩
  have d0 := (hc i r hr).1
  have HW := Go.Lib.hid hw.wf
  have HC := Go.Lib.hid (fun j q (h : L[j]? = some q) => (hc j q h).1)
  have HOK := Go.Lib.hid hok
  have HR := Go.Lib.hid hr
  obtain ⟨rb1, ro1, rfl, hc1⟩ := hb1 (fun h => by subst h; simp at hn1; omega)
  have HC1 := Go.Lib.hid hc1
  have HN1 := Go.Lib.hid hn1
  clear hb1 hc1 hn1
  clear hw hc hok hr hne
  go_enter Tryd.func121, Tryd.ntmps121
  have hB := Blk.new w #[.int .i64 lo, .int .i64 hi] 25
  have hq : Quiet w (w.alloc (.cells #[.int .i64 lo, .int .i64 hi] 25)) := (Alters.refl _).alloc _
  go_wp2
  generalize w.alloc _ = w1 at *
  have HQ1 := Go.Lib.hid hq
  have HB1 := Go.Lib.hid hB
  clear hq hB
  go_loopw [11] (fun x wr => ∃ j : Nat, i ≤ j ∧ j ≤ L.length ∧ x = .int .i64 j ∧ (∀ k, i ≤ k → k < j → inR (pts L) lo hi i k = true → (rowT l1 k == v) = false) ∧ Quiet w1 wr) (fun x _ => L.length - (intOf x).toNat)
  case atStart => exact ⟨i, Nat.le_refl _, by omega, rfl, fun k h1 h2 => by omega, Alters.refl _⟩
  case round =>
    obtain ⟨j, hij, hj, rfl, hE, hQ⟩ := hrel
    have HQ := Go.Lib.hid hQ
    have HE := Go.Lib.hid hE
    have e1 : Quiet w wr := HQ1.out.trans hQ
    replace d0 := e1.cell d0 (by simp)
    have c0 := hQ.cell (HB1.out.cell 0 rfl) (by simp)
    have c1 := hQ.cell (HB1.out.cell 1 rfl) (by simp)
    have HQW := Go.Lib.hid e1
    clear hE hQ e1
    by_cases hlt : j < L.length
    rotate_left
    · have g1 : decide (j < L.length) = false := by simpa using hlt
      have HP : Hid ((evT (pts L) lo hi (fun j => rowT l1 j == v) i) = false) := Go.Lib.hid (ev_stop HOK.out HE.out (.inl (by rw [pts_len]; omega)))
      go_upto_region 2 with (fail)
      refine wp_region_wants (by kernel_rfl) (by kernel_rfl) (by kernel_rfl) (by kernel_rfl) (CellsAt w1 []) (fun _ _ hq h => h.keep hq) [Want.is (.int .i64 (j : Int)), Want.is (.slice (some ⟨b, o, none⟩) L.length cap), Want.is (.int .i64 (L.length : Int)), Want.is (.bool false), Want.is (.bool false), Want.is (undef), Want.is (undef), Want.is (undef), Want.is (undef), Want.is (undef), Want.is (undef), Want.is (undef), Want.is (undef), Want.is (undef), Want.is (undef), Want.is (undef), Want.is (undef), Want.is (undef), Want.is (undef)] ((CellsAt.nil HQ.out).keep ((Alters.refl _).drew)) (by decide) ?_
      refine Steps.cons ?_ (Steps.cons ?_ (Steps.cons ?_ (Steps.cons ?_ (Steps.cons ?_ (Steps.cons ?_ (Steps.cons ?_ (Steps.cons ?_ (Steps.cons ?_ (Steps.cons ?_ (Steps.cons ?_ (Steps.cons ?_ (Steps.cons ?_ (Steps.cons ?_ (Steps.cons ?_ (Steps.cons ?_ (Steps.cons ?_ (Steps.cons ?_ (Steps.cons ?_ (Steps.last ?_)))))))))))))))))))
      · intro u W K hS hF hK
        simp only [putsFrom, Act.put, Nat.reduceAdd, List.setIfInBounds_toArray, List.set_cons_zero, List.set_cons_succ] at hK ⊢
        clear hF
        go_simp
        exact hK.out _ _ (Alters.refl _) rfl
      · intro u W K hS hF hK
        simp only [putsFrom, Act.put, Nat.reduceAdd, List.setIfInBounds_toArray, List.set_cons_zero, List.set_cons_succ] at hK ⊢
        clear hF
        go_simp
        exact hK.out _ _ (Alters.refl _) rfl
      · intro u W K hS hF hK
        have f1 : u 1 = .slice (some ⟨b, o, none⟩) L.length cap := hF 1 (by kernel_rfl)
        simp only [putsFrom, Act.put, Nat.reduceAdd, List.setIfInBounds_toArray, List.set_cons_zero, List.set_cons_succ, f1] at hK ⊢
        clear hF
        go_simp
        exact hK.out _ _ (Alters.refl _) rfl
      · intro u W K hS hF hK
        have f0 : u 0 = .int .i64 (j : Int) := hF 0 (by kernel_rfl)
        have f2 : u 2 = .int .i64 (L.length : Int) := hF 2 (by kernel_rfl)
        simp only [putsFrom, Act.put, Nat.reduceAdd, List.setIfInBounds_toArray, List.set_cons_zero, List.set_cons_succ, f0, f2] at hK ⊢
        clear hF
        go_simp
        exact hK.out _ _ (Alters.refl _) rfl
      · intro u W K hS hF hK
        have f3 : u 3 = .bool false := hF 3 (by kernel_rfl)
        simp only [putsFrom, Act.put, Nat.reduceAdd, List.setIfInBounds_toArray, List.set_cons_zero, List.set_cons_succ, f3] at hK ⊢
        clear hF
        go_simp
        exact hK.out _ _ (Alters.refl _) rfl
      · intro u W K hS hF hK
        have f4 : u 4 = .bool false := hF 4 (by kernel_rfl)
        simp only [putsFrom, Act.put, Nat.reduceAdd, List.setIfInBounds_toArray, List.set_cons_zero, List.set_cons_succ, f4] at hK ⊢
        clear hF
        go_simp
        exact hK.out _ _ (Alters.refl _) rfl
      · intro u W K hS hF hK
        have f4 : u 4 = .bool false := hF 4 (by kernel_rfl)
        simp only [putsFrom, Act.put, Nat.reduceAdd, List.setIfInBounds_toArray, List.set_cons_zero, List.set_cons_succ, f4] at hK ⊢
        clear hF
        go_simp
        exact hK.out _ _ (Alters.refl _) rfl
      · intro u W K hS hF hK
        have f4 : u 4 = .bool false := hF 4 (by kernel_rfl)
        have f5 : u 5 = undef := hF 5 (by kernel_rfl)
        have f6 : u 6 = undef := hF 6 (by kernel_rfl)
        simp only [putsFrom, Act.put, Nat.reduceAdd, List.setIfInBounds_toArray, List.set_cons_zero, List.set_cons_succ, f4, f5, f6] at hK ⊢
        clear hF
        go_simp
        exact hK.out _ _ (Alters.refl _) rfl
      · intro u W K hS hF hK
        have f4 : u 4 = .bool false := hF 4 (by kernel_rfl)
        have f7 : u 7 = undef := hF 7 (by kernel_rfl)
        simp only [putsFrom, Act.put, Nat.reduceAdd, List.setIfInBounds_toArray, List.set_cons_zero, List.set_cons_succ, f4, f7] at hK ⊢
        clear hF
        go_simp
        exact hK.out _ _ (Alters.refl _) rfl
      · intro u W K hS hF hK
        have f4 : u 4 = .bool false := hF 4 (by kernel_rfl)
        have f8 : u 8 = undef := hF 8 (by kernel_rfl)
        simp only [putsFrom, Act.put, Nat.reduceAdd, List.setIfInBounds_toArray, List.set_cons_zero, List.set_cons_succ, f4, f8] at hK ⊢
        clear hF
        go_simp
        exact hK.out _ _ (Alters.refl _) rfl
      · intro u W K hS hF hK
        have f4 : u 4 = .bool false := hF 4 (by kernel_rfl)
        simp only [putsFrom, Act.put, Nat.reduceAdd, List.setIfInBounds_toArray, List.set_cons_zero, List.set_cons_succ, f4] at hK ⊢
        clear hF
        go_simp
        exact hK.out _ _ (Alters.refl _) rfl
      · intro u W K hS hF hK
        have f4 : u 4 = .bool false := hF 4 (by kernel_rfl)
        simp only [putsFrom, Act.put, Nat.reduceAdd, List.setIfInBounds_toArray, List.set_cons_zero, List.set_cons_succ, f4] at hK ⊢
        clear hF
        go_simp
        exact hK.out _ _ (Alters.refl _) rfl
      · intro u W K hS hF hK
        have f4 : u 4 = .bool false := hF 4 (by kernel_rfl)
        have f10 : u 10 = undef := hF 10 (by kernel_rfl)
        have f11 : u 11 = undef := hF 11 (by kernel_rfl)
        simp only [putsFrom, Act.put, Nat.reduceAdd, List.setIfInBounds_toArray, List.set_cons_zero, List.set_cons_succ, f4, f10, f11] at hK ⊢
        clear hF
        go_simp
        exact hK.out _ _ (Alters.refl _) rfl
      · intro u W K hS hF hK
        have f4 : u 4 = .bool false := hF 4 (by kernel_rfl)
        have f12 : u 12 = undef := hF 12 (by kernel_rfl)
        simp only [putsFrom, Act.put, Nat.reduceAdd, List.setIfInBounds_toArray, List.set_cons_zero, List.set_cons_succ, f4, f12] at hK ⊢
        clear hF
        go_simp
        exact hK.out _ _ (Alters.refl _) rfl
      · intro u W K hS hF hK
        have f4 : u 4 = .bool false := hF 4 (by kernel_rfl)
        have f13 : u 13 = undef := hF 13 (by kernel_rfl)
        simp only [putsFrom, Act.put, Nat.reduceAdd, List.setIfInBounds_toArray, List.set_cons_zero, List.set_cons_succ, f4, f13] at hK ⊢
        clear hF
        go_simp
        exact hK.out _ _ (Alters.refl _) rfl
      · intro u W K hS hF hK
        have f4 : u 4 = .bool false := hF 4 (by kernel_rfl)
        have f9 : u 9 = undef := hF 9 (by kernel_rfl)
        have f14 : u 14 = undef := hF 14 (by kernel_rfl)
        simp only [putsFrom, Act.put, Nat.reduceAdd, List.setIfInBounds_toArray, List.set_cons_zero, List.set_cons_succ, f4, f9, f14] at hK ⊢
        clear hF
        go_simp
        exact hK.out _ _ (Alters.refl _) rfl
      · intro u W K hS hF hK
        have f4 : u 4 = .bool false := hF 4 (by kernel_rfl)
        simp only [putsFrom, Act.put, Nat.reduceAdd, List.setIfInBounds_toArray, List.set_cons_zero, List.set_cons_succ, f4] at hK ⊢
        clear hF
        go_simp
        exact hK.out _ _ (Alters.refl _) rfl
      · intro u W K hS hF hK
        have f4 : u 4 = .bool false := hF 4 (by kernel_rfl)
        have f16 : u 16 = undef := hF 16 (by kernel_rfl)
        simp only [putsFrom, Act.put, Nat.reduceAdd, List.setIfInBounds_toArray, List.set_cons_zero, List.set_cons_succ, f4, f16] at hK ⊢
        clear hF
        go_simp
        exact hK.out _ _ (Alters.refl _) rfl
      · intro u W K hS hF hK
        have f4 : u 4 = .bool false := hF 4 (by kernel_rfl)
        have f15 : u 15 = undef := hF 15 (by kernel_rfl)
        have f17 : u 17 = undef := hF 17 (by kernel_rfl)
        simp only [putsFrom, Act.put, Nat.reduceAdd, List.setIfInBounds_toArray, List.set_cons_zero, List.set_cons_succ, f4, f15, f17] at hK ⊢
        clear hF
        go_simp
        exact hK.out _ _ (Alters.refl _) rfl
      · intro u W hS hF
        have f4 : u 4 = .bool false := hF 4 (by simp)
        have f18 : u 18 = undef := hF 18 (by simp)
        simp only [putsFrom, Act.put, Nat.reduceAdd, List.setIfInBounds_toArray, List.set_cons_zero, List.set_cons_succ, f4, f18]
        clear hF f4 f18
        have HS := Go.Lib.hid hS
        clear hS
        go_simp
        go_wp2_with fail
        go_ret
        exact ⟨by rw [HP.out]; rfl, HQ1.out.trans HS.out.quiet⟩
    · have g1 : decide (j < L.length) = true := by simpa using hlt
      obtain ⟨q, hq⟩ : ∃ q, L[j]? = some q := ⟨_, List.getElem?_eq_getElem hlt⟩
      have e0 := HQW.out.cell (HC.out j q hq) (by simp)
      have hwq := HW.out q (List.mem_of_getElem? hq)
      have hwr := HW.out r (List.mem_of_getElem? HR.out)
      have p1 := wordOk_pos HOK.out j
      have p2 := wordOk_pos HOK.out i
      rw [pts_tm hq] at p1
      rw [pts_tm HR.out] at p2
      have hwd : IntKind.i64.wrap (q.p.tm - r.p.tm) = q.p.tm - r.p.tm := by
        rw [IntKind.wrap_i64]
        unfold I64 at hwq hwr
        omega
      have HD : Hid (tmOf (pts L) j - tmOf (pts L) i = q.p.tm - r.p.tm) := Go.Lib.hid (by rw [pts_tm hq, pts_tm HR.out])
      have HIN : Hid (inR (pts L) lo hi i j = (decide (lo ≤ q.p.tm - r.p.tm) && decide (q.p.tm - r.p.tm ≤ hi))) := Go.Lib.hid (by rw [inR_eq hij, HD.out])
      clear p1 p2 hwq hwr hq
      obtain ⟨x1, hx1⟩ : ∃ x, l1[j]? = some x := ⟨_, List.getElem?_eq_getElem (by have := HN1.out; omega)⟩
      have lj1 : j < l1.length := by have := HN1.out; omega
      have f1 := HQW.out.cell (HC1.out j x1 hx1) (by simp)
      have HX1 := Go.Lib.hid (rowT_at hx1)
      clear hx1
      by_cases hh : q.p.tm - r.p.tm ≤ hi
      rotate_left
      · have g2 : decide (q.p.tm - r.p.tm ≤ hi) = false := by simpa using hh
        have HP : Hid ((evT (pts L) lo hi (fun j => rowT l1 j == v) i) = false) := Go.Lib.hid (ev_stop HOK.out HE.out (.inr (by rw [HD.out]; omega)))
        clear hh
        go_upto_region 2 with (fail)
        refine wp_region_wants (by kernel_rfl) (by kernel_rfl) (by kernel_rfl) (by kernel_rfl) (CellsAt w1 [(⟨b, o + j * 2, none⟩, .int .i64 q.p.tm), (⟨b, o + i * 2, none⟩, .int .i64 r.p.tm), (⟨w.heap.size, 0, none⟩, .int .i64 lo), (⟨w.heap.size, 1, none⟩, .int .i64 hi), (⟨rb1, ro1 + j, none⟩, .bool x1)]) (fun _ _ hq h => h.keep hq) [Want.is (.int .i64 (j : Int)), Want.is (.slice (some ⟨b, o, none⟩) L.length cap), Want.is (.int .i64 (L.length : Int)), Want.is (.bool true), Want.is (.bool true), Want.is (.slice (some ⟨b, o, none⟩) L.length cap), Want.is (.int .i64 (j : Int)), Want.is (.pointer (some ⟨b, o + j * 2, none⟩)), Want.is (.pointer (some ⟨b, o + j * 2, none⟩)), Want.is (.int .i64 q.p.tm), Want.is (.slice (some ⟨b, o, none⟩) L.length cap), Want.is (.int .i64 (i : Int)), Want.is (.pointer (some ⟨b, o + i * 2, none⟩)), Want.is (.pointer (some ⟨b, o + i * 2, none⟩)), Want.is (.int .i64 r.p.tm), Want.is (.int .i64 (q.p.tm - r.p.tm)), Want.is (.pointer (some ⟨w.heap.size, 1, none⟩)), Want.is (.int .i64 hi), Want.is (.bool false)] ((CellsAt.cons (a := ⟨b, o + j * 2, none⟩) (v := .int .i64 q.p.tm) (e0) (CellsAt.cons (a := ⟨b, o + i * 2, none⟩) (v := .int .i64 r.p.tm) (d0) (CellsAt.cons (a := ⟨w.heap.size, 0, none⟩) (v := .int .i64 lo) (c0) (CellsAt.cons (a := ⟨w.heap.size, 1, none⟩) (v := .int .i64 hi) (c1) (CellsAt.cons (a := ⟨rb1, ro1 + j, none⟩) (v := .bool x1) (f1) (CellsAt.nil (HQ.out))))))).keep ((Alters.refl _).drew)) (by decide) ?_
        refine Steps.cons ?_ (Steps.cons ?_ (Steps.cons ?_ (Steps.cons ?_ (Steps.cons ?_ (Steps.cons ?_ (Steps.cons ?_ (Steps.cons ?_ (Steps.cons ?_ (Steps.cons ?_ (Steps.cons ?_ (Steps.cons ?_ (Steps.cons ?_ (Steps.cons ?_ (Steps.cons ?_ (Steps.cons ?_ (Steps.cons ?_ (Steps.cons ?_ (Steps.cons ?_ (Steps.last ?_)))))))))))))))))))
        · intro u W K hS hF hK
          simp only [putsFrom, Act.put, Nat.reduceAdd, List.setIfInBounds_toArray, List.set_cons_zero, List.set_cons_succ] at hK ⊢
          clear hF
          go_simp
          exact hK.out _ _ (Alters.refl _) rfl
        · intro u W K hS hF hK
          simp only [putsFrom, Act.put, Nat.reduceAdd, List.setIfInBounds_toArray, List.set_cons_zero, List.set_cons_succ] at hK ⊢
          clear hF
          go_simp
          exact hK.out _ _ (Alters.refl _) rfl
        · intro u W K hS hF hK
          have f1 : u 1 = .slice (some ⟨b, o, none⟩) L.length cap := hF 1 (by kernel_rfl)
          simp only [putsFrom, Act.put, Nat.reduceAdd, List.setIfInBounds_toArray, List.set_cons_zero, List.set_cons_succ, f1] at hK ⊢
          clear hF
          go_simp
          exact hK.out _ _ (Alters.refl _) rfl
        · intro u W K hS hF hK
          have f0 : u 0 = .int .i64 (j : Int) := hF 0 (by kernel_rfl)
          have f2 : u 2 = .int .i64 (L.length : Int) := hF 2 (by kernel_rfl)
          simp only [putsFrom, Act.put, Nat.reduceAdd, List.setIfInBounds_toArray, List.set_cons_zero, List.set_cons_succ, f0, f2] at hK ⊢
          clear hF
          go_simp
          exact hK.out _ _ (Alters.refl _) rfl
        · intro u W K hS hF hK
          have f3 : u 3 = .bool true := hF 3 (by kernel_rfl)
          simp only [putsFrom, Act.put, Nat.reduceAdd, List.setIfInBounds_toArray, List.set_cons_zero, List.set_cons_succ, f3] at hK ⊢
          clear hF
          go_simp
          exact hK.out _ _ (Alters.refl _) rfl
        · intro u W K hS hF hK
          have f4 : u 4 = .bool true := hF 4 (by kernel_rfl)
          simp only [putsFrom, Act.put, Nat.reduceAdd, List.setIfInBounds_toArray, List.set_cons_zero, List.set_cons_succ, f4] at hK ⊢
          clear hF
          go_simp
          exact hK.out _ _ (Alters.refl _) rfl
        · intro u W K hS hF hK
          have f4 : u 4 = .bool true := hF 4 (by kernel_rfl)
          simp only [putsFrom, Act.put, Nat.reduceAdd, List.setIfInBounds_toArray, List.set_cons_zero, List.set_cons_succ, f4] at hK ⊢
          clear hF
          go_simp
          exact hK.out _ _ (Alters.refl _) rfl
        · intro u W K hS hF hK
          have f4 : u 4 = .bool true := hF 4 (by kernel_rfl)
          have f5 : u 5 = .slice (some ⟨b, o, none⟩) L.length cap := hF 5 (by kernel_rfl)
          have f6 : u 6 = .int .i64 (j : Int) := hF 6 (by kernel_rfl)
          simp only [putsFrom, Act.put, Nat.reduceAdd, List.setIfInBounds_toArray, List.set_cons_zero, List.set_cons_succ, f4, f5, f6] at hK ⊢
          clear hF
          go_simp
          exact hK.out _ _ (Alters.refl _) rfl
        · intro u W K hS hF hK
          have f4 : u 4 = .bool true := hF 4 (by kernel_rfl)
          have f7 : u 7 = .pointer (some ⟨b, o + j * 2, none⟩) := hF 7 (by kernel_rfl)
          simp only [putsFrom, Act.put, Nat.reduceAdd, List.setIfInBounds_toArray, List.set_cons_zero, List.set_cons_succ, f4, f7] at hK ⊢
          clear hF
          go_simp
          exact hK.out _ _ (Alters.refl _) rfl
        · intro u W K hS hF hK
          have f4 : u 4 = .bool true := hF 4 (by kernel_rfl)
          have f8 : u 8 = .pointer (some ⟨b, o + j * 2, none⟩) := hF 8 (by kernel_rfl)
          simp only [putsFrom, Act.put, Nat.reduceAdd, List.setIfInBounds_toArray, List.set_cons_zero, List.set_cons_succ, f4, f8] at hK ⊢
          clear hF
          have x0 := hS.at (b) (o + j * 2) (.int .i64 q.p.tm) (by simp)
          go_simp
          exact hK.out _ _ (Alters.refl _) rfl
        · intro u W K hS hF hK
          have f4 : u 4 = .bool true := hF 4 (by kernel_rfl)
          simp only [putsFrom, Act.put, Nat.reduceAdd, List.setIfInBounds_toArray, List.set_cons_zero, List.set_cons_succ, f4] at hK ⊢
          clear hF
          go_simp
          exact hK.out _ _ (Alters.refl _) rfl
        · intro u W K hS hF hK
          have f4 : u 4 = .bool true := hF 4 (by kernel_rfl)
          simp only [putsFrom, Act.put, Nat.reduceAdd, List.setIfInBounds_toArray, List.set_cons_zero, List.set_cons_succ, f4] at hK ⊢
          clear hF
          go_simp
          exact hK.out _ _ (Alters.refl _) rfl
        · intro u W K hS hF hK
          have f4 : u 4 = .bool true := hF 4 (by kernel_rfl)
          have f10 : u 10 = .slice (some ⟨b, o, none⟩) L.length cap := hF 10 (by kernel_rfl)
          have f11 : u 11 = .int .i64 (i : Int) := hF 11 (by kernel_rfl)
          simp only [putsFrom, Act.put, Nat.reduceAdd, List.setIfInBounds_toArray, List.set_cons_zero, List.set_cons_succ, f4, f10, f11] at hK ⊢
          clear hF
          go_simp
          exact hK.out _ _ (Alters.refl _) rfl
        · intro u W K hS hF hK
          have f4 : u 4 = .bool true := hF 4 (by kernel_rfl)
          have f12 : u 12 = .pointer (some ⟨b, o + i * 2, none⟩) := hF 12 (by kernel_rfl)
          simp only [putsFrom, Act.put, Nat.reduceAdd, List.setIfInBounds_toArray, List.set_cons_zero, List.set_cons_succ, f4, f12] at hK ⊢
          clear hF
          go_simp
          exact hK.out _ _ (Alters.refl _) rfl
        · intro u W K hS hF hK
          have f4 : u 4 = .bool true := hF 4 (by kernel_rfl)
          have f13 : u 13 = .pointer (some ⟨b, o + i * 2, none⟩) := hF 13 (by kernel_rfl)
          simp only [putsFrom, Act.put, Nat.reduceAdd, List.setIfInBounds_toArray, List.set_cons_zero, List.set_cons_succ, f4, f13] at hK ⊢
          clear hF
          have x0 := hS.at (b) (o + i * 2) (.int .i64 r.p.tm) (by simp)
          go_simp
          exact hK.out _ _ (Alters.refl _) rfl
        · intro u W K hS hF hK
          have f4 : u 4 = .bool true := hF 4 (by kernel_rfl)
          have f9 : u 9 = .int .i64 q.p.tm := hF 9 (by kernel_rfl)
          have f14 : u 14 = .int .i64 r.p.tm := hF 14 (by kernel_rfl)
          simp only [putsFrom, Act.put, Nat.reduceAdd, List.setIfInBounds_toArray, List.set_cons_zero, List.set_cons_succ, f4, f9, f14] at hK ⊢
          clear hF
          go_simp
          exact hK.out _ _ (Alters.refl _) rfl
        · intro u W K hS hF hK
          have f4 : u 4 = .bool true := hF 4 (by kernel_rfl)
          simp only [putsFrom, Act.put, Nat.reduceAdd, List.setIfInBounds_toArray, List.set_cons_zero, List.set_cons_succ, f4] at hK ⊢
          clear hF
          go_simp
          exact hK.out _ _ (Alters.refl _) rfl
        · intro u W K hS hF hK
          have f4 : u 4 = .bool true := hF 4 (by kernel_rfl)
          have f16 : u 16 = .pointer (some ⟨w.heap.size, 1, none⟩) := hF 16 (by kernel_rfl)
          simp only [putsFrom, Act.put, Nat.reduceAdd, List.setIfInBounds_toArray, List.set_cons_zero, List.set_cons_succ, f4, f16] at hK ⊢
          clear hF
          have x0 := hS.at (w.heap.size) (1) (.int .i64 hi) (by simp)
          go_simp
          exact hK.out _ _ (Alters.refl _) rfl
        · intro u W K hS hF hK
          have f4 : u 4 = .bool true := hF 4 (by kernel_rfl)
          have f15 : u 15 = .int .i64 (q.p.tm - r.p.tm) := hF 15 (by kernel_rfl)
          have f17 : u 17 = .int .i64 hi := hF 17 (by kernel_rfl)
          simp only [putsFrom, Act.put, Nat.reduceAdd, List.setIfInBounds_toArray, List.set_cons_zero, List.set_cons_succ, f4, f15, f17] at hK ⊢
          clear hF
          go_simp
          exact hK.out _ _ (Alters.refl _) rfl
        · intro u W hS hF
          have f4 : u 4 = .bool true := hF 4 (by simp)
          have f18 : u 18 = .bool false := hF 18 (by simp)
          simp only [putsFrom, Act.put, Nat.reduceAdd, List.setIfInBounds_toArray, List.set_cons_zero, List.set_cons_succ, f4, f18]
          clear hF f4 f18
          have HS := Go.Lib.hid hS
          clear hS
          go_simp
          go_wp2_with fail
          go_ret
          exact ⟨by rw [HP.out]; rfl, HQ1.out.trans HS.out.quiet⟩
      · have g2 : decide (q.p.tm - r.p.tm ≤ hi) = true := by simpa using hh
        clear hh
        go_upto_region 2 with (fail)
        refine wp_region_wants (by kernel_rfl) (by kernel_rfl) (by kernel_rfl) (by kernel_rfl) (CellsAt w1 [(⟨b, o + j * 2, none⟩, .int .i64 q.p.tm), (⟨b, o + i * 2, none⟩, .int .i64 r.p.tm), (⟨w.heap.size, 0, none⟩, .int .i64 lo), (⟨w.heap.size, 1, none⟩, .int .i64 hi), (⟨rb1, ro1 + j, none⟩, .bool x1)]) (fun _ _ hq h => h.keep hq) [Want.is (.int .i64 (j : Int)), Want.is (.slice (some ⟨b, o, none⟩) L.length cap), Want.is (.int .i64 (L.length : Int)), Want.is (.bool true), Want.is (.bool true), Want.is (.slice (some ⟨b, o, none⟩) L.length cap), Want.is (.int .i64 (j : Int)), Want.is (.pointer (some ⟨b, o + j * 2, none⟩)), Want.is (.pointer (some ⟨b, o + j * 2, none⟩)), Want.is (.int .i64 q.p.tm), Want.is (.slice (some ⟨b, o, none⟩) L.length cap), Want.is (.int .i64 (i : Int)), Want.is (.pointer (some ⟨b, o + i * 2, none⟩)), Want.is (.pointer (some ⟨b, o + i * 2, none⟩)), Want.is (.int .i64 r.p.tm), Want.is (.int .i64 (q.p.tm - r.p.tm)), Want.is (.pointer (some ⟨w.heap.size, 1, none⟩)), Want.is (.int .i64 hi), Want.is (.bool true)] ((CellsAt.cons (a := ⟨b, o + j * 2, none⟩) (v := .int .i64 q.p.tm) (e0) (CellsAt.cons (a := ⟨b, o + i * 2, none⟩) (v := .int .i64 r.p.tm) (d0) (CellsAt.cons (a := ⟨w.heap.size, 0, none⟩) (v := .int .i64 lo) (c0) (CellsAt.cons (a := ⟨w.heap.size, 1, none⟩) (v := .int .i64 hi) (c1) (CellsAt.cons (a := ⟨rb1, ro1 + j, none⟩) (v := .bool x1) (f1) (CellsAt.nil (HQ.out))))))).keep ((Alters.refl _).drew)) (by decide) ?_
        refine Steps.cons ?_ (Steps.cons ?_ (Steps.cons ?_ (Steps.cons ?_ (Steps.cons ?_ (Steps.cons ?_ (Steps.cons ?_ (Steps.cons ?_ (Steps.cons ?_ (Steps.cons ?_ (Steps.cons ?_ (Steps.cons ?_ (Steps.cons ?_ (Steps.cons ?_ (Steps.cons ?_ (Steps.cons ?_ (Steps.cons ?_ (Steps.cons ?_ (Steps.cons ?_ (Steps.last ?_)))))))))))))))))))
        · intro u W K hS hF hK
          simp only [putsFrom, Act.put, Nat.reduceAdd, List.setIfInBounds_toArray, List.set_cons_zero, List.set_cons_succ] at hK ⊢
          clear hF
          go_simp
          exact hK.out _ _ (Alters.refl _) rfl
        · intro u W K hS hF hK
          simp only [putsFrom, Act.put, Nat.reduceAdd, List.setIfInBounds_toArray, List.set_cons_zero, List.set_cons_succ] at hK ⊢
          clear hF
          go_simp
          exact hK.out _ _ (Alters.refl _) rfl
        · intro u W K hS hF hK
          have f1 : u 1 = .slice (some ⟨b, o, none⟩) L.length cap := hF 1 (by kernel_rfl)
          simp only [putsFrom, Act.put, Nat.reduceAdd, List.setIfInBounds_toArray, List.set_cons_zero, List.set_cons_succ, f1] at hK ⊢
          clear hF
          go_simp
          exact hK.out _ _ (Alters.refl _) rfl
        · intro u W K hS hF hK
          have f0 : u 0 = .int .i64 (j : Int) := hF 0 (by kernel_rfl)
          have f2 : u 2 = .int .i64 (L.length : Int) := hF 2 (by kernel_rfl)
          simp only [putsFrom, Act.put, Nat.reduceAdd, List.setIfInBounds_toArray, List.set_cons_zero, List.set_cons_succ, f0, f2] at hK ⊢
          clear hF
          go_simp
          exact hK.out _ _ (Alters.refl _) rfl
        · intro u W K hS hF hK
          have f3 : u 3 = .bool true := hF 3 (by kernel_rfl)
          simp only [putsFrom, Act.put, Nat.reduceAdd, List.setIfInBounds_toArray, List.set_cons_zero, List.set_cons_succ, f3] at hK ⊢
          clear hF
          go_simp
          exact hK.out _ _ (Alters.refl _) rfl
        · intro u W K hS hF hK
          have f4 : u 4 = .bool true := hF 4 (by kernel_rfl)
          simp only [putsFrom, Act.put, Nat.reduceAdd, List.setIfInBounds_toArray, List.set_cons_zero, List.set_cons_succ, f4] at hK ⊢
          clear hF
          go_simp
          exact hK.out _ _ (Alters.refl _) rfl
        · intro u W K hS hF hK
          have f4 : u 4 = .bool true := hF 4 (by kernel_rfl)
          simp only [putsFrom, Act.put, Nat.reduceAdd, List.setIfInBounds_toArray, List.set_cons_zero, List.set_cons_succ, f4] at hK ⊢
          clear hF
          go_simp
          exact hK.out _ _ (Alters.refl _) rfl
        · intro u W K hS hF hK
          have f4 : u 4 = .bool true := hF 4 (by kernel_rfl)
          have f5 : u 5 = .slice (some ⟨b, o, none⟩) L.length cap := hF 5 (by kernel_rfl)
          have f6 : u 6 = .int .i64 (j : Int) := hF 6 (by kernel_rfl)
          simp only [putsFrom, Act.put, Nat.reduceAdd, List.setIfInBounds_toArray, List.set_cons_zero, List.set_cons_succ, f4, f5, f6] at hK ⊢
          clear hF
          go_simp
          exact hK.out _ _ (Alters.refl _) rfl
        · intro u W K hS hF hK
          have f4 : u 4 = .bool true := hF 4 (by kernel_rfl)
          have f7 : u 7 = .pointer (some ⟨b, o + j * 2, none⟩) := hF 7 (by kernel_rfl)
          simp only [putsFrom, Act.put, Nat.reduceAdd, List.setIfInBounds_toArray, List.set_cons_zero, List.set_cons_succ, f4, f7] at hK ⊢
          clear hF
          go_simp
          exact hK.out _ _ (Alters.refl _) rfl
        · intro u W K hS hF hK
          have f4 : u 4 = .bool true := hF 4 (by kernel_rfl)
          have f8 : u 8 = .pointer (some ⟨b, o + j * 2, none⟩) := hF 8 (by kernel_rfl)
          simp only [putsFrom, Act.put, Nat.reduceAdd, List.setIfInBounds_toArray, List.set_cons_zero, List.set_cons_succ, f4, f8] at hK ⊢
          clear hF
          have x0 := hS.at (b) (o + j * 2) (.int .i64 q.p.tm) (by simp)
          go_simp
          exact hK.out _ _ (Alters.refl _) rfl
        · intro u W K hS hF hK
          have f4 : u 4 = .bool true := hF 4 (by kernel_rfl)
          simp only [putsFrom, Act.put, Nat.reduceAdd, List.setIfInBounds_toArray, List.set_cons_zero, List.set_cons_succ, f4] at hK ⊢
          clear hF
          go_simp
          exact hK.out _ _ (Alters.refl _) rfl
        · intro u W K hS hF hK
          have f4 : u 4 = .bool true := hF 4 (by kernel_rfl)
          simp only [putsFrom, Act.put, Nat.reduceAdd, List.setIfInBounds_toArray, List.set_cons_zero, List.set_cons_succ, f4] at hK ⊢
          clear hF
          go_simp
          exact hK.out _ _ (Alters.refl _) rfl
        · intro u W K hS hF hK
          have f4 : u 4 = .bool true := hF 4 (by kernel_rfl)
          have f10 : u 10 = .slice (some ⟨b, o, none⟩) L.length cap := hF 10 (by kernel_rfl)
          have f11 : u 11 = .int .i64 (i : Int) := hF 11 (by kernel_rfl)
          simp only [putsFrom, Act.put, Nat.reduceAdd, List.setIfInBounds_toArray, List.set_cons_zero, List.set_cons_succ, f4, f10, f11] at hK ⊢
          clear hF
          go_simp
          exact hK.out _ _ (Alters.refl _) rfl
        · intro u W K hS hF hK
          have f4 : u 4 = .bool true := hF 4 (by kernel_rfl)
          have f12 : u 12 = .pointer (some ⟨b, o + i * 2, none⟩) := hF 12 (by kernel_rfl)
          simp only [putsFrom, Act.put, Nat.reduceAdd, List.setIfInBounds_toArray, List.set_cons_zero, List.set_cons_succ, f4, f12] at hK ⊢
          clear hF
          go_simp
          exact hK.out _ _ (Alters.refl _) rfl
        · intro u W K hS hF hK
          have f4 : u 4 = .bool true := hF 4 (by kernel_rfl)
          have f13 : u 13 = .pointer (some ⟨b, o + i * 2, none⟩) := hF 13 (by kernel_rfl)
          simp only [putsFrom, Act.put, Nat.reduceAdd, List.setIfInBounds_toArray, List.set_cons_zero, List.set_cons_succ, f4, f13] at hK ⊢
          clear hF
          have x0 := hS.at (b) (o + i * 2) (.int .i64 r.p.tm) (by simp)
          go_simp
          exact hK.out _ _ (Alters.refl _) rfl
        · intro u W K hS hF hK
          have f4 : u 4 = .bool true := hF 4 (by kernel_rfl)
          have f9 : u 9 = .int .i64 q.p.tm := hF 9 (by kernel_rfl)
          have f14 : u 14 = .int .i64 r.p.tm := hF 14 (by kernel_rfl)
          simp only [putsFrom, Act.put, Nat.reduceAdd, List.setIfInBounds_toArray, List.set_cons_zero, List.set_cons_succ, f4, f9, f14] at hK ⊢
          clear hF
          go_simp
          exact hK.out _ _ (Alters.refl _) rfl
        · intro u W K hS hF hK
          have f4 : u 4 = .bool true := hF 4 (by kernel_rfl)
          simp only [putsFrom, Act.put, Nat.reduceAdd, List.setIfInBounds_toArray, List.set_cons_zero, List.set_cons_succ, f4] at hK ⊢
          clear hF
          go_simp
          exact hK.out _ _ (Alters.refl _) rfl
        · intro u W K hS hF hK
          have f4 : u 4 = .bool true := hF 4 (by kernel_rfl)
          have f16 : u 16 = .pointer (some ⟨w.heap.size, 1, none⟩) := hF 16 (by kernel_rfl)
          simp only [putsFrom, Act.put, Nat.reduceAdd, List.setIfInBounds_toArray, List.set_cons_zero, List.set_cons_succ, f4, f16] at hK ⊢
          clear hF
          have x0 := hS.at (w.heap.size) (1) (.int .i64 hi) (by simp)
          go_simp
          exact hK.out _ _ (Alters.refl _) rfl
        · intro u W K hS hF hK
          have f4 : u 4 = .bool true := hF 4 (by kernel_rfl)
          have f15 : u 15 = .int .i64 (q.p.tm - r.p.tm) := hF 15 (by kernel_rfl)
          have f17 : u 17 = .int .i64 hi := hF 17 (by kernel_rfl)
          simp only [putsFrom, Act.put, Nat.reduceAdd, List.setIfInBounds_toArray, List.set_cons_zero, List.set_cons_succ, f4, f15, f17] at hK ⊢
          clear hF
          go_simp
          exact hK.out _ _ (Alters.refl _) rfl
        · intro u W hS hF
          have f4 : u 4 = .bool true := hF 4 (by simp)
          have f18 : u 18 = .bool true := hF 18 (by simp)
          simp only [putsFrom, Act.put, Nat.reduceAdd, List.setIfInBounds_toArray, List.set_cons_zero, List.set_cons_succ, f4, f18]
          clear hF f4 f18
          have HS := Go.Lib.hid hS
          clear hS
          go_simp
          go_upto_region 4 with (fail)
          cases hx : (x1 == v)
          · have HP0 := Go.Lib.hid hx
            refine wp_region_wants (by kernel_rfl) (by kernel_rfl) (by kernel_rfl) (by kernel_rfl) (CellsAt w1 [(⟨b, o + j * 2, none⟩, .int .i64 q.p.tm), (⟨b, o + i * 2, none⟩, .int .i64 r.p.tm), (⟨w.heap.size, 0, none⟩, .int .i64 lo), (⟨w.heap.size, 1, none⟩, .int .i64 hi), (⟨rb1, ro1 + j, none⟩, .bool x1)]) (fun _ _ hq h => h.keep hq) [Want.is (.slice (some ⟨rb1, ro1, none⟩) l1.length rc1), Want.is (.int .i64 (j : Int)), Want.is (.pointer (some ⟨rb1, ro1 + j, none⟩)), Want.is (.bool x1), Want.is (.bool v), Want.is (.bool false), Want.is (.bool false), Want.is (undef), Want.is (undef), Want.is (undef), Want.is (undef), Want.is (undef), Want.is (undef), Want.is (undef), Want.is (undef), Want.is (undef), Want.is (undef), Want.is (undef), Want.is (undef), Want.is (undef)] (HS.out.keep ((Alters.refl _).drew)) (by decide) ?_
            refine Steps.cons ?_ (Steps.cons ?_ (Steps.cons ?_ (Steps.cons ?_ (Steps.cons ?_ (Steps.cons ?_ (Steps.cons ?_ (Steps.cons ?_ (Steps.cons ?_ (Steps.cons ?_ (Steps.cons ?_ (Steps.cons ?_ (Steps.cons ?_ (Steps.cons ?_ (Steps.cons ?_ (Steps.cons ?_ (Steps.cons ?_ (Steps.cons ?_ (Steps.cons ?_ (Steps.cons ?_ (Steps.last ?_))))))))))))))))))))
            · intro u W K hS hF hK
              simp only [putsFrom, Act.put, Nat.reduceAdd, List.setIfInBounds_toArray, List.set_cons_zero, List.set_cons_succ] at hK ⊢
              clear hF
              go_simp
              exact hK.out _ _ (Alters.refl _) rfl
            · intro u W K hS hF hK
              simp only [putsFrom, Act.put, Nat.reduceAdd, List.setIfInBounds_toArray, List.set_cons_zero, List.set_cons_succ] at hK ⊢
              clear hF
              go_simp
              exact hK.out _ _ (Alters.refl _) rfl
            · intro u W K hS hF hK
              have f0 : u 0 = .slice (some ⟨rb1, ro1, none⟩) l1.length rc1 := hF 0 (by kernel_rfl)
              have f1 : u 1 = .int .i64 (j : Int) := hF 1 (by kernel_rfl)
              simp only [putsFrom, Act.put, Nat.reduceAdd, List.setIfInBounds_toArray, List.set_cons_zero, List.set_cons_succ, f0, f1] at hK ⊢
              clear hF
              go_simp
              exact hK.out _ _ (Alters.refl _) rfl
            · intro u W K hS hF hK
              have f2 : u 2 = .pointer (some ⟨rb1, ro1 + j, none⟩) := hF 2 (by kernel_rfl)
              simp only [putsFrom, Act.put, Nat.reduceAdd, List.setIfInBounds_toArray, List.set_cons_zero, List.set_cons_succ, f2] at hK ⊢
              clear hF
              have x0 := hS.at (rb1) (ro1 + j) (.bool x1) (by simp)
              go_simp
              exact hK.out _ _ (Alters.refl _) rfl
            · intro u W K hS hF hK
              simp only [putsFrom, Act.put, Nat.reduceAdd, List.setIfInBounds_toArray, List.set_cons_zero, List.set_cons_succ] at hK ⊢
              clear hF
              go_simp
              exact hK.out _ _ (Alters.refl _) rfl
            · intro u W K hS hF hK
              have f3 : u 3 = .bool x1 := hF 3 (by kernel_rfl)
              have f4 : u 4 = .bool v := hF 4 (by kernel_rfl)
              simp only [putsFrom, Act.put, Nat.reduceAdd, List.setIfInBounds_toArray, List.set_cons_zero, List.set_cons_succ, f3, f4] at hK ⊢
              clear hF
              go_simp
              exact hK.out _ _ (Alters.refl _) rfl
            · intro u W K hS hF hK
              have f5 : u 5 = .bool false := hF 5 (by kernel_rfl)
              simp only [putsFrom, Act.put, Nat.reduceAdd, List.setIfInBounds_toArray, List.set_cons_zero, List.set_cons_succ, f5] at hK ⊢
              clear hF
              go_simp
              exact hK.out _ _ (Alters.refl _) rfl
            · intro u W K hS hF hK
              have f6 : u 6 = .bool false := hF 6 (by kernel_rfl)
              simp only [putsFrom, Act.put, Nat.reduceAdd, List.setIfInBounds_toArray, List.set_cons_zero, List.set_cons_succ, f6] at hK ⊢
              clear hF
              go_simp
              exact hK.out _ _ (Alters.refl _) rfl
            · intro u W K hS hF hK
              have f6 : u 6 = .bool false := hF 6 (by kernel_rfl)
              simp only [putsFrom, Act.put, Nat.reduceAdd, List.setIfInBounds_toArray, List.set_cons_zero, List.set_cons_succ, f6] at hK ⊢
              clear hF
              go_simp
              exact hK.out _ _ (Alters.refl _) rfl
            · intro u W K hS hF hK
              have f6 : u 6 = .bool false := hF 6 (by kernel_rfl)
              simp only [putsFrom, Act.put, Nat.reduceAdd, List.setIfInBounds_toArray, List.set_cons_zero, List.set_cons_succ, f6] at hK ⊢
              clear hF
              go_simp
              exact hK.out _ _ (Alters.refl _) rfl
            · intro u W K hS hF hK
              have f6 : u 6 = .bool false := hF 6 (by kernel_rfl)
              have f8 : u 8 = undef := hF 8 (by kernel_rfl)
              have f9 : u 9 = undef := hF 9 (by kernel_rfl)
              simp only [putsFrom, Act.put, Nat.reduceAdd, List.setIfInBounds_toArray, List.set_cons_zero, List.set_cons_succ, f6, f8, f9] at hK ⊢
              clear hF
              go_simp
              exact hK.out _ _ (Alters.refl _) rfl
            · intro u W K hS hF hK
              have f6 : u 6 = .bool false := hF 6 (by kernel_rfl)
              have f10 : u 10 = undef := hF 10 (by kernel_rfl)
              simp only [putsFrom, Act.put, Nat.reduceAdd, List.setIfInBounds_toArray, List.set_cons_zero, List.set_cons_succ, f6, f10] at hK ⊢
              clear hF
              go_simp
              exact hK.out _ _ (Alters.refl _) rfl
            · intro u W K hS hF hK
              have f6 : u 6 = .bool false := hF 6 (by kernel_rfl)
              have f11 : u 11 = undef := hF 11 (by kernel_rfl)
              simp only [putsFrom, Act.put, Nat.reduceAdd, List.setIfInBounds_toArray, List.set_cons_zero, List.set_cons_succ, f6, f11] at hK ⊢
              clear hF
              go_simp
              exact hK.out _ _ (Alters.refl _) rfl
            · intro u W K hS hF hK
              have f6 : u 6 = .bool false := hF 6 (by kernel_rfl)
              simp only [putsFrom, Act.put, Nat.reduceAdd, List.setIfInBounds_toArray, List.set_cons_zero, List.set_cons_succ, f6] at hK ⊢
              clear hF
              go_simp
              exact hK.out _ _ (Alters.refl _) rfl
            · intro u W K hS hF hK
              have f6 : u 6 = .bool false := hF 6 (by kernel_rfl)
              simp only [putsFrom, Act.put, Nat.reduceAdd, List.setIfInBounds_toArray, List.set_cons_zero, List.set_cons_succ, f6] at hK ⊢
              clear hF
              go_simp
              exact hK.out _ _ (Alters.refl _) rfl
            · intro u W K hS hF hK
              have f6 : u 6 = .bool false := hF 6 (by kernel_rfl)
              have f13 : u 13 = undef := hF 13 (by kernel_rfl)
              have f14 : u 14 = undef := hF 14 (by kernel_rfl)
              simp only [putsFrom, Act.put, Nat.reduceAdd, List.setIfInBounds_toArray, List.set_cons_zero, List.set_cons_succ, f6, f13, f14] at hK ⊢
              clear hF
              go_simp
              exact hK.out _ _ (Alters.refl _) rfl
            · intro u W K hS hF hK
              have f6 : u 6 = .bool false := hF 6 (by kernel_rfl)
              have f15 : u 15 = undef := hF 15 (by kernel_rfl)
              simp only [putsFrom, Act.put, Nat.reduceAdd, List.setIfInBounds_toArray, List.set_cons_zero, List.set_cons_succ, f6, f15] at hK ⊢
              clear hF
              go_simp
              exact hK.out _ _ (Alters.refl _) rfl
            · intro u W K hS hF hK
              have f6 : u 6 = .bool false := hF 6 (by kernel_rfl)
              have f16 : u 16 = undef := hF 16 (by kernel_rfl)
              simp only [putsFrom, Act.put, Nat.reduceAdd, List.setIfInBounds_toArray, List.set_cons_zero, List.set_cons_succ, f6, f16] at hK ⊢
              clear hF
              go_simp
              exact hK.out _ _ (Alters.refl _) rfl
            · intro u W K hS hF hK
              have f6 : u 6 = .bool false := hF 6 (by kernel_rfl)
              have f12 : u 12 = undef := hF 12 (by kernel_rfl)
              have f17 : u 17 = undef := hF 17 (by kernel_rfl)
              simp only [putsFrom, Act.put, Nat.reduceAdd, List.setIfInBounds_toArray, List.set_cons_zero, List.set_cons_succ, f6, f12, f17] at hK ⊢
              clear hF
              go_simp
              exact hK.out _ _ (Alters.refl _) rfl
            · intro u W K hS hF hK
              have f6 : u 6 = .bool false := hF 6 (by kernel_rfl)
              have f7 : u 7 = undef := hF 7 (by kernel_rfl)
              have f18 : u 18 = undef := hF 18 (by kernel_rfl)
              simp only [putsFrom, Act.put, Nat.reduceAdd, List.setIfInBounds_toArray, List.set_cons_zero, List.set_cons_succ, f6, f7, f18] at hK ⊢
              clear hF
              go_simp
              exact hK.out _ _ (Alters.refl _) rfl
            · intro u W hS hF
              have f6 : u 6 = .bool false := hF 6 (by simp)
              have f19 : u 19 = undef := hF 19 (by simp)
              simp only [putsFrom, Act.put, Nat.reduceAdd, List.setIfInBounds_toArray, List.set_cons_zero, List.set_cons_succ, f6, f19]
              clear hF f6 f19
              have HS := Go.Lib.hid hS
              clear hS
              go_simp
              go_wp2_with fail
              go_roundw
              case rel => exact ⟨j + 1, by omega, by omega, by go_num, step_no HE.out (fun _ => by show (rowT l1 j == v) = false; rw [HX1.out]; exact HP0.out), HS.out.quiet⟩
              case measure => simp [intOf]; omega
          · have HP0 := Go.Lib.hid hx
            cases hh : (decide (lo ≤ q.p.tm - r.p.tm) && decide (q.p.tm - r.p.tm ≤ hi))
            · have HH : Hid ((decide (lo ≤ q.p.tm - r.p.tm) && decide (q.p.tm - r.p.tm ≤ hi)) = false) := Go.Lib.hid hh
              clear hh
              refine wp_region_wants (by kernel_rfl) (by kernel_rfl) (by kernel_rfl) (by kernel_rfl) (CellsAt w1 [(⟨b, o + j * 2, none⟩, .int .i64 q.p.tm), (⟨b, o + i * 2, none⟩, .int .i64 r.p.tm), (⟨w.heap.size, 0, none⟩, .int .i64 lo), (⟨w.heap.size, 1, none⟩, .int .i64 hi), (⟨rb1, ro1 + j, none⟩, .bool x1)]) (fun _ _ hq h => h.keep hq) [Want.is (.slice (some ⟨rb1, ro1, none⟩) l1.length rc1), Want.is (.int .i64 (j : Int)), Want.is (.pointer (some ⟨rb1, ro1 + j, none⟩)), Want.is (.bool x1), Want.is (.bool v), Want.is (.bool true), Want.is (.bool true), Want.is (.agg #[.int .i64 lo, .int .i64 hi]), Want.is (.slice (some ⟨b, o, none⟩) L.length cap), Want.is (.int .i64 (j : Int)), Want.is (.pointer (some ⟨b, o + j * 2, none⟩)), Want.is (.pointer (some ⟨b, o + j * 2, none⟩)), Want.is (.int .i64 q.p.tm), Want.is (.slice (some ⟨b, o, none⟩) L.length cap), Want.is (.int .i64 (i : Int)), Want.is (.pointer (some ⟨b, o + i * 2, none⟩)), Want.is (.pointer (some ⟨b, o + i * 2, none⟩)), Want.is (.int .i64 r.p.tm), Want.is (.int .i64 (q.p.tm - r.p.tm)), Want.is (.bool false)] (HS.out.keep ((Alters.refl _).drew)) (by decide) ?_
              refine Steps.cons ?_ (Steps.cons ?_ (Steps.cons ?_ (Steps.cons ?_ (Steps.cons ?_ (Steps.cons ?_ (Steps.cons ?_ (Steps.cons ?_ (Steps.cons ?_ (Steps.cons ?_ (Steps.cons ?_ (Steps.cons ?_ (Steps.cons ?_ (Steps.cons ?_ (Steps.cons ?_ (Steps.cons ?_ (Steps.cons ?_ (Steps.cons ?_ (Steps.cons ?_ (Steps.cons ?_ (Steps.last ?_))))))))))))))))))))
              · intro u W K hS hF hK
                simp only [putsFrom, Act.put, Nat.reduceAdd, List.setIfInBounds_toArray, List.set_cons_zero, List.set_cons_succ] at hK ⊢
                clear hF
                go_simp
                exact hK.out _ _ (Alters.refl _) rfl
              · intro u W K hS hF hK
                simp only [putsFrom, Act.put, Nat.reduceAdd, List.setIfInBounds_toArray, List.set_cons_zero, List.set_cons_succ] at hK ⊢
                clear hF
                go_simp
                exact hK.out _ _ (Alters.refl _) rfl
              · intro u W K hS hF hK
                have f0 : u 0 = .slice (some ⟨rb1, ro1, none⟩) l1.length rc1 := hF 0 (by kernel_rfl)
                have f1 : u 1 = .int .i64 (j : Int) := hF 1 (by kernel_rfl)
                simp only [putsFrom, Act.put, Nat.reduceAdd, List.setIfInBounds_toArray, List.set_cons_zero, List.set_cons_succ, f0, f1] at hK ⊢
                clear hF
                go_simp
                exact hK.out _ _ (Alters.refl _) rfl
              · intro u W K hS hF hK
                have f2 : u 2 = .pointer (some ⟨rb1, ro1 + j, none⟩) := hF 2 (by kernel_rfl)
                simp only [putsFrom, Act.put, Nat.reduceAdd, List.setIfInBounds_toArray, List.set_cons_zero, List.set_cons_succ, f2] at hK ⊢
                clear hF
                have x0 := hS.at (rb1) (ro1 + j) (.bool x1) (by simp)
                go_simp
                exact hK.out _ _ (Alters.refl _) rfl
              · intro u W K hS hF hK
                simp only [putsFrom, Act.put, Nat.reduceAdd, List.setIfInBounds_toArray, List.set_cons_zero, List.set_cons_succ] at hK ⊢
                clear hF
                go_simp
                exact hK.out _ _ (Alters.refl _) rfl
              · intro u W K hS hF hK
                have f3 : u 3 = .bool x1 := hF 3 (by kernel_rfl)
                have f4 : u 4 = .bool v := hF 4 (by kernel_rfl)
                simp only [putsFrom, Act.put, Nat.reduceAdd, List.setIfInBounds_toArray, List.set_cons_zero, List.set_cons_succ, f3, f4] at hK ⊢
                clear hF
                go_simp
                exact hK.out _ _ (Alters.refl _) rfl
              · intro u W K hS hF hK
                have f5 : u 5 = .bool true := hF 5 (by kernel_rfl)
                simp only [putsFrom, Act.put, Nat.reduceAdd, List.setIfInBounds_toArray, List.set_cons_zero, List.set_cons_succ, f5] at hK ⊢
                clear hF
                go_simp
                exact hK.out _ _ (Alters.refl _) rfl
              · intro u W K hS hF hK
                have f6 : u 6 = .bool true := hF 6 (by kernel_rfl)
                simp only [putsFrom, Act.put, Nat.reduceAdd, List.setIfInBounds_toArray, List.set_cons_zero, List.set_cons_succ, f6] at hK ⊢
                clear hF
                have x0 := hS.at (w.heap.size) (0) (.int .i64 lo) (by simp)
                have x1 := hS.at (w.heap.size) (1) (.int .i64 hi) (by simp)
                go_simp
                exact hK.out _ _ (Alters.refl _) rfl
              · intro u W K hS hF hK
                have f6 : u 6 = .bool true := hF 6 (by kernel_rfl)
                simp only [putsFrom, Act.put, Nat.reduceAdd, List.setIfInBounds_toArray, List.set_cons_zero, List.set_cons_succ, f6] at hK ⊢
                clear hF
                go_simp
                exact hK.out _ _ (Alters.refl _) rfl
              · intro u W K hS hF hK
                have f6 : u 6 = .bool true := hF 6 (by kernel_rfl)
                simp only [putsFrom, Act.put, Nat.reduceAdd, List.setIfInBounds_toArray, List.set_cons_zero, List.set_cons_succ, f6] at hK ⊢
                clear hF
                go_simp
                exact hK.out _ _ (Alters.refl _) rfl
              · intro u W K hS hF hK
                have f6 : u 6 = .bool true := hF 6 (by kernel_rfl)
                have f8 : u 8 = .slice (some ⟨b, o, none⟩) L.length cap := hF 8 (by kernel_rfl)
                have f9 : u 9 = .int .i64 (j : Int) := hF 9 (by kernel_rfl)
                simp only [putsFrom, Act.put, Nat.reduceAdd, List.setIfInBounds_toArray, List.set_cons_zero, List.set_cons_succ, f6, f8, f9] at hK ⊢
                clear hF
                go_simp
                exact hK.out _ _ (Alters.refl _) rfl
              · intro u W K hS hF hK
                have f6 : u 6 = .bool true := hF 6 (by kernel_rfl)
                have f10 : u 10 = .pointer (some ⟨b, o + j * 2, none⟩) := hF 10 (by kernel_rfl)
                simp only [putsFrom, Act.put, Nat.reduceAdd, List.setIfInBounds_toArray, List.set_cons_zero, List.set_cons_succ, f6, f10] at hK ⊢
                clear hF
                go_simp
                exact hK.out _ _ (Alters.refl _) rfl
              · intro u W K hS hF hK
                have f6 : u 6 = .bool true := hF 6 (by kernel_rfl)
                have f11 : u 11 = .pointer (some ⟨b, o + j * 2, none⟩) := hF 11 (by kernel_rfl)
                simp only [putsFrom, Act.put, Nat.reduceAdd, List.setIfInBounds_toArray, List.set_cons_zero, List.set_cons_succ, f6, f11] at hK ⊢
                clear hF
                have x0 := hS.at (b) (o + j * 2) (.int .i64 q.p.tm) (by simp)
                go_simp
                exact hK.out _ _ (Alters.refl _) rfl
              · intro u W K hS hF hK
                have f6 : u 6 = .bool true := hF 6 (by kernel_rfl)
                simp only [putsFrom, Act.put, Nat.reduceAdd, List.setIfInBounds_toArray, List.set_cons_zero, List.set_cons_succ, f6] at hK ⊢
                clear hF
                go_simp
                exact hK.out _ _ (Alters.refl _) rfl
              · intro u W K hS hF hK
                have f6 : u 6 = .bool true := hF 6 (by kernel_rfl)
                simp only [putsFrom, Act.put, Nat.reduceAdd, List.setIfInBounds_toArray, List.set_cons_zero, List.set_cons_succ, f6] at hK ⊢
                clear hF
                go_simp
                exact hK.out _ _ (Alters.refl _) rfl
              · intro u W K hS hF hK
                have f6 : u 6 = .bool true := hF 6 (by kernel_rfl)
                have f13 : u 13 = .slice (some ⟨b, o, none⟩) L.length cap := hF 13 (by kernel_rfl)
                have f14 : u 14 = .int .i64 (i : Int) := hF 14 (by kernel_rfl)
                simp only [putsFrom, Act.put, Nat.reduceAdd, List.setIfInBounds_toArray, List.set_cons_zero, List.set_cons_succ, f6, f13, f14] at hK ⊢
                clear hF
                go_simp
                exact hK.out _ _ (Alters.refl _) rfl
              · intro u W K hS hF hK
                have f6 : u 6 = .bool true := hF 6 (by kernel_rfl)
                have f15 : u 15 = .pointer (some ⟨b, o + i * 2, none⟩) := hF 15 (by kernel_rfl)
                simp only [putsFrom, Act.put, Nat.reduceAdd, List.setIfInBounds_toArray, List.set_cons_zero, List.set_cons_succ, f6, f15] at hK ⊢
                clear hF
                go_simp
                exact hK.out _ _ (Alters.refl _) rfl
              · intro u W K hS hF hK
                have f6 : u 6 = .bool true := hF 6 (by kernel_rfl)
                have f16 : u 16 = .pointer (some ⟨b, o + i * 2, none⟩) := hF 16 (by kernel_rfl)
                simp only [putsFrom, Act.put, Nat.reduceAdd, List.setIfInBounds_toArray, List.set_cons_zero, List.set_cons_succ, f6, f16] at hK ⊢
                clear hF
                have x0 := hS.at (b) (o + i * 2) (.int .i64 r.p.tm) (by simp)
                go_simp
                exact hK.out _ _ (Alters.refl _) rfl
              · intro u W K hS hF hK
                have f6 : u 6 = .bool true := hF 6 (by kernel_rfl)
                have f12 : u 12 = .int .i64 q.p.tm := hF 12 (by kernel_rfl)
                have f17 : u 17 = .int .i64 r.p.tm := hF 17 (by kernel_rfl)
                simp only [putsFrom, Act.put, Nat.reduceAdd, List.setIfInBounds_toArray, List.set_cons_zero, List.set_cons_succ, f6, f12, f17] at hK ⊢
                clear hF
                go_simp
                exact hK.out _ _ (Alters.refl _) rfl
              · intro u W K hS hF hK
                have f6 : u 6 = .bool true := hF 6 (by kernel_rfl)
                have f7 : u 7 = .agg #[.int .i64 lo, .int .i64 hi] := hF 7 (by kernel_rfl)
                have f18 : u 18 = .int .i64 (q.p.tm - r.p.tm) := hF 18 (by kernel_rfl)
                simp only [putsFrom, Act.put, Nat.reduceAdd, List.setIfInBounds_toArray, List.set_cons_zero, List.set_cons_succ, f6, f7, f18] at hK ⊢
                clear hF
                go_simp
                refine (has_walk lo hi (q.p.tm - r.p.tm) W).mono ?_
                rintro e W2 ⟨rfl, hq⟩
                exact hK.out _ _ hq (show Value.bool (decide (lo ≤ q.p.tm - r.p.tm) && decide (q.p.tm - r.p.tm ≤ hi)) = .bool false by rw [HH.out])
              · intro u W hS hF
                have f6 : u 6 = .bool true := hF 6 (by simp)
                have f19 : u 19 = .bool false := hF 19 (by simp)
                simp only [putsFrom, Act.put, Nat.reduceAdd, List.setIfInBounds_toArray, List.set_cons_zero, List.set_cons_succ, f6, f19]
                clear hF f6 f19
                have HS := Go.Lib.hid hS
                clear hS
                go_simp
                go_wp2_with fail
                go_roundw
                case rel => exact ⟨j + 1, by omega, by omega, by go_num, step_no HE.out (fun h => by rw [HIN.out, HH.out] at h; cases h), HS.out.quiet⟩
                case measure => simp [intOf]; omega
            · have HH : Hid ((decide (lo ≤ q.p.tm - r.p.tm) && decide (q.p.tm - r.p.tm ≤ hi)) = true) := Go.Lib.hid hh
              clear hh
              have HP : Hid ((evT (pts L) lo hi (fun j => rowT l1 j == v) i) = true) := Go.Lib.hid (ev_hit (j := j) (by rw [pts_len]; exact hlt) (by rw [HIN.out, HH.out]) (by show (rowT l1 j == v) = true; rw [HX1.out]; exact HP0.out))
              refine wp_region_wants (by kernel_rfl) (by kernel_rfl) (by kernel_rfl) (by kernel_rfl) (CellsAt w1 [(⟨b, o + j * 2, none⟩, .int .i64 q.p.tm), (⟨b, o + i * 2, none⟩, .int .i64 r.p.tm), (⟨w.heap.size, 0, none⟩, .int .i64 lo), (⟨w.heap.size, 1, none⟩, .int .i64 hi), (⟨rb1, ro1 + j, none⟩, .bool x1)]) (fun _ _ hq h => h.keep hq) [Want.is (.slice (some ⟨rb1, ro1, none⟩) l1.length rc1), Want.is (.int .i64 (j : Int)), Want.is (.pointer (some ⟨rb1, ro1 + j, none⟩)), Want.is (.bool x1), Want.is (.bool v), Want.is (.bool true), Want.is (.bool true), Want.is (.agg #[.int .i64 lo, .int .i64 hi]), Want.is (.slice (some ⟨b, o, none⟩) L.length cap), Want.is (.int .i64 (j : Int)), Want.is (.pointer (some ⟨b, o + j * 2, none⟩)), Want.is (.pointer (some ⟨b, o + j * 2, none⟩)), Want.is (.int .i64 q.p.tm), Want.is (.slice (some ⟨b, o, none⟩) L.length cap), Want.is (.int .i64 (i : Int)), Want.is (.pointer (some ⟨b, o + i * 2, none⟩)), Want.is (.pointer (some ⟨b, o + i * 2, none⟩)), Want.is (.int .i64 r.p.tm), Want.is (.int .i64 (q.p.tm - r.p.tm)), Want.is (.bool true)] (HS.out.keep ((Alters.refl _).drew)) (by decide) ?_
              refine Steps.cons ?_ (Steps.cons ?_ (Steps.cons ?_ (Steps.cons ?_ (Steps.cons ?_ (Steps.cons ?_ (Steps.cons ?_ (Steps.cons ?_ (Steps.cons ?_ (Steps.cons ?_ (Steps.cons ?_ (Steps.cons ?_ (Steps.cons ?_ (Steps.cons ?_ (Steps.cons ?_ (Steps.cons ?_ (Steps.cons ?_ (Steps.cons ?_ (Steps.cons ?_ (Steps.cons ?_ (Steps.last ?_))))))))))))))))))))
              · intro u W K hS hF hK
                simp only [putsFrom, Act.put, Nat.reduceAdd, List.setIfInBounds_toArray, List.set_cons_zero, List.set_cons_succ] at hK ⊢
                clear hF
                go_simp
                exact hK.out _ _ (Alters.refl _) rfl
              · intro u W K hS hF hK
                simp only [putsFrom, Act.put, Nat.reduceAdd, List.setIfInBounds_toArray, List.set_cons_zero, List.set_cons_succ] at hK ⊢
                clear hF
                go_simp
                exact hK.out _ _ (Alters.refl _) rfl
              · intro u W K hS hF hK
                have f0 : u 0 = .slice (some ⟨rb1, ro1, none⟩) l1.length rc1 := hF 0 (by kernel_rfl)
                have f1 : u 1 = .int .i64 (j : Int) := hF 1 (by kernel_rfl)
                simp only [putsFrom, Act.put, Nat.reduceAdd, List.setIfInBounds_toArray, List.set_cons_zero, List.set_cons_succ, f0, f1] at hK ⊢
                clear hF
                go_simp
                exact hK.out _ _ (Alters.refl _) rfl
              · intro u W K hS hF hK
                have f2 : u 2 = .pointer (some ⟨rb1, ro1 + j, none⟩) := hF 2 (by kernel_rfl)
                simp only [putsFrom, Act.put, Nat.reduceAdd, List.setIfInBounds_toArray, List.set_cons_zero, List.set_cons_succ, f2] at hK ⊢
                clear hF
                have x0 := hS.at (rb1) (ro1 + j) (.bool x1) (by simp)
                go_simp
                exact hK.out _ _ (Alters.refl _) rfl
              · intro u W K hS hF hK
                simp only [putsFrom, Act.put, Nat.reduceAdd, List.setIfInBounds_toArray, List.set_cons_zero, List.set_cons_succ] at hK ⊢
                clear hF
                go_simp
                exact hK.out _ _ (Alters.refl _) rfl
              · intro u W K hS hF hK
                have f3 : u 3 = .bool x1 := hF 3 (by kernel_rfl)
                have f4 : u 4 = .bool v := hF 4 (by kernel_rfl)
                simp only [putsFrom, Act.put, Nat.reduceAdd, List.setIfInBounds_toArray, List.set_cons_zero, List.set_cons_succ, f3, f4] at hK ⊢
                clear hF
                go_simp
                exact hK.out _ _ (Alters.refl _) rfl
              · intro u W K hS hF hK
                have f5 : u 5 = .bool true := hF 5 (by kernel_rfl)
                simp only [putsFrom, Act.put, Nat.reduceAdd, List.setIfInBounds_toArray, List.set_cons_zero, List.set_cons_succ, f5] at hK ⊢
                clear hF
                go_simp
                exact hK.out _ _ (Alters.refl _) rfl
              · intro u W K hS hF hK
                have f6 : u 6 = .bool true := hF 6 (by kernel_rfl)
                simp only [putsFrom, Act.put, Nat.reduceAdd, List.setIfInBounds_toArray, List.set_cons_zero, List.set_cons_succ, f6] at hK ⊢
                clear hF
                have x0 := hS.at (w.heap.size) (0) (.int .i64 lo) (by simp)
                have x1 := hS.at (w.heap.size) (1) (.int .i64 hi) (by simp)
                go_simp
                exact hK.out _ _ (Alters.refl _) rfl
              · intro u W K hS hF hK
                have f6 : u 6 = .bool true := hF 6 (by kernel_rfl)
                simp only [putsFrom, Act.put, Nat.reduceAdd, List.setIfInBounds_toArray, List.set_cons_zero, List.set_cons_succ, f6] at hK ⊢
                clear hF
                go_simp
                exact hK.out _ _ (Alters.refl _) rfl
              · intro u W K hS hF hK
                have f6 : u 6 = .bool true := hF 6 (by kernel_rfl)
                simp only [putsFrom, Act.put, Nat.reduceAdd, List.setIfInBounds_toArray, List.set_cons_zero, List.set_cons_succ, f6] at hK ⊢
                clear hF
                go_simp
                exact hK.out _ _ (Alters.refl _) rfl
              · intro u W K hS hF hK
                have f6 : u 6 = .bool true := hF 6 (by kernel_rfl)
                have f8 : u 8 = .slice (some ⟨b, o, none⟩) L.length cap := hF 8 (by kernel_rfl)
                have f9 : u 9 = .int .i64 (j : Int) := hF 9 (by kernel_rfl)
                simp only [putsFrom, Act.put, Nat.reduceAdd, List.setIfInBounds_toArray, List.set_cons_zero, List.set_cons_succ, f6, f8, f9] at hK ⊢
                clear hF
                go_simp
                exact hK.out _ _ (Alters.refl _) rfl
              · intro u W K hS hF hK
                have f6 : u 6 = .bool true := hF 6 (by kernel_rfl)
                have f10 : u 10 = .pointer (some ⟨b, o + j * 2, none⟩) := hF 10 (by kernel_rfl)
                simp only [putsFrom, Act.put, Nat.reduceAdd, List.setIfInBounds_toArray, List.set_cons_zero, List.set_cons_succ, f6, f10] at hK ⊢
                clear hF
                go_simp
                exact hK.out _ _ (Alters.refl _) rfl
              · intro u W K hS hF hK
                have f6 : u 6 = .bool true := hF 6 (by kernel_rfl)
                have f11 : u 11 = .pointer (some ⟨b, o + j * 2, none⟩) := hF 11 (by kernel_rfl)
                simp only [putsFrom, Act.put, Nat.reduceAdd, List.setIfInBounds_toArray, List.set_cons_zero, List.set_cons_succ, f6, f11] at hK ⊢
                clear hF
                have x0 := hS.at (b) (o + j * 2) (.int .i64 q.p.tm) (by simp)
                go_simp
                exact hK.out _ _ (Alters.refl _) rfl
              · intro u W K hS hF hK
                have f6 : u 6 = .bool true := hF 6 (by kernel_rfl)
                simp only [putsFrom, Act.put, Nat.reduceAdd, List.setIfInBounds_toArray, List.set_cons_zero, List.set_cons_succ, f6] at hK ⊢
                clear hF
                go_simp
                exact hK.out _ _ (Alters.refl _) rfl
              · intro u W K hS hF hK
                have f6 : u 6 = .bool true := hF 6 (by kernel_rfl)
                simp only [putsFrom, Act.put, Nat.reduceAdd, List.setIfInBounds_toArray, List.set_cons_zero, List.set_cons_succ, f6] at hK ⊢
                clear hF
                go_simp
                exact hK.out _ _ (Alters.refl _) rfl
              · intro u W K hS hF hK
                have f6 : u 6 = .bool true := hF 6 (by kernel_rfl)
                have f13 : u 13 = .slice (some ⟨b, o, none⟩) L.length cap := hF 13 (by kernel_rfl)
                have f14 : u 14 = .int .i64 (i : Int) := hF 14 (by kernel_rfl)
                simp only [putsFrom, Act.put, Nat.reduceAdd, List.setIfInBounds_toArray, List.set_cons_zero, List.set_cons_succ, f6, f13, f14] at hK ⊢
                clear hF
                go_simp
                exact hK.out _ _ (Alters.refl _) rfl
              · intro u W K hS hF hK
                have f6 : u 6 = .bool true := hF 6 (by kernel_rfl)
                have f15 : u 15 = .pointer (some ⟨b, o + i * 2, none⟩) := hF 15 (by kernel_rfl)
                simp only [putsFrom, Act.put, Nat.reduceAdd, List.setIfInBounds_toArray, List.set_cons_zero, List.set_cons_succ, f6, f15] at hK ⊢
                clear hF
                go_simp
                exact hK.out _ _ (Alters.refl _) rfl
              · intro u W K hS hF hK
                have f6 : u 6 = .bool true := hF 6 (by kernel_rfl)
                have f16 : u 16 = .pointer (some ⟨b, o + i * 2, none⟩) := hF 16 (by kernel_rfl)
                simp only [putsFrom, Act.put, Nat.reduceAdd, List.setIfInBounds_toArray, List.set_cons_zero, List.set_cons_succ, f6, f16] at hK ⊢
                clear hF
                have x0 := hS.at (b) (o + i * 2) (.int .i64 r.p.tm) (by simp)
                go_simp
                exact hK.out _ _ (Alters.refl _) rfl
              · intro u W K hS hF hK
                have f6 : u 6 = .bool true := hF 6 (by kernel_rfl)
                have f12 : u 12 = .int .i64 q.p.tm := hF 12 (by kernel_rfl)
                have f17 : u 17 = .int .i64 r.p.tm := hF 17 (by kernel_rfl)
                simp only [putsFrom, Act.put, Nat.reduceAdd, List.setIfInBounds_toArray, List.set_cons_zero, List.set_cons_succ, f6, f12, f17] at hK ⊢
                clear hF
                go_simp
                exact hK.out _ _ (Alters.refl _) rfl
              · intro u W K hS hF hK
                have f6 : u 6 = .bool true := hF 6 (by kernel_rfl)
                have f7 : u 7 = .agg #[.int .i64 lo, .int .i64 hi] := hF 7 (by kernel_rfl)
                have f18 : u 18 = .int .i64 (q.p.tm - r.p.tm) := hF 18 (by kernel_rfl)
                simp only [putsFrom, Act.put, Nat.reduceAdd, List.setIfInBounds_toArray, List.set_cons_zero, List.set_cons_succ, f6, f7, f18] at hK ⊢
                clear hF
                go_simp
                refine (has_walk lo hi (q.p.tm - r.p.tm) W).mono ?_
                rintro e W2 ⟨rfl, hq⟩
                exact hK.out _ _ hq (show Value.bool (decide (lo ≤ q.p.tm - r.p.tm) && decide (q.p.tm - r.p.tm ≤ hi)) = .bool true by rw [HH.out])
              · intro u W hS hF
                have f6 : u 6 = .bool true := hF 6 (by simp)
                have f19 : u 19 = .bool true := hF 19 (by simp)
                simp only [putsFrom, Act.put, Nat.reduceAdd, List.setIfInBounds_toArray, List.set_cons_zero, List.set_cons_succ, f6, f19]
                clear hF f6 f19
                have HS := Go.Lib.hid hS
                clear hS
                go_simp
                go_wp2_with fail
                go_ret
                exact ⟨by rw [HP.out]; rfl, HQ1.out.trans HS.out.quiet⟩

end Go.Proofs.YtnpcakakjhiboaaDoor
