/- Whether an atom holds (165), and whether a point is in reach (166): the model's way. No condition. -/
import Derived.Test.YtnpcakakjhiboaaDoorLabel5
import Derived.Test.YtnpcakakjhiboaaDoorWord
import Derived.Test.YtnpcakakjhiboaaDoorMem
namespace Go.Proofs.YtnpcakakjhiboaaDoor
open Go Go.RowKit Go.Lo Go.WideShapes

set_option maxRecDepth 100000 in
set_option maxHeartbeats 2000000 in
theorem holds165_walk (a : Option Addr) (cap : Nat) (l : List (ByteArray × Int)) (nm : ByteArray) (cmp val : Int) (w : World) (hl : l.length ≤ maxLen) (hp : PrAt w a l) : Calls Tryd.prog 165 #[.slice a l.length cap, .agg #[.string nm, .int .i64 cmp, .int .i64 val]] w (Said (.bool (atomAt l nm cmp val)) w) := by
  have HP := Go.Lib.hid hp
  unfold maxLen at hl
  clear hp
  go_enter Tryd.func165, Tryd.ntmps165
  have hB := Blk.new w #[.string nm, .int .i64 cmp, .int .i64 val] 168
  have hq : Quiet w (w.alloc (.cells #[.string nm, .int .i64 cmp, .int .i64 val] 168)) := (Alters.refl _).alloc _
  go_wp2
  generalize w.alloc _ = w1 at *
  have HQ1 := Go.Lib.hid hq
  have HB1 := Go.Lib.hid hB
  clear hq hB
  go_loopw [5] (fun i wr => ∃ k : Nat, k ≤ l.length ∧ i = .int .i64 k ∧ atomFrom l nm cmp val k = atomAt l nm cmp val ∧ Quiet w1 wr) (fun i _ => l.length - (intOf i).toNat)
  case atStart => exact ⟨0, Nat.zero_le _, rfl, rfl, Alters.refl _⟩
  case round =>
    obtain ⟨k, hk, rfl, hE, hQ⟩ := hrel
    have HQ := Go.Lib.hid hQ
    by_cases hlt : k < l.length
    · have hne : l ≠ [] := fun h => by subst h; simp at hlt
      obtain ⟨b, o, rfl, hc⟩ := HP.out hne
      obtain ⟨q, hq⟩ : ∃ q, l[k]? = some q := ⟨_, List.getElem?_eq_getElem hlt⟩
      obtain ⟨d0, d1⟩ := hc k q hq
      replace d0 := hQ.cell (HQ1.out.cell d0 (by simp)) (by simp)
      replace d1 := hQ.cell (HQ1.out.cell d1 (by simp)) (by simp)
      have c0 := hQ.cell (HB1.out.cell 0 rfl) (by simp)
      have c1 := hQ.cell (HB1.out.cell 1 rfl) (by simp)
      have c2 := hQ.cell (HB1.out.cell 2 rfl) (by simp)
      have hs := atomFrom_step (nm := nm) (cmp := cmp) (val := val) hq
      have HE := Go.Lib.hid (hs.symm.trans hE)
      clear hE hQ hc hq hs
      cases hn : (q.1.toList == nm.toList)
      · rw [hn] at HE
        go_upto_region 4 with (fail)
        refine wp_region_wants (by kernel_rfl) (by kernel_rfl) (by kernel_rfl) (by kernel_rfl) (CellsAt w1 [(⟨b, o + k * 2, none⟩, .string q.1), (⟨b, o + k * 2 + 1, none⟩, .int .i64 q.2), (⟨w.heap.size, 0, none⟩, .string nm), (⟨w.heap.size, 1, none⟩, .int .i64 cmp), (⟨w.heap.size, 2, none⟩, .int .i64 val)]) (fun _ _ hq h => h.keep hq) [Want.is (.slice (some ⟨b, o, none⟩) l.length cap), Want.is (.int .i64 (k : Int)), Want.is (.pointer (some ⟨b, o + k * 2, none⟩)), Want.is (.pointer (some ⟨b, o + k * 2, none⟩)), Want.is (.string q.1), Want.is (.pointer (some ⟨w.heap.size, 0, none⟩)), Want.is (.string nm), Want.is (.bool false), Want.is (.bool false), Want.is (undef), Want.is (undef), Want.is (undef), Want.is (undef), Want.is (undef), Want.is (undef), Want.is (undef), Want.is (undef), Want.is (undef), Want.is (undef)] ((CellsAt.cons (a := ⟨b, o + k * 2, none⟩) (v := .string q.1) (d0) (CellsAt.cons (a := ⟨b, o + k * 2 + 1, none⟩) (v := .int .i64 q.2) (d1) (CellsAt.cons (a := ⟨w.heap.size, 0, none⟩) (v := .string nm) (c0) (CellsAt.cons (a := ⟨w.heap.size, 1, none⟩) (v := .int .i64 cmp) (c1) (CellsAt.cons (a := ⟨w.heap.size, 2, none⟩) (v := .int .i64 val) (c2) (CellsAt.nil (HQ.out))))))).keep ((Alters.refl _).drew)) (by decide) ?_
        refine Steps.cons ?_ (Steps.cons ?_ (Steps.cons ?_ (Steps.cons ?_ (Steps.cons ?_ (Steps.cons ?_ (Steps.cons ?_ (Steps.cons ?_ (Steps.cons ?_ (Steps.cons ?_ (Steps.cons ?_ (Steps.cons ?_ (Steps.cons ?_ (Steps.cons ?_ (Steps.cons ?_ (Steps.cons ?_ (Steps.cons ?_ (Steps.cons ?_ (Steps.cons ?_ (Steps.last ?_)))))))))))))))))))
        · intro u W K hS hF hK
          simp only [putsFrom, Act.put, Nat.reduceAdd, List.setIfInBounds_toArray, List.set_cons_zero, List.set_cons_succ] at hK ⊢
          clear hF
          go_simp
          exact hK.out _ _ (Alters.refl _) rfl
        · intro u W K hS hF hK
          simp only [putsFrom, Act.put, Nat.reduceAdd, List.setIfInBounds_toArray, List.set_cons_zero, List.set_cons_succ] at hK ⊢
          clear hF
          go_simp
          exact hK.out _ _ (Alters.refl _) rfl
        · intro u W K hS hF hK
          have f0 : u 0 = .slice (some ⟨b, o, none⟩) l.length cap := hF 0 (by kernel_rfl)
          have f1 : u 1 = .int .i64 (k : Int) := hF 1 (by kernel_rfl)
          simp only [putsFrom, Act.put, Nat.reduceAdd, List.setIfInBounds_toArray, List.set_cons_zero, List.set_cons_succ, f0, f1] at hK ⊢
          clear hF
          go_simp
          exact hK.out _ _ (Alters.refl _) rfl
        · intro u W K hS hF hK
          have f2 : u 2 = .pointer (some ⟨b, o + k * 2, none⟩) := hF 2 (by kernel_rfl)
          simp only [putsFrom, Act.put, Nat.reduceAdd, List.setIfInBounds_toArray, List.set_cons_zero, List.set_cons_succ, f2] at hK ⊢
          clear hF
          go_simp
          exact hK.out _ _ (Alters.refl _) rfl
        · intro u W K hS hF hK
          have f3 : u 3 = .pointer (some ⟨b, o + k * 2, none⟩) := hF 3 (by kernel_rfl)
          simp only [putsFrom, Act.put, Nat.reduceAdd, List.setIfInBounds_toArray, List.set_cons_zero, List.set_cons_succ, f3] at hK ⊢
          clear hF
          have x0 := hS.at (b) (o + k * 2) (.string q.1) (by simp)
          go_simp
          exact hK.out _ _ (Alters.refl _) rfl
        · intro u W K hS hF hK
          simp only [putsFrom, Act.put, Nat.reduceAdd, List.setIfInBounds_toArray, List.set_cons_zero, List.set_cons_succ] at hK ⊢
          clear hF
          go_simp
          exact hK.out _ _ (Alters.refl _) rfl
        · intro u W K hS hF hK
          have f5 : u 5 = .pointer (some ⟨w.heap.size, 0, none⟩) := hF 5 (by kernel_rfl)
          simp only [putsFrom, Act.put, Nat.reduceAdd, List.setIfInBounds_toArray, List.set_cons_zero, List.set_cons_succ, f5] at hK ⊢
          clear hF
          have x0 := hS.at (w.heap.size) (0) (.string nm) (by simp)
          go_simp
          exact hK.out _ _ (Alters.refl _) rfl
        · intro u W K hS hF hK
          have f4 : u 4 = .string q.1 := hF 4 (by kernel_rfl)
          have f6 : u 6 = .string nm := hF 6 (by kernel_rfl)
          simp only [putsFrom, Act.put, Nat.reduceAdd, List.setIfInBounds_toArray, List.set_cons_zero, List.set_cons_succ, f4, f6] at hK ⊢
          clear hF
          go_simp
          exact hK.out _ _ (Alters.refl _) rfl
        · intro u W K hS hF hK
          have f7 : u 7 = .bool false := hF 7 (by kernel_rfl)
          simp only [putsFrom, Act.put, Nat.reduceAdd, List.setIfInBounds_toArray, List.set_cons_zero, List.set_cons_succ, f7] at hK ⊢
          clear hF
          go_simp
          exact hK.out _ _ (Alters.refl _) rfl
        · intro u W K hS hF hK
          have f8 : u 8 = .bool false := hF 8 (by kernel_rfl)
          simp only [putsFrom, Act.put, Nat.reduceAdd, List.setIfInBounds_toArray, List.set_cons_zero, List.set_cons_succ, f8] at hK ⊢
          clear hF
          go_simp
          exact hK.out _ _ (Alters.refl _) rfl
        · intro u W K hS hF hK
          have f8 : u 8 = .bool false := hF 8 (by kernel_rfl)
          simp only [putsFrom, Act.put, Nat.reduceAdd, List.setIfInBounds_toArray, List.set_cons_zero, List.set_cons_succ, f8] at hK ⊢
          clear hF
          go_simp
          exact hK.out _ _ (Alters.refl _) rfl
        · intro u W K hS hF hK
          have f8 : u 8 = .bool false := hF 8 (by kernel_rfl)
          have f9 : u 9 = undef := hF 9 (by kernel_rfl)
          have f10 : u 10 = undef := hF 10 (by kernel_rfl)
          simp only [putsFrom, Act.put, Nat.reduceAdd, List.setIfInBounds_toArray, List.set_cons_zero, List.set_cons_succ, f8, f9, f10] at hK ⊢
          clear hF
          go_simp
          exact hK.out _ _ (Alters.refl _) rfl
        · intro u W K hS hF hK
          have f8 : u 8 = .bool false := hF 8 (by kernel_rfl)
          have f11 : u 11 = undef := hF 11 (by kernel_rfl)
          simp only [putsFrom, Act.put, Nat.reduceAdd, List.setIfInBounds_toArray, List.set_cons_zero, List.set_cons_succ, f8, f11] at hK ⊢
          clear hF
          go_simp
          exact hK.out _ _ (Alters.refl _) rfl
        · intro u W K hS hF hK
          have f8 : u 8 = .bool false := hF 8 (by kernel_rfl)
          have f12 : u 12 = undef := hF 12 (by kernel_rfl)
          simp only [putsFrom, Act.put, Nat.reduceAdd, List.setIfInBounds_toArray, List.set_cons_zero, List.set_cons_succ, f8, f12] at hK ⊢
          clear hF
          go_simp
          exact hK.out _ _ (Alters.refl _) rfl
        · intro u W K hS hF hK
          have f8 : u 8 = .bool false := hF 8 (by kernel_rfl)
          simp only [putsFrom, Act.put, Nat.reduceAdd, List.setIfInBounds_toArray, List.set_cons_zero, List.set_cons_succ, f8] at hK ⊢
          clear hF
          go_simp
          exact hK.out _ _ (Alters.refl _) rfl
        · intro u W K hS hF hK
          have f8 : u 8 = .bool false := hF 8 (by kernel_rfl)
          have f14 : u 14 = undef := hF 14 (by kernel_rfl)
          simp only [putsFrom, Act.put, Nat.reduceAdd, List.setIfInBounds_toArray, List.set_cons_zero, List.set_cons_succ, f8, f14] at hK ⊢
          clear hF
          go_simp
          exact hK.out _ _ (Alters.refl _) rfl
        · intro u W K hS hF hK
          have f8 : u 8 = .bool false := hF 8 (by kernel_rfl)
          simp only [putsFrom, Act.put, Nat.reduceAdd, List.setIfInBounds_toArray, List.set_cons_zero, List.set_cons_succ, f8] at hK ⊢
          clear hF
          go_simp
          exact hK.out _ _ (Alters.refl _) rfl
        · intro u W K hS hF hK
          have f8 : u 8 = .bool false := hF 8 (by kernel_rfl)
          have f16 : u 16 = undef := hF 16 (by kernel_rfl)
          simp only [putsFrom, Act.put, Nat.reduceAdd, List.setIfInBounds_toArray, List.set_cons_zero, List.set_cons_succ, f8, f16] at hK ⊢
          clear hF
          go_simp
          exact hK.out _ _ (Alters.refl _) rfl
        · intro u W K hS hF hK
          have f8 : u 8 = .bool false := hF 8 (by kernel_rfl)
          have f13 : u 13 = undef := hF 13 (by kernel_rfl)
          have f15 : u 15 = undef := hF 15 (by kernel_rfl)
          have f17 : u 17 = undef := hF 17 (by kernel_rfl)
          simp only [putsFrom, Act.put, Nat.reduceAdd, List.setIfInBounds_toArray, List.set_cons_zero, List.set_cons_succ, f8, f13, f15, f17] at hK ⊢
          clear hF
          go_simp
          exact hK.out _ _ (Alters.refl _) rfl
        · intro u W hS hF
          have f8 : u 8 = .bool false := hF 8 (by simp)
          have f18 : u 18 = undef := hF 18 (by simp)
          simp only [putsFrom, Act.put, Nat.reduceAdd, List.setIfInBounds_toArray, List.set_cons_zero, List.set_cons_succ, f8, f18]
          clear hF f8 f18
          have HS := Go.Lib.hid hS
          clear hS
          go_simp
          go_wp2_with fail
          go_roundw
          case rel => exact ⟨k + 1, by omega, by go_num, by rw [← HE.out]; simp, HS.out.quiet⟩
          case measure => simp [intOf]; omega
      · rw [hn] at HE
        cases hm : meets q.2 cmp val
        · rw [hm] at HE
          have HM := Go.Lib.hid hm
          clear hm
          go_upto_region 4 with (fail)
          refine wp_region_wants (by kernel_rfl) (by kernel_rfl) (by kernel_rfl) (by kernel_rfl) (CellsAt w1 [(⟨b, o + k * 2, none⟩, .string q.1), (⟨b, o + k * 2 + 1, none⟩, .int .i64 q.2), (⟨w.heap.size, 0, none⟩, .string nm), (⟨w.heap.size, 1, none⟩, .int .i64 cmp), (⟨w.heap.size, 2, none⟩, .int .i64 val)]) (fun _ _ hq h => h.keep hq) [Want.is (.slice (some ⟨b, o, none⟩) l.length cap), Want.is (.int .i64 (k : Int)), Want.is (.pointer (some ⟨b, o + k * 2, none⟩)), Want.is (.pointer (some ⟨b, o + k * 2, none⟩)), Want.is (.string q.1), Want.is (.pointer (some ⟨w.heap.size, 0, none⟩)), Want.is (.string nm), Want.is (.bool true), Want.is (.bool true), Want.is (.slice (some ⟨b, o, none⟩) l.length cap), Want.is (.int .i64 (k : Int)), Want.is (.pointer (some ⟨b, o + k * 2, none⟩)), Want.is (.pointer (some ⟨b, o + k * 2 + 1, none⟩)), Want.is (.int .i64 q.2), Want.is (.pointer (some ⟨w.heap.size, 1, none⟩)), Want.is (.int .i64 cmp), Want.is (.pointer (some ⟨w.heap.size, 2, none⟩)), Want.is (.int .i64 val), Want.is (.bool false)] ((CellsAt.cons (a := ⟨b, o + k * 2, none⟩) (v := .string q.1) (d0) (CellsAt.cons (a := ⟨b, o + k * 2 + 1, none⟩) (v := .int .i64 q.2) (d1) (CellsAt.cons (a := ⟨w.heap.size, 0, none⟩) (v := .string nm) (c0) (CellsAt.cons (a := ⟨w.heap.size, 1, none⟩) (v := .int .i64 cmp) (c1) (CellsAt.cons (a := ⟨w.heap.size, 2, none⟩) (v := .int .i64 val) (c2) (CellsAt.nil (HQ.out))))))).keep ((Alters.refl _).drew)) (by decide) ?_
          refine Steps.cons ?_ (Steps.cons ?_ (Steps.cons ?_ (Steps.cons ?_ (Steps.cons ?_ (Steps.cons ?_ (Steps.cons ?_ (Steps.cons ?_ (Steps.cons ?_ (Steps.cons ?_ (Steps.cons ?_ (Steps.cons ?_ (Steps.cons ?_ (Steps.cons ?_ (Steps.cons ?_ (Steps.cons ?_ (Steps.cons ?_ (Steps.cons ?_ (Steps.cons ?_ (Steps.last ?_)))))))))))))))))))
          · intro u W K hS hF hK
            simp only [putsFrom, Act.put, Nat.reduceAdd, List.setIfInBounds_toArray, List.set_cons_zero, List.set_cons_succ] at hK ⊢
            clear hF
            go_simp
            exact hK.out _ _ (Alters.refl _) rfl
          · intro u W K hS hF hK
            simp only [putsFrom, Act.put, Nat.reduceAdd, List.setIfInBounds_toArray, List.set_cons_zero, List.set_cons_succ] at hK ⊢
            clear hF
            go_simp
            exact hK.out _ _ (Alters.refl _) rfl
          · intro u W K hS hF hK
            have f0 : u 0 = .slice (some ⟨b, o, none⟩) l.length cap := hF 0 (by kernel_rfl)
            have f1 : u 1 = .int .i64 (k : Int) := hF 1 (by kernel_rfl)
            simp only [putsFrom, Act.put, Nat.reduceAdd, List.setIfInBounds_toArray, List.set_cons_zero, List.set_cons_succ, f0, f1] at hK ⊢
            clear hF
            go_simp
            exact hK.out _ _ (Alters.refl _) rfl
          · intro u W K hS hF hK
            have f2 : u 2 = .pointer (some ⟨b, o + k * 2, none⟩) := hF 2 (by kernel_rfl)
            simp only [putsFrom, Act.put, Nat.reduceAdd, List.setIfInBounds_toArray, List.set_cons_zero, List.set_cons_succ, f2] at hK ⊢
            clear hF
            go_simp
            exact hK.out _ _ (Alters.refl _) rfl
          · intro u W K hS hF hK
            have f3 : u 3 = .pointer (some ⟨b, o + k * 2, none⟩) := hF 3 (by kernel_rfl)
            simp only [putsFrom, Act.put, Nat.reduceAdd, List.setIfInBounds_toArray, List.set_cons_zero, List.set_cons_succ, f3] at hK ⊢
            clear hF
            have x0 := hS.at (b) (o + k * 2) (.string q.1) (by simp)
            go_simp
            exact hK.out _ _ (Alters.refl _) rfl
          · intro u W K hS hF hK
            simp only [putsFrom, Act.put, Nat.reduceAdd, List.setIfInBounds_toArray, List.set_cons_zero, List.set_cons_succ] at hK ⊢
            clear hF
            go_simp
            exact hK.out _ _ (Alters.refl _) rfl
          · intro u W K hS hF hK
            have f5 : u 5 = .pointer (some ⟨w.heap.size, 0, none⟩) := hF 5 (by kernel_rfl)
            simp only [putsFrom, Act.put, Nat.reduceAdd, List.setIfInBounds_toArray, List.set_cons_zero, List.set_cons_succ, f5] at hK ⊢
            clear hF
            have x0 := hS.at (w.heap.size) (0) (.string nm) (by simp)
            go_simp
            exact hK.out _ _ (Alters.refl _) rfl
          · intro u W K hS hF hK
            have f4 : u 4 = .string q.1 := hF 4 (by kernel_rfl)
            have f6 : u 6 = .string nm := hF 6 (by kernel_rfl)
            simp only [putsFrom, Act.put, Nat.reduceAdd, List.setIfInBounds_toArray, List.set_cons_zero, List.set_cons_succ, f4, f6] at hK ⊢
            clear hF
            go_simp
            exact hK.out _ _ (Alters.refl _) rfl
          · intro u W K hS hF hK
            have f7 : u 7 = .bool true := hF 7 (by kernel_rfl)
            simp only [putsFrom, Act.put, Nat.reduceAdd, List.setIfInBounds_toArray, List.set_cons_zero, List.set_cons_succ, f7] at hK ⊢
            clear hF
            go_simp
            exact hK.out _ _ (Alters.refl _) rfl
          · intro u W K hS hF hK
            have f8 : u 8 = .bool true := hF 8 (by kernel_rfl)
            simp only [putsFrom, Act.put, Nat.reduceAdd, List.setIfInBounds_toArray, List.set_cons_zero, List.set_cons_succ, f8] at hK ⊢
            clear hF
            go_simp
            exact hK.out _ _ (Alters.refl _) rfl
          · intro u W K hS hF hK
            have f8 : u 8 = .bool true := hF 8 (by kernel_rfl)
            simp only [putsFrom, Act.put, Nat.reduceAdd, List.setIfInBounds_toArray, List.set_cons_zero, List.set_cons_succ, f8] at hK ⊢
            clear hF
            go_simp
            exact hK.out _ _ (Alters.refl _) rfl
          · intro u W K hS hF hK
            have f8 : u 8 = .bool true := hF 8 (by kernel_rfl)
            have f9 : u 9 = .slice (some ⟨b, o, none⟩) l.length cap := hF 9 (by kernel_rfl)
            have f10 : u 10 = .int .i64 (k : Int) := hF 10 (by kernel_rfl)
            simp only [putsFrom, Act.put, Nat.reduceAdd, List.setIfInBounds_toArray, List.set_cons_zero, List.set_cons_succ, f8, f9, f10] at hK ⊢
            clear hF
            go_simp
            exact hK.out _ _ (Alters.refl _) rfl
          · intro u W K hS hF hK
            have f8 : u 8 = .bool true := hF 8 (by kernel_rfl)
            have f11 : u 11 = .pointer (some ⟨b, o + k * 2, none⟩) := hF 11 (by kernel_rfl)
            simp only [putsFrom, Act.put, Nat.reduceAdd, List.setIfInBounds_toArray, List.set_cons_zero, List.set_cons_succ, f8, f11] at hK ⊢
            clear hF
            go_simp
            exact hK.out _ _ (Alters.refl _) rfl
          · intro u W K hS hF hK
            have f8 : u 8 = .bool true := hF 8 (by kernel_rfl)
            have f12 : u 12 = .pointer (some ⟨b, o + k * 2 + 1, none⟩) := hF 12 (by kernel_rfl)
            simp only [putsFrom, Act.put, Nat.reduceAdd, List.setIfInBounds_toArray, List.set_cons_zero, List.set_cons_succ, f8, f12] at hK ⊢
            clear hF
            have x0 := hS.at (b) (o + k * 2 + 1) (.int .i64 q.2) (by simp)
            go_simp
            exact hK.out _ _ (Alters.refl _) rfl
          · intro u W K hS hF hK
            have f8 : u 8 = .bool true := hF 8 (by kernel_rfl)
            simp only [putsFrom, Act.put, Nat.reduceAdd, List.setIfInBounds_toArray, List.set_cons_zero, List.set_cons_succ, f8] at hK ⊢
            clear hF
            go_simp
            exact hK.out _ _ (Alters.refl _) rfl
          · intro u W K hS hF hK
            have f8 : u 8 = .bool true := hF 8 (by kernel_rfl)
            have f14 : u 14 = .pointer (some ⟨w.heap.size, 1, none⟩) := hF 14 (by kernel_rfl)
            simp only [putsFrom, Act.put, Nat.reduceAdd, List.setIfInBounds_toArray, List.set_cons_zero, List.set_cons_succ, f8, f14] at hK ⊢
            clear hF
            have x0 := hS.at (w.heap.size) (1) (.int .i64 cmp) (by simp)
            go_simp
            exact hK.out _ _ (Alters.refl _) rfl
          · intro u W K hS hF hK
            have f8 : u 8 = .bool true := hF 8 (by kernel_rfl)
            simp only [putsFrom, Act.put, Nat.reduceAdd, List.setIfInBounds_toArray, List.set_cons_zero, List.set_cons_succ, f8] at hK ⊢
            clear hF
            go_simp
            exact hK.out _ _ (Alters.refl _) rfl
          · intro u W K hS hF hK
            have f8 : u 8 = .bool true := hF 8 (by kernel_rfl)
            have f16 : u 16 = .pointer (some ⟨w.heap.size, 2, none⟩) := hF 16 (by kernel_rfl)
            simp only [putsFrom, Act.put, Nat.reduceAdd, List.setIfInBounds_toArray, List.set_cons_zero, List.set_cons_succ, f8, f16] at hK ⊢
            clear hF
            have x0 := hS.at (w.heap.size) (2) (.int .i64 val) (by simp)
            go_simp
            exact hK.out _ _ (Alters.refl _) rfl
          · intro u W K hS hF hK
            have f8 : u 8 = .bool true := hF 8 (by kernel_rfl)
            have f13 : u 13 = .int .i64 q.2 := hF 13 (by kernel_rfl)
            have f15 : u 15 = .int .i64 cmp := hF 15 (by kernel_rfl)
            have f17 : u 17 = .int .i64 val := hF 17 (by kernel_rfl)
            simp only [putsFrom, Act.put, Nat.reduceAdd, List.setIfInBounds_toArray, List.set_cons_zero, List.set_cons_succ, f8, f13, f15, f17] at hK ⊢
            clear hF
            go_simp
            refine (meets_walk q.2 cmp val W).mono ?_
            rintro e W2 ⟨rfl, rfl⟩
            exact hK.out _ _ (Alters.refl _) (show Value.bool (meets q.2 cmp val) = .bool false by rw [HM.out])
          · intro u W hS hF
            have f8 : u 8 = .bool true := hF 8 (by simp)
            have f18 : u 18 = .bool false := hF 18 (by simp)
            simp only [putsFrom, Act.put, Nat.reduceAdd, List.setIfInBounds_toArray, List.set_cons_zero, List.set_cons_succ, f8, f18]
            clear hF f8 f18
            have HS := Go.Lib.hid hS
            clear hS
            go_simp
            go_wp2_with fail
            go_roundw
            case rel => exact ⟨k + 1, by omega, by go_num, by rw [← HE.out]; simp, HS.out.quiet⟩
            case measure => simp [intOf]; omega
        · rw [hm] at HE
          have HM := Go.Lib.hid hm
          clear hm
          go_upto_region 4 with (fail)
          refine wp_region_wants (by kernel_rfl) (by kernel_rfl) (by kernel_rfl) (by kernel_rfl) (CellsAt w1 [(⟨b, o + k * 2, none⟩, .string q.1), (⟨b, o + k * 2 + 1, none⟩, .int .i64 q.2), (⟨w.heap.size, 0, none⟩, .string nm), (⟨w.heap.size, 1, none⟩, .int .i64 cmp), (⟨w.heap.size, 2, none⟩, .int .i64 val)]) (fun _ _ hq h => h.keep hq) [Want.is (.slice (some ⟨b, o, none⟩) l.length cap), Want.is (.int .i64 (k : Int)), Want.is (.pointer (some ⟨b, o + k * 2, none⟩)), Want.is (.pointer (some ⟨b, o + k * 2, none⟩)), Want.is (.string q.1), Want.is (.pointer (some ⟨w.heap.size, 0, none⟩)), Want.is (.string nm), Want.is (.bool true), Want.is (.bool true), Want.is (.slice (some ⟨b, o, none⟩) l.length cap), Want.is (.int .i64 (k : Int)), Want.is (.pointer (some ⟨b, o + k * 2, none⟩)), Want.is (.pointer (some ⟨b, o + k * 2 + 1, none⟩)), Want.is (.int .i64 q.2), Want.is (.pointer (some ⟨w.heap.size, 1, none⟩)), Want.is (.int .i64 cmp), Want.is (.pointer (some ⟨w.heap.size, 2, none⟩)), Want.is (.int .i64 val), Want.is (.bool true)] ((CellsAt.cons (a := ⟨b, o + k * 2, none⟩) (v := .string q.1) (d0) (CellsAt.cons (a := ⟨b, o + k * 2 + 1, none⟩) (v := .int .i64 q.2) (d1) (CellsAt.cons (a := ⟨w.heap.size, 0, none⟩) (v := .string nm) (c0) (CellsAt.cons (a := ⟨w.heap.size, 1, none⟩) (v := .int .i64 cmp) (c1) (CellsAt.cons (a := ⟨w.heap.size, 2, none⟩) (v := .int .i64 val) (c2) (CellsAt.nil (HQ.out))))))).keep ((Alters.refl _).drew)) (by decide) ?_
          refine Steps.cons ?_ (Steps.cons ?_ (Steps.cons ?_ (Steps.cons ?_ (Steps.cons ?_ (Steps.cons ?_ (Steps.cons ?_ (Steps.cons ?_ (Steps.cons ?_ (Steps.cons ?_ (Steps.cons ?_ (Steps.cons ?_ (Steps.cons ?_ (Steps.cons ?_ (Steps.cons ?_ (Steps.cons ?_ (Steps.cons ?_ (Steps.cons ?_ (Steps.cons ?_ (Steps.last ?_)))))))))))))))))))
          · intro u W K hS hF hK
            simp only [putsFrom, Act.put, Nat.reduceAdd, List.setIfInBounds_toArray, List.set_cons_zero, List.set_cons_succ] at hK ⊢
            clear hF
            go_simp
            exact hK.out _ _ (Alters.refl _) rfl
          · intro u W K hS hF hK
            simp only [putsFrom, Act.put, Nat.reduceAdd, List.setIfInBounds_toArray, List.set_cons_zero, List.set_cons_succ] at hK ⊢
            clear hF
            go_simp
            exact hK.out _ _ (Alters.refl _) rfl
          · intro u W K hS hF hK
            have f0 : u 0 = .slice (some ⟨b, o, none⟩) l.length cap := hF 0 (by kernel_rfl)
            have f1 : u 1 = .int .i64 (k : Int) := hF 1 (by kernel_rfl)
            simp only [putsFrom, Act.put, Nat.reduceAdd, List.setIfInBounds_toArray, List.set_cons_zero, List.set_cons_succ, f0, f1] at hK ⊢
            clear hF
            go_simp
            exact hK.out _ _ (Alters.refl _) rfl
          · intro u W K hS hF hK
            have f2 : u 2 = .pointer (some ⟨b, o + k * 2, none⟩) := hF 2 (by kernel_rfl)
            simp only [putsFrom, Act.put, Nat.reduceAdd, List.setIfInBounds_toArray, List.set_cons_zero, List.set_cons_succ, f2] at hK ⊢
            clear hF
            go_simp
            exact hK.out _ _ (Alters.refl _) rfl
          · intro u W K hS hF hK
            have f3 : u 3 = .pointer (some ⟨b, o + k * 2, none⟩) := hF 3 (by kernel_rfl)
            simp only [putsFrom, Act.put, Nat.reduceAdd, List.setIfInBounds_toArray, List.set_cons_zero, List.set_cons_succ, f3] at hK ⊢
            clear hF
            have x0 := hS.at (b) (o + k * 2) (.string q.1) (by simp)
            go_simp
            exact hK.out _ _ (Alters.refl _) rfl
          · intro u W K hS hF hK
            simp only [putsFrom, Act.put, Nat.reduceAdd, List.setIfInBounds_toArray, List.set_cons_zero, List.set_cons_succ] at hK ⊢
            clear hF
            go_simp
            exact hK.out _ _ (Alters.refl _) rfl
          · intro u W K hS hF hK
            have f5 : u 5 = .pointer (some ⟨w.heap.size, 0, none⟩) := hF 5 (by kernel_rfl)
            simp only [putsFrom, Act.put, Nat.reduceAdd, List.setIfInBounds_toArray, List.set_cons_zero, List.set_cons_succ, f5] at hK ⊢
            clear hF
            have x0 := hS.at (w.heap.size) (0) (.string nm) (by simp)
            go_simp
            exact hK.out _ _ (Alters.refl _) rfl
          · intro u W K hS hF hK
            have f4 : u 4 = .string q.1 := hF 4 (by kernel_rfl)
            have f6 : u 6 = .string nm := hF 6 (by kernel_rfl)
            simp only [putsFrom, Act.put, Nat.reduceAdd, List.setIfInBounds_toArray, List.set_cons_zero, List.set_cons_succ, f4, f6] at hK ⊢
            clear hF
            go_simp
            exact hK.out _ _ (Alters.refl _) rfl
          · intro u W K hS hF hK
            have f7 : u 7 = .bool true := hF 7 (by kernel_rfl)
            simp only [putsFrom, Act.put, Nat.reduceAdd, List.setIfInBounds_toArray, List.set_cons_zero, List.set_cons_succ, f7] at hK ⊢
            clear hF
            go_simp
            exact hK.out _ _ (Alters.refl _) rfl
          · intro u W K hS hF hK
            have f8 : u 8 = .bool true := hF 8 (by kernel_rfl)
            simp only [putsFrom, Act.put, Nat.reduceAdd, List.setIfInBounds_toArray, List.set_cons_zero, List.set_cons_succ, f8] at hK ⊢
            clear hF
            go_simp
            exact hK.out _ _ (Alters.refl _) rfl
          · intro u W K hS hF hK
            have f8 : u 8 = .bool true := hF 8 (by kernel_rfl)
            simp only [putsFrom, Act.put, Nat.reduceAdd, List.setIfInBounds_toArray, List.set_cons_zero, List.set_cons_succ, f8] at hK ⊢
            clear hF
            go_simp
            exact hK.out _ _ (Alters.refl _) rfl
          · intro u W K hS hF hK
            have f8 : u 8 = .bool true := hF 8 (by kernel_rfl)
            have f9 : u 9 = .slice (some ⟨b, o, none⟩) l.length cap := hF 9 (by kernel_rfl)
            have f10 : u 10 = .int .i64 (k : Int) := hF 10 (by kernel_rfl)
            simp only [putsFrom, Act.put, Nat.reduceAdd, List.setIfInBounds_toArray, List.set_cons_zero, List.set_cons_succ, f8, f9, f10] at hK ⊢
            clear hF
            go_simp
            exact hK.out _ _ (Alters.refl _) rfl
          · intro u W K hS hF hK
            have f8 : u 8 = .bool true := hF 8 (by kernel_rfl)
            have f11 : u 11 = .pointer (some ⟨b, o + k * 2, none⟩) := hF 11 (by kernel_rfl)
            simp only [putsFrom, Act.put, Nat.reduceAdd, List.setIfInBounds_toArray, List.set_cons_zero, List.set_cons_succ, f8, f11] at hK ⊢
            clear hF
            go_simp
            exact hK.out _ _ (Alters.refl _) rfl
          · intro u W K hS hF hK
            have f8 : u 8 = .bool true := hF 8 (by kernel_rfl)
            have f12 : u 12 = .pointer (some ⟨b, o + k * 2 + 1, none⟩) := hF 12 (by kernel_rfl)
            simp only [putsFrom, Act.put, Nat.reduceAdd, List.setIfInBounds_toArray, List.set_cons_zero, List.set_cons_succ, f8, f12] at hK ⊢
            clear hF
            have x0 := hS.at (b) (o + k * 2 + 1) (.int .i64 q.2) (by simp)
            go_simp
            exact hK.out _ _ (Alters.refl _) rfl
          · intro u W K hS hF hK
            have f8 : u 8 = .bool true := hF 8 (by kernel_rfl)
            simp only [putsFrom, Act.put, Nat.reduceAdd, List.setIfInBounds_toArray, List.set_cons_zero, List.set_cons_succ, f8] at hK ⊢
            clear hF
            go_simp
            exact hK.out _ _ (Alters.refl _) rfl
          · intro u W K hS hF hK
            have f8 : u 8 = .bool true := hF 8 (by kernel_rfl)
            have f14 : u 14 = .pointer (some ⟨w.heap.size, 1, none⟩) := hF 14 (by kernel_rfl)
            simp only [putsFrom, Act.put, Nat.reduceAdd, List.setIfInBounds_toArray, List.set_cons_zero, List.set_cons_succ, f8, f14] at hK ⊢
            clear hF
            have x0 := hS.at (w.heap.size) (1) (.int .i64 cmp) (by simp)
            go_simp
            exact hK.out _ _ (Alters.refl _) rfl
          · intro u W K hS hF hK
            have f8 : u 8 = .bool true := hF 8 (by kernel_rfl)
            simp only [putsFrom, Act.put, Nat.reduceAdd, List.setIfInBounds_toArray, List.set_cons_zero, List.set_cons_succ, f8] at hK ⊢
            clear hF
            go_simp
            exact hK.out _ _ (Alters.refl _) rfl
          · intro u W K hS hF hK
            have f8 : u 8 = .bool true := hF 8 (by kernel_rfl)
            have f16 : u 16 = .pointer (some ⟨w.heap.size, 2, none⟩) := hF 16 (by kernel_rfl)
            simp only [putsFrom, Act.put, Nat.reduceAdd, List.setIfInBounds_toArray, List.set_cons_zero, List.set_cons_succ, f8, f16] at hK ⊢
            clear hF
            have x0 := hS.at (w.heap.size) (2) (.int .i64 val) (by simp)
            go_simp
            exact hK.out _ _ (Alters.refl _) rfl
          · intro u W K hS hF hK
            have f8 : u 8 = .bool true := hF 8 (by kernel_rfl)
            have f13 : u 13 = .int .i64 q.2 := hF 13 (by kernel_rfl)
            have f15 : u 15 = .int .i64 cmp := hF 15 (by kernel_rfl)
            have f17 : u 17 = .int .i64 val := hF 17 (by kernel_rfl)
            simp only [putsFrom, Act.put, Nat.reduceAdd, List.setIfInBounds_toArray, List.set_cons_zero, List.set_cons_succ, f8, f13, f15, f17] at hK ⊢
            clear hF
            go_simp
            refine (meets_walk q.2 cmp val W).mono ?_
            rintro e W2 ⟨rfl, rfl⟩
            exact hK.out _ _ (Alters.refl _) (show Value.bool (meets q.2 cmp val) = .bool true by rw [HM.out])
          · intro u W hS hF
            have f8 : u 8 = .bool true := hF 8 (by simp)
            have f18 : u 18 = .bool true := hF 18 (by simp)
            simp only [putsFrom, Act.put, Nat.reduceAdd, List.setIfInBounds_toArray, List.set_cons_zero, List.set_cons_succ, f8, f18]
            clear hF f8 f18
            have HS := Go.Lib.hid hS
            clear hS
            go_simp
            go_wp2_with fail
            go_ret
            exact ⟨by rw [← HE.out]; rfl, HQ1.out.trans HS.out.quiet⟩
    · obtain rfl : k = l.length := by omega
      have HE := Go.Lib.hid ((atomFrom_end l nm cmp val).symm.trans hE)
      clear hE hQ
      go_wp2_with fail
      go_ret
      exact ⟨by rw [← HE.out]; rfl, HQ1.out.trans HQ.out⟩

section
variable {w : List Pt} {A B : Nat → Bool} {i j : Nat} {lo hi : Int}

theorem un_end (h : ∀ k, i ≤ k → k < j → inR w lo hi i k = true → B k = true → ¬ ∀ m, i ≤ m → m < k → A m = true) (hj : w.length ≤ j) : unT w lo hi A B i = false := by
  rw [Bool.eq_false_iff, Ne, unT_iff]
  rintro ⟨k, hk, h1, h2, h4⟩
  exact h k (inR_le h1) (by omega) h1 h2 h4

theorem un_next (h : ∀ k, i ≤ k → k < j → inR w lo hi i k = true → B k = true → ¬ ∀ m, i ≤ m → m < k → A m = true) (hj : inR w lo hi i j = true → B j = true → ¬ ∀ m, i ≤ m → m < j → A m = true) : ∀ k, i ≤ k → k < j + 1 → inR w lo hi i k = true → B k = true → ¬ ∀ m, i ≤ m → m < k → A m = true := fun k h1 h2 => by
  rcases Nat.lt_or_ge k j with h4 | h4
  · exact h k h1 h4
  · obtain rfl : k = j := by omega
    exact hj
end

set_option maxRecDepth 100000 in
set_option maxHeartbeats 2000000 in
theorem in166_walk (x0 x1 x2 x3 x6 : Value) (lo hi : Int) (a : Option Addr) (cap : Nat) (L : List Hp) (i j : Nat) (w : World) (hw : WdAt w a L) (hok : wordOk (pts L) = true) (hij : i ≤ j) (hj : j < L.length) : Calls Tryd.prog 166 #[.agg #[x0, x1, x2, x3, .int .i64 lo, .int .i64 hi, x6], .slice a L.length cap, .int .i64 (i : Int), .int .i64 (j : Int)] w (Said (.bool (inR (pts L) lo hi i j)) w) := by
  have hl := hw.len
  unfold maxLen at hl
  have hne : L ≠ [] := fun h => by subst h; simp at hj
  have hi' : i < L.length := by omega
  obtain ⟨b, o, rfl, hc⟩ := hw.cells hne
  obtain ⟨r, hr⟩ : ∃ r, L[i]? = some r := ⟨_, List.getElem?_eq_getElem hi'⟩
  obtain ⟨q, hq⟩ : ∃ q, L[j]? = some q := ⟨_, List.getElem?_eq_getElem hj⟩
  have d0 := (hc i r hr).1
  have e0 := (hc j q hq).1
  have hwq := hw.wf q (List.mem_of_getElem? hq)
  have hwr := hw.wf r (List.mem_of_getElem? hr)
  have p1 := wordOk_pos hok j
  have p2 := wordOk_pos hok i
  rw [pts_tm hq] at p1
  rw [pts_tm hr] at p2
  have hwd : IntKind.i64.wrap (q.p.tm - r.p.tm) = q.p.tm - r.p.tm := by
    rw [IntKind.wrap_i64]
    unfold I64 at hwq hwr
    omega
  have HIN : Hid (inR (pts L) lo hi i j = (decide (lo ≤ q.p.tm - r.p.tm) && decide (q.p.tm - r.p.tm ≤ hi))) := Go.Lib.hid (by rw [inR_eq hij, pts_tm hq, pts_tm hr])
  have hb : decide (i ≤ j) = true := by simpa using hij
  clear hw hc hok hr hq hne p1 p2 hwq hwr
  go_enter Tryd.func166, Tryd.ntmps166
  have hB := Blk.new w #[x0, x1, x2, x3, .int .i64 lo, .int .i64 hi, x6] 33
  have hq1 : Quiet w (w.alloc (.cells #[x0, x1, x2, x3, .int .i64 lo, .int .i64 hi, x6] 33)) := (Alters.refl _).alloc _
  go_upto_region 1 with (fail)
  replace d0 := hq1.cell d0 (by simp)
  replace e0 := hq1.cell e0 (by simp)
  generalize w.alloc _ = w1 at *
  have HQ1 := Go.Lib.hid hq1
  have g4 := hB.cell 4 rfl
  have g5 := hB.cell 5 rfl
  clear hq1 hB
  refine wp_region_wants (by kernel_rfl) (by kernel_rfl) (by kernel_rfl) (by kernel_rfl) (CellsAt w1 [(⟨b, o + j * 2, none⟩, .int .i64 q.p.tm), (⟨b, o + i * 2, none⟩, .int .i64 r.p.tm), (⟨w.heap.size, 4, none⟩, .int .i64 lo), (⟨w.heap.size, 5, none⟩, .int .i64 hi)]) (fun _ _ hq h => h.keep hq) [Want.is (.slice (some ⟨b, o, none⟩) L.length cap), Want.is (.int .i64 (j : Int)), Want.is (.pointer (some ⟨b, o + j * 2, none⟩)), Want.is (.pointer (some ⟨b, o + j * 2, none⟩)), Want.is (.int .i64 q.p.tm), Want.is (.slice (some ⟨b, o, none⟩) L.length cap), Want.is (.int .i64 (i : Int)), Want.is (.pointer (some ⟨b, o + i * 2, none⟩)), Want.is (.pointer (some ⟨b, o + i * 2, none⟩)), Want.is (.int .i64 r.p.tm), Want.is (.int .i64 (q.p.tm - r.p.tm))] ((CellsAt.cons (a := ⟨b, o + j * 2, none⟩) (v := .int .i64 q.p.tm) (e0) (CellsAt.cons (a := ⟨b, o + i * 2, none⟩) (v := .int .i64 r.p.tm) (d0) (CellsAt.cons (a := ⟨w.heap.size, 4, none⟩) (v := .int .i64 lo) (g4) (CellsAt.cons (a := ⟨w.heap.size, 5, none⟩) (v := .int .i64 hi) (g5) (CellsAt.nil (Alters.refl _)))))).keep ((Alters.refl _).drew)) (by decide) ?_
  refine Steps.cons ?_ (Steps.cons ?_ (Steps.cons ?_ (Steps.cons ?_ (Steps.cons ?_ (Steps.cons ?_ (Steps.cons ?_ (Steps.cons ?_ (Steps.cons ?_ (Steps.cons ?_ (Steps.cons ?_ (Steps.last ?_)))))))))))
  · intro u W K hS hF hK
    simp only [putsFrom, Act.put, Nat.reduceAdd, List.setIfInBounds_toArray, List.set_cons_zero, List.set_cons_succ] at hK ⊢
    clear hF
    go_simp
    exact hK.out _ _ (Alters.refl _) rfl
  · intro u W K hS hF hK
    simp only [putsFrom, Act.put, Nat.reduceAdd, List.setIfInBounds_toArray, List.set_cons_zero, List.set_cons_succ] at hK ⊢
    clear hF
    go_simp
    exact hK.out _ _ (Alters.refl _) rfl
  · intro u W K hS hF hK
    have f0 : u 0 = .slice (some ⟨b, o, none⟩) L.length cap := hF 0 (by kernel_rfl)
    have f1 : u 1 = .int .i64 (j : Int) := hF 1 (by kernel_rfl)
    simp only [putsFrom, Act.put, Nat.reduceAdd, List.setIfInBounds_toArray, List.set_cons_zero, List.set_cons_succ, f0, f1] at hK ⊢
    clear hF
    go_simp
    exact hK.out _ _ (Alters.refl _) rfl
  · intro u W K hS hF hK
    have f2 : u 2 = .pointer (some ⟨b, o + j * 2, none⟩) := hF 2 (by kernel_rfl)
    simp only [putsFrom, Act.put, Nat.reduceAdd, List.setIfInBounds_toArray, List.set_cons_zero, List.set_cons_succ, f2] at hK ⊢
    clear hF
    go_simp
    exact hK.out _ _ (Alters.refl _) rfl
  · intro u W K hS hF hK
    have f3 : u 3 = .pointer (some ⟨b, o + j * 2, none⟩) := hF 3 (by kernel_rfl)
    simp only [putsFrom, Act.put, Nat.reduceAdd, List.setIfInBounds_toArray, List.set_cons_zero, List.set_cons_succ, f3] at hK ⊢
    clear hF
    have x0 := hS.at (b) (o + j * 2) (.int .i64 q.p.tm) (by simp)
    go_simp
    exact hK.out _ _ (Alters.refl _) rfl
  · intro u W K hS hF hK
    simp only [putsFrom, Act.put, Nat.reduceAdd, List.setIfInBounds_toArray, List.set_cons_zero, List.set_cons_succ] at hK ⊢
    clear hF
    go_simp
    exact hK.out _ _ (Alters.refl _) rfl
  · intro u W K hS hF hK
    simp only [putsFrom, Act.put, Nat.reduceAdd, List.setIfInBounds_toArray, List.set_cons_zero, List.set_cons_succ] at hK ⊢
    clear hF
    go_simp
    exact hK.out _ _ (Alters.refl _) rfl
  · intro u W K hS hF hK
    have f5 : u 5 = .slice (some ⟨b, o, none⟩) L.length cap := hF 5 (by kernel_rfl)
    have f6 : u 6 = .int .i64 (i : Int) := hF 6 (by kernel_rfl)
    simp only [putsFrom, Act.put, Nat.reduceAdd, List.setIfInBounds_toArray, List.set_cons_zero, List.set_cons_succ, f5, f6] at hK ⊢
    clear hF
    go_simp
    exact hK.out _ _ (Alters.refl _) rfl
  · intro u W K hS hF hK
    have f7 : u 7 = .pointer (some ⟨b, o + i * 2, none⟩) := hF 7 (by kernel_rfl)
    simp only [putsFrom, Act.put, Nat.reduceAdd, List.setIfInBounds_toArray, List.set_cons_zero, List.set_cons_succ, f7] at hK ⊢
    clear hF
    go_simp
    exact hK.out _ _ (Alters.refl _) rfl
  · intro u W K hS hF hK
    have f8 : u 8 = .pointer (some ⟨b, o + i * 2, none⟩) := hF 8 (by kernel_rfl)
    simp only [putsFrom, Act.put, Nat.reduceAdd, List.setIfInBounds_toArray, List.set_cons_zero, List.set_cons_succ, f8] at hK ⊢
    clear hF
    have x0 := hS.at (b) (o + i * 2) (.int .i64 r.p.tm) (by simp)
    go_simp
    exact hK.out _ _ (Alters.refl _) rfl
  · intro u W K hS hF hK
    have f4 : u 4 = .int .i64 q.p.tm := hF 4 (by kernel_rfl)
    have f9 : u 9 = .int .i64 r.p.tm := hF 9 (by kernel_rfl)
    simp only [putsFrom, Act.put, Nat.reduceAdd, List.setIfInBounds_toArray, List.set_cons_zero, List.set_cons_succ, f4, f9] at hK ⊢
    clear hF
    go_simp
    exact hK.out _ _ (Alters.refl _) rfl
  · intro u W hS hF
    have f10 : u 10 = .int .i64 (q.p.tm - r.p.tm) := hF 10 (by simp)
    simp only [putsFrom, Act.put, Nat.reduceAdd, List.setIfInBounds_toArray, List.set_cons_zero, List.set_cons_succ, f10]
    clear hF f10
    have HS := Go.Lib.hid hS
    clear hS
    have g4 := HS.out.at (w.heap.size) 4 (.int .i64 lo) (by simp)
    have g5 := HS.out.at (w.heap.size) 5 (.int .i64 hi) (by simp)
    go_simp
    cases h1 : decide (lo ≤ q.p.tm - r.p.tm)
    · go_wp2_with fail
      go_ret
      exact ⟨by rw [HIN.out, h1]; rfl, HQ1.out.trans HS.out.quiet⟩
    · cases h2 : decide (q.p.tm - r.p.tm ≤ hi)
      · go_wp2_with fail
        go_ret
        exact ⟨by rw [HIN.out, h1, h2]; rfl, HQ1.out.trans HS.out.quiet⟩
      · go_wp2_with fail
        go_ret
        exact ⟨by rw [HIN.out, h1, h2]; rfl, HQ1.out.trans HS.out.quiet⟩
end Go.Proofs.YtnpcakakjhiboaaDoor
