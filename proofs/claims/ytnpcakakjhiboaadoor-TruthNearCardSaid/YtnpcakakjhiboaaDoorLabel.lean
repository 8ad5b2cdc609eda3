/- Propositions: whether they are right, and how an atom stands: the program's way. No condition. -/
import Derived.Test.YtnpcakakjhiboaaDoorWord
import Derived.Test.YtnpcakakjhiboaaDoorCalm
import Derived.Test.YtnpcakakjhiboaaDoorMem
namespace Go.Proofs.YtnpcakakjhiboaaDoor
open Go.RowKit Go.Lo Go.WideShapes

/-- Are propositions right from the k-th on? -/
def propsAt (l : List (ByteArray × Int)) : Nat → Bool
  | 0 => propsOk l
  | k + 1 => propsFrom (l.getD k (⟨#[]⟩, 0)) (l.drop (k + 1))

theorem propsAt_end (l : List (ByteArray × Int)) : propsAt l l.length = true := by
  cases l with
  | nil => rfl
  | cons q r => simp [propsAt, propsFrom]

theorem propsAt_zero {l : List (ByteArray × Int)} {q : ByteArray × Int} (h : l[0]? = some q) : propsAt l 0 = (isName q.1 && propsAt l 1) := by
  cases l with
  | nil => simp at h
  | cons x r =>
    obtain rfl : x = q := by simpa using h
    rfl

theorem propsAt_step {l : List (ByteArray × Int)} {q r : ByteArray × Int} {m : Nat} (h : l[m + 1]? = some q) (h2 : l[m]? = some r) : propsAt l (m + 1) = (isName q.1 && decide (ordP r q < 0) && propsAt l (m + 2)) := by
  have hl : m + 1 < l.length := by
    rcases Nat.lt_or_ge (m + 1) l.length with h' | h'
    · exact h'
    · rw [List.getElem?_eq_none h'] at h; cases h
  rw [List.getElem?_eq_getElem hl] at h
  have e1 : l.getD m (⟨#[]⟩, 0) = r := by simp [List.getD, h2]
  have e2 : l.getD (m + 1) (⟨#[]⟩, 0) = q := by simp [List.getD, List.getElem?_eq_getElem hl]; simpa using h
  have e3 : l[m + 1] = q := by simpa using h
  simp only [propsAt, e1, e2]
  rw [List.drop_eq_getElem_cons hl, e3, propsFrom]

set_option maxRecDepth 100000 in
set_option maxHeartbeats 4000000 in
theorem right82_walk (a : Option Addr) (cap : Nat) (l : List (ByteArray × Int)) (w : World) (hl : l.length ≤ maxLen) (hp : PrAt w a l) : Calls Tryd.prog 82 #[.slice a l.length cap] w (Said (.bool (propsOk l)) w) := by
  have HP := Go.Lib.hid hp
  unfold maxLen at hl
  clear hp
  go_enter Tryd.func82, Tryd.ntmps82
  go_wp2
  go_loopw [7] (fun i wr => ∃ k : Nat, k ≤ l.length ∧ i = .int .i64 k ∧ propsAt l k = propsOk l ∧ Quiet w wr) (fun i _ => l.length - (intOf i).toNat)
  case atStart => exact ⟨0, Nat.zero_le _, rfl, rfl, Alters.refl _⟩
  case round =>
    obtain ⟨k, hk, rfl, hE, hQ⟩ := hrel
    have HQ := Go.Lib.hid hQ
    by_cases hlt : k < l.length
    · have hne : l ≠ [] := fun h => by subst h; simp at hlt
      obtain ⟨b, o, rfl, hc⟩ := HP.out hne
      obtain ⟨q, hq⟩ : ∃ q, l[k]? = some q := ⟨_, List.getElem?_eq_getElem hlt⟩
      obtain ⟨d0, d1⟩ := hc k q hq
      replace d0 := hQ.cell d0 (by simp)
      replace d1 := hQ.cell d1 (by simp)
      by_cases hn : isName q.1 = true
      rotate_left
      · have HN : Hid (isName q.1 = false) := Go.Lib.hid (by simpa using hn)
        have HE : Hid (propsOk l = false) := Go.Lib.hid (by
          rw [← hE]
          cases k with
          | zero => rw [propsAt_zero hq, HN.out]; rfl
          | succ m => rw [propsAt_step hq (List.getElem?_eq_getElem (by omega)), HN.out]; rfl)
        clear hn hE hQ hc hq
        have hB : Blk (wr.alloc (.cells #[.string q.1, .int .i64 q.2] 95)) wr.heap.size #[.string q.1, .int .i64 q.2] 95 := Blk.new _ _ _
        have hq1 : Quiet wr (wr.alloc (.cells #[.string q.1, .int .i64 q.2] 95)) := (Alters.refl _).alloc _
        go_upto_region 4 with (fail)
        clear d0 d1
        generalize wr.alloc _ = w1 at *
        refine wp_region_wants (by kernel_rfl) (by kernel_rfl) (by kernel_rfl) (by kernel_rfl) (CellsAt w [(⟨wr.heap.size, 0, none⟩, .string q.1), (⟨wr.heap.size, 1, none⟩, .int .i64 q.2)]) (fun _ _ hq h => h.keep hq) [Want.is (.pointer (some ⟨wr.heap.size, 0, none⟩)), Want.is (.string q.1), Want.is (.bool false), Want.is (.bool true), Want.is (.bool true), Want.is (undef), Want.is (undef), Want.is (undef), Want.is (undef), Want.is (undef), Want.is (undef), Want.is (undef), Want.is (undef), Want.is (undef), Want.is (undef), Want.is (undef), Want.is (undef)] ((CellsAt.cons (a := ⟨wr.heap.size, 0, none⟩) (v := .string q.1) (hB.cell 0 rfl) (CellsAt.cons (a := ⟨wr.heap.size, 1, none⟩) (v := .int .i64 q.2) (hB.cell 1 rfl) (CellsAt.nil (HQ.out.trans hq1)))).keep ((Alters.refl _).drew)) (by decide) ?_
        refine Steps.cons ?_ (Steps.cons ?_ (Steps.cons ?_ (Steps.cons ?_ (Steps.cons ?_ (Steps.cons ?_ (Steps.cons ?_ (Steps.cons ?_ (Steps.cons ?_ (Steps.cons ?_ (Steps.cons ?_ (Steps.cons ?_ (Steps.cons ?_ (Steps.cons ?_ (Steps.cons ?_ (Steps.cons ?_ (Steps.cons ?_ (Steps.last ?_)))))))))))))))))
        · intro u W K hS hF hK
          simp only [putsFrom, Act.put, Nat.reduceAdd, List.setIfInBounds_toArray, List.set_cons_zero, List.set_cons_succ] at hK ⊢
          clear hF
          go_simp
          exact hK.out _ _ (Alters.refl _) rfl
        · intro u W K hS hF hK
          have f0 : u 0 = .pointer (some ⟨wr.heap.size, 0, none⟩) := hF 0 (by kernel_rfl)
          simp only [putsFrom, Act.put, Nat.reduceAdd, List.setIfInBounds_toArray, List.set_cons_zero, List.set_cons_succ, f0] at hK ⊢
          clear hF
          have x0 := hS.at (wr.heap.size) (0) (.string q.1) (by simp)
          go_simp
          exact hK.out _ _ (Alters.refl _) rfl
        · intro u W K hS hF hK
          have f1 : u 1 = .string q.1 := hF 1 (by kernel_rfl)
          simp only [putsFrom, Act.put, Nat.reduceAdd, List.setIfInBounds_toArray, List.set_cons_zero, List.set_cons_succ, f1] at hK ⊢
          clear hF
          go_simp
          refine (name8_walk q.1 W).mono ?_
          rintro e W2 ⟨rfl, rfl⟩
          exact hK.out _ _ (Alters.refl _) (show Value.bool (isName q.1) = .bool false by rw [HN.out])
        · intro u W K hS hF hK
          have f2 : u 2 = .bool false := hF 2 (by kernel_rfl)
          simp only [putsFrom, Act.put, Nat.reduceAdd, List.setIfInBounds_toArray, List.set_cons_zero, List.set_cons_succ, f2] at hK ⊢
          clear hF
          go_simp
          exact hK.out _ _ (Alters.refl _) rfl
        · intro u W K hS hF hK
          have f3 : u 3 = .bool true := hF 3 (by kernel_rfl)
          simp only [putsFrom, Act.put, Nat.reduceAdd, List.setIfInBounds_toArray, List.set_cons_zero, List.set_cons_succ, f3] at hK ⊢
          clear hF
          go_simp
          exact hK.out _ _ (Alters.refl _) rfl
        · intro u W K hS hF hK
          have f4 : u 4 = .bool true := hF 4 (by kernel_rfl)
          simp only [putsFrom, Act.put, Nat.reduceAdd, List.setIfInBounds_toArray, List.set_cons_zero, List.set_cons_succ, f4] at hK ⊢
          clear hF
          go_simp
          exact hK.out _ _ (Alters.refl _) rfl
        · intro u W K hS hF hK
          have f4 : u 4 = .bool true := hF 4 (by kernel_rfl)
          have f5 : u 5 = undef := hF 5 (by kernel_rfl)
          simp only [putsFrom, Act.put, Nat.reduceAdd, List.setIfInBounds_toArray, List.set_cons_zero, List.set_cons_succ, f4, f5] at hK ⊢
          clear hF
          go_simp
          exact hK.out _ _ (Alters.refl _) rfl
        · intro u W K hS hF hK
          have f4 : u 4 = .bool true := hF 4 (by kernel_rfl)
          have f6 : u 6 = undef := hF 6 (by kernel_rfl)
          simp only [putsFrom, Act.put, Nat.reduceAdd, List.setIfInBounds_toArray, List.set_cons_zero, List.set_cons_succ, f4, f6] at hK ⊢
          clear hF
          go_simp
          exact hK.out _ _ (Alters.refl _) rfl
        · intro u W K hS hF hK
          have f7 : u 7 = undef := hF 7 (by kernel_rfl)
          simp only [putsFrom, Act.put, Nat.reduceAdd, List.setIfInBounds_toArray, List.set_cons_zero, List.set_cons_succ, f7] at hK ⊢
          clear hF
          go_simp
          exact hK.out _ _ (Alters.refl _) rfl
        · intro u W K hS hF hK
          have f7 : u 7 = undef := hF 7 (by kernel_rfl)
          simp only [putsFrom, Act.put, Nat.reduceAdd, List.setIfInBounds_toArray, List.set_cons_zero, List.set_cons_succ, f7] at hK ⊢
          clear hF
          go_simp
          exact hK.out _ _ (Alters.refl _) rfl
        · intro u W K hS hF hK
          have f7 : u 7 = undef := hF 7 (by kernel_rfl)
          have f9 : u 9 = undef := hF 9 (by kernel_rfl)
          simp only [putsFrom, Act.put, Nat.reduceAdd, List.setIfInBounds_toArray, List.set_cons_zero, List.set_cons_succ, f7, f9] at hK ⊢
          clear hF
          go_simp
          exact hK.out _ _ (Alters.refl _) rfl
        · intro u W K hS hF hK
          have f7 : u 7 = undef := hF 7 (by kernel_rfl)
          have f8 : u 8 = undef := hF 8 (by kernel_rfl)
          have f10 : u 10 = undef := hF 10 (by kernel_rfl)
          simp only [putsFrom, Act.put, Nat.reduceAdd, List.setIfInBounds_toArray, List.set_cons_zero, List.set_cons_succ, f7, f8, f10] at hK ⊢
          clear hF
          go_simp
          exact hK.out _ _ (Alters.refl _) rfl
        · intro u W K hS hF hK
          have f7 : u 7 = undef := hF 7 (by kernel_rfl)
          have f11 : u 11 = undef := hF 11 (by kernel_rfl)
          simp only [putsFrom, Act.put, Nat.reduceAdd, List.setIfInBounds_toArray, List.set_cons_zero, List.set_cons_succ, f7, f11] at hK ⊢
          clear hF
          go_simp
          exact hK.out _ _ (Alters.refl _) rfl
        · intro u W K hS hF hK
          have f7 : u 7 = undef := hF 7 (by kernel_rfl)
          simp only [putsFrom, Act.put, Nat.reduceAdd, List.setIfInBounds_toArray, List.set_cons_zero, List.set_cons_succ, f7] at hK ⊢
          clear hF
          go_simp
          exact hK.out _ _ (Alters.refl _) rfl
        · intro u W K hS hF hK
          have f7 : u 7 = undef := hF 7 (by kernel_rfl)
          have f12 : u 12 = undef := hF 12 (by kernel_rfl)
          have f13 : u 13 = undef := hF 13 (by kernel_rfl)
          simp only [putsFrom, Act.put, Nat.reduceAdd, List.setIfInBounds_toArray, List.set_cons_zero, List.set_cons_succ, f7, f12, f13] at hK ⊢
          clear hF
          go_simp
          exact hK.out _ _ (Alters.refl _) rfl
        · intro u W K hS hF hK
          have f7 : u 7 = undef := hF 7 (by kernel_rfl)
          have f14 : u 14 = undef := hF 14 (by kernel_rfl)
          simp only [putsFrom, Act.put, Nat.reduceAdd, List.setIfInBounds_toArray, List.set_cons_zero, List.set_cons_succ, f7, f14] at hK ⊢
          clear hF
          go_simp
          exact hK.out _ _ (Alters.refl _) rfl
        · intro u W K hS hF hK
          have f4 : u 4 = .bool true := hF 4 (by kernel_rfl)
          have f7 : u 7 = undef := hF 7 (by kernel_rfl)
          have f15 : u 15 = undef := hF 15 (by kernel_rfl)
          simp only [putsFrom, Act.put, Nat.reduceAdd, List.setIfInBounds_toArray, List.set_cons_zero, List.set_cons_succ, f4, f7, f15] at hK ⊢
          clear hF
          go_simp
          exact hK.out _ _ (Alters.refl _) rfl
        · intro u W hS hF
          have f4 : u 4 = .bool true := hF 4 (by simp)
          have f16 : u 16 = undef := hF 16 (by simp)
          simp only [putsFrom, Act.put, Nat.reduceAdd, List.setIfInBounds_toArray, List.set_cons_zero, List.set_cons_succ, f4, f16]
          clear hF f4 f16
          have HS := Go.Lib.hid hS
          clear hS
          go_simp
          go_wp2_with fail
          go_ret
          exact ⟨by rw [HE.out]; rfl, HS.out.quiet⟩
      · have HN : Hid (isName q.1 = true) := Go.Lib.hid hn
        clear hn
        rcases Nat.eq_zero_or_pos k with hk0 | hk0
        · have HE : Hid (propsAt l (k + 1) = propsOk l) := Go.Lib.hid (by subst hk0; rw [← hE, propsAt_zero hq, HN.out, Bool.true_and])
          have b6 : decide (0 < k) = false := by simp [hk0]
          clear hE hQ hc hq hk0
          have hB : Blk (wr.alloc (.cells #[.string q.1, .int .i64 q.2] 95)) wr.heap.size #[.string q.1, .int .i64 q.2] 95 := Blk.new _ _ _
          have hq1 : Quiet wr (wr.alloc (.cells #[.string q.1, .int .i64 q.2] 95)) := (Alters.refl _).alloc _
          go_upto_region 4 with (fail)
          clear d0 d1
          generalize wr.alloc _ = w1 at *
          refine wp_region_wants (by kernel_rfl) (by kernel_rfl) (by kernel_rfl) (by kernel_rfl) (CellsAt w [(⟨wr.heap.size, 0, none⟩, .string q.1), (⟨wr.heap.size, 1, none⟩, .int .i64 q.2)]) (fun _ _ hq h => h.keep hq) [Want.is (.pointer (some ⟨wr.heap.size, 0, none⟩)), Want.is (.string q.1), Want.is (.bool true), Want.is (.bool false), Want.is (.bool false), Want.is (.int .i64 (k : Int)), Want.is (.bool false), Want.is (.bool false), Want.is (undef), Want.is (undef), Want.is (undef), Want.is (undef), Want.is (undef), Want.is (undef), Want.is (undef), Want.is (undef), Want.is (.bool false)] ((CellsAt.cons (a := ⟨wr.heap.size, 0, none⟩) (v := .string q.1) (hB.cell 0 rfl) (CellsAt.cons (a := ⟨wr.heap.size, 1, none⟩) (v := .int .i64 q.2) (hB.cell 1 rfl) (CellsAt.nil (HQ.out.trans hq1)))).keep ((Alters.refl _).drew)) (by decide) ?_
          refine Steps.cons ?_ (Steps.cons ?_ (Steps.cons ?_ (Steps.cons ?_ (Steps.cons ?_ (Steps.cons ?_ (Steps.cons ?_ (Steps.cons ?_ (Steps.cons ?_ (Steps.cons ?_ (Steps.cons ?_ (Steps.cons ?_ (Steps.cons ?_ (Steps.cons ?_ (Steps.cons ?_ (Steps.cons ?_ (Steps.cons ?_ (Steps.last ?_)))))))))))))))))
          · intro u W K hS hF hK
            simp only [putsFrom, Act.put, Nat.reduceAdd, List.setIfInBounds_toArray, List.set_cons_zero, List.set_cons_succ] at hK ⊢
            clear hF
            go_simp
            exact hK.out _ _ (Alters.refl _) rfl
          · intro u W K hS hF hK
            have f0 : u 0 = .pointer (some ⟨wr.heap.size, 0, none⟩) := hF 0 (by kernel_rfl)
            simp only [putsFrom, Act.put, Nat.reduceAdd, List.setIfInBounds_toArray, List.set_cons_zero, List.set_cons_succ, f0] at hK ⊢
            clear hF
            have x0 := hS.at (wr.heap.size) (0) (.string q.1) (by simp)
            go_simp
            exact hK.out _ _ (Alters.refl _) rfl
          · intro u W K hS hF hK
            have f1 : u 1 = .string q.1 := hF 1 (by kernel_rfl)
            simp only [putsFrom, Act.put, Nat.reduceAdd, List.setIfInBounds_toArray, List.set_cons_zero, List.set_cons_succ, f1] at hK ⊢
            clear hF
            go_simp
            refine (name8_walk q.1 W).mono ?_
            rintro e W2 ⟨rfl, rfl⟩
            exact hK.out _ _ (Alters.refl _) (show Value.bool (isName q.1) = .bool true by rw [HN.out])
          · intro u W K hS hF hK
            have f2 : u 2 = .bool true := hF 2 (by kernel_rfl)
            simp only [putsFrom, Act.put, Nat.reduceAdd, List.setIfInBounds_toArray, List.set_cons_zero, List.set_cons_succ, f2] at hK ⊢
            clear hF
            go_simp
            exact hK.out _ _ (Alters.refl _) rfl
          · intro u W K hS hF hK
            have f3 : u 3 = .bool false := hF 3 (by kernel_rfl)
            simp only [putsFrom, Act.put, Nat.reduceAdd, List.setIfInBounds_toArray, List.set_cons_zero, List.set_cons_succ, f3] at hK ⊢
            clear hF
            go_simp
            exact hK.out _ _ (Alters.refl _) rfl
          · intro u W K hS hF hK
            have f4 : u 4 = .bool false := hF 4 (by kernel_rfl)
            simp only [putsFrom, Act.put, Nat.reduceAdd, List.setIfInBounds_toArray, List.set_cons_zero, List.set_cons_succ, f4] at hK ⊢
            clear hF
            go_simp
            exact hK.out _ _ (Alters.refl _) rfl
          · intro u W K hS hF hK
            have f4 : u 4 = .bool false := hF 4 (by kernel_rfl)
            have f5 : u 5 = .int .i64 (k : Int) := hF 5 (by kernel_rfl)
            simp only [putsFrom, Act.put, Nat.reduceAdd, List.setIfInBounds_toArray, List.set_cons_zero, List.set_cons_succ, f4, f5] at hK ⊢
            clear hF
            go_simp
            exact hK.out _ _ (Alters.refl _) rfl
          · intro u W K hS hF hK
            have f4 : u 4 = .bool false := hF 4 (by kernel_rfl)
            have f6 : u 6 = .bool false := hF 6 (by kernel_rfl)
            simp only [putsFrom, Act.put, Nat.reduceAdd, List.setIfInBounds_toArray, List.set_cons_zero, List.set_cons_succ, f4, f6] at hK ⊢
            clear hF
            go_simp
            exact hK.out _ _ (Alters.refl _) rfl
          · intro u W K hS hF hK
            have f7 : u 7 = .bool false := hF 7 (by kernel_rfl)
            simp only [putsFrom, Act.put, Nat.reduceAdd, List.setIfInBounds_toArray, List.set_cons_zero, List.set_cons_succ, f7] at hK ⊢
            clear hF
            go_simp
            exact hK.out _ _ (Alters.refl _) rfl
          · intro u W K hS hF hK
            have f7 : u 7 = .bool false := hF 7 (by kernel_rfl)
            simp only [putsFrom, Act.put, Nat.reduceAdd, List.setIfInBounds_toArray, List.set_cons_zero, List.set_cons_succ, f7] at hK ⊢
            clear hF
            go_simp
            exact hK.out _ _ (Alters.refl _) rfl
          · intro u W K hS hF hK
            have f7 : u 7 = .bool false := hF 7 (by kernel_rfl)
            have f9 : u 9 = undef := hF 9 (by kernel_rfl)
            simp only [putsFrom, Act.put, Nat.reduceAdd, List.setIfInBounds_toArray, List.set_cons_zero, List.set_cons_succ, f7, f9] at hK ⊢
            clear hF
            go_simp
            exact hK.out _ _ (Alters.refl _) rfl
          · intro u W K hS hF hK
            have f7 : u 7 = .bool false := hF 7 (by kernel_rfl)
            have f8 : u 8 = undef := hF 8 (by kernel_rfl)
            have f10 : u 10 = undef := hF 10 (by kernel_rfl)
            simp only [putsFrom, Act.put, Nat.reduceAdd, List.setIfInBounds_toArray, List.set_cons_zero, List.set_cons_succ, f7, f8, f10] at hK ⊢
            clear hF
            go_simp
            exact hK.out _ _ (Alters.refl _) rfl
          · intro u W K hS hF hK
            have f7 : u 7 = .bool false := hF 7 (by kernel_rfl)
            have f11 : u 11 = undef := hF 11 (by kernel_rfl)
            simp only [putsFrom, Act.put, Nat.reduceAdd, List.setIfInBounds_toArray, List.set_cons_zero, List.set_cons_succ, f7, f11] at hK ⊢
            clear hF
            go_simp
            exact hK.out _ _ (Alters.refl _) rfl
          · intro u W K hS hF hK
            have f7 : u 7 = .bool false := hF 7 (by kernel_rfl)
            simp only [putsFrom, Act.put, Nat.reduceAdd, List.setIfInBounds_toArray, List.set_cons_zero, List.set_cons_succ, f7] at hK ⊢
            clear hF
            go_simp
            exact hK.out _ _ (Alters.refl _) rfl
          · intro u W K hS hF hK
            have f7 : u 7 = .bool false := hF 7 (by kernel_rfl)
            have f12 : u 12 = undef := hF 12 (by kernel_rfl)
            have f13 : u 13 = undef := hF 13 (by kernel_rfl)
            simp only [putsFrom, Act.put, Nat.reduceAdd, List.setIfInBounds_toArray, List.set_cons_zero, List.set_cons_succ, f7, f12, f13] at hK ⊢
            clear hF
            go_simp
            exact hK.out _ _ (Alters.refl _) rfl
          · intro u W K hS hF hK
            have f7 : u 7 = .bool false := hF 7 (by kernel_rfl)
            have f14 : u 14 = undef := hF 14 (by kernel_rfl)
            simp only [putsFrom, Act.put, Nat.reduceAdd, List.setIfInBounds_toArray, List.set_cons_zero, List.set_cons_succ, f7, f14] at hK ⊢
            clear hF
            go_simp
            exact hK.out _ _ (Alters.refl _) rfl
          · intro u W K hS hF hK
            have f4 : u 4 = .bool false := hF 4 (by kernel_rfl)
            have f7 : u 7 = .bool false := hF 7 (by kernel_rfl)
            have f15 : u 15 = undef := hF 15 (by kernel_rfl)
            simp only [putsFrom, Act.put, Nat.reduceAdd, List.setIfInBounds_toArray, List.set_cons_zero, List.set_cons_succ, f4, f7, f15] at hK ⊢
            clear hF
            go_simp
            exact hK.out _ _ (Alters.refl _) rfl
          · intro u W hS hF
            have f4 : u 4 = .bool false := hF 4 (by simp)
            have f16 : u 16 = .bool false := hF 16 (by simp)
            simp only [putsFrom, Act.put, Nat.reduceAdd, List.setIfInBounds_toArray, List.set_cons_zero, List.set_cons_succ, f4, f16]
            clear hF f4 f16
            have HS := Go.Lib.hid hS
            clear hS
            go_simp
            go_wp2_with fail
            go_roundw
            case rel => exact ⟨k + 1, by omega, by go_num, by rw [← HE.out], HS.out.quiet⟩
            case measure => simp [intOf]; omega
        · obtain ⟨m, hm⟩ : ∃ m, k = m + 1 := ⟨k - 1, by omega⟩
          have hkm : (k : Int) - 1 = (m : Int) := by omega
          have b6 : decide (0 < k) = true := by simpa using hk0
          obtain ⟨r, hr⟩ : ∃ r, l[m]? = some r := ⟨_, List.getElem?_eq_getElem (by omega)⟩
          obtain ⟨e0, e1⟩ := hc m r hr
          replace e0 := hQ.cell e0 (by simp)
          replace e1 := hQ.cell e1 (by simp)
          have hs := propsAt_step (by rw [← hm]; exact hq) hr
          rw [HN.out, Bool.true_and, ← hm] at hs
          by_cases ho : ordP r q < 0
          · have HE : Hid (propsAt l (k + 1) = propsOk l) := Go.Lib.hid (by rw [← hE, hs]; simp [ho, hm])
            have b9 : decide (0 ≤ ordP r q) = false := by simpa using ho
            have hml : m < l.length := by omega
            have hwm : IntKind.i64.wrap (m : Int) = (m : Int) := by rw [IntKind.wrap_i64]; omega
            clear hE hQ hc hq hr hs ho hm hk0
            have hB : Blk (wr.alloc (.cells #[.string q.1, .int .i64 q.2] 95)) wr.heap.size #[.string q.1, .int .i64 q.2] 95 := Blk.new _ _ _
            have hq1 : Quiet wr (wr.alloc (.cells #[.string q.1, .int .i64 q.2] 95)) := (Alters.refl _).alloc _
            go_upto_region 4 with (fail)
            replace e0 := hq1.cell e0 (by simp)
            replace e1 := hq1.cell e1 (by simp)
            clear d0 d1
            generalize wr.alloc _ = w1 at *
            refine wp_region_wants (by kernel_rfl) (by kernel_rfl) (by kernel_rfl) (by kernel_rfl) (CellsAt w [(⟨wr.heap.size, 0, none⟩, .string q.1), (⟨wr.heap.size, 1, none⟩, .int .i64 q.2), (⟨b, o + m * 2, none⟩, .string r.1), (⟨b, o + m * 2 + 1, none⟩, .int .i64 r.2)]) (fun _ _ hq h => h.keep hq) [Want.is (.pointer (some ⟨wr.heap.size, 0, none⟩)), Want.is (.string q.1), Want.is (.bool true), Want.is (.bool false), Want.is (.bool false), Want.is (.int .i64 (k : Int)), Want.is (.bool true), Want.is (.bool true), Want.is (.slice (some ⟨b, o, none⟩) l.length cap), Want.is (.int .i64 (k : Int)), Want.is (.int .i64 (m : Int)), Want.is (.pointer (some ⟨b, o + m * 2, none⟩)), Want.is (.agg #[.string r.1, .int .i64 r.2]), Want.is (.agg #[.string q.1, .int .i64 q.2]), Want.is (.int .i64 (ordP r q)), Want.is (.bool false), Want.is (.bool false)] ((CellsAt.cons (a := ⟨wr.heap.size, 0, none⟩) (v := .string q.1) (hB.cell 0 rfl) (CellsAt.cons (a := ⟨wr.heap.size, 1, none⟩) (v := .int .i64 q.2) (hB.cell 1 rfl) (CellsAt.cons (a := ⟨b, o + m * 2, none⟩) (v := .string r.1) (e0) (CellsAt.cons (a := ⟨b, o + m * 2 + 1, none⟩) (v := .int .i64 r.2) (e1) (CellsAt.nil (HQ.out.trans hq1)))))).keep ((Alters.refl _).drew)) (by decide) ?_
            refine Steps.cons ?_ (Steps.cons ?_ (Steps.cons ?_ (Steps.cons ?_ (Steps.cons ?_ (Steps.cons ?_ (Steps.cons ?_ (Steps.cons ?_ (Steps.cons ?_ (Steps.cons ?_ (Steps.cons ?_ (Steps.cons ?_ (Steps.cons ?_ (Steps.cons ?_ (Steps.cons ?_ (Steps.cons ?_ (Steps.cons ?_ (Steps.last ?_)))))))))))))))))
            · intro u W K hS hF hK
              simp only [putsFrom, Act.put, Nat.reduceAdd, List.setIfInBounds_toArray, List.set_cons_zero, List.set_cons_succ] at hK ⊢
              clear hF
              go_simp
              exact hK.out _ _ (Alters.refl _) rfl
            · intro u W K hS hF hK
              have f0 : u 0 = .pointer (some ⟨wr.heap.size, 0, none⟩) := hF 0 (by kernel_rfl)
              simp only [putsFrom, Act.put, Nat.reduceAdd, List.setIfInBounds_toArray, List.set_cons_zero, List.set_cons_succ, f0] at hK ⊢
              clear hF
              have x0 := hS.at (wr.heap.size) (0) (.string q.1) (by simp)
              go_simp
              exact hK.out _ _ (Alters.refl _) rfl
            · intro u W K hS hF hK
              have f1 : u 1 = .string q.1 := hF 1 (by kernel_rfl)
              simp only [putsFrom, Act.put, Nat.reduceAdd, List.setIfInBounds_toArray, List.set_cons_zero, List.set_cons_succ, f1] at hK ⊢
              clear hF
              go_simp
              refine (name8_walk q.1 W).mono ?_
              rintro e W2 ⟨rfl, rfl⟩
              exact hK.out _ _ (Alters.refl _) (show Value.bool (isName q.1) = .bool true by rw [HN.out])
            · intro u W K hS hF hK
              have f2 : u 2 = .bool true := hF 2 (by kernel_rfl)
              simp only [putsFrom, Act.put, Nat.reduceAdd, List.setIfInBounds_toArray, List.set_cons_zero, List.set_cons_succ, f2] at hK ⊢
              clear hF
              go_simp
              exact hK.out _ _ (Alters.refl _) rfl
            · intro u W K hS hF hK
              have f3 : u 3 = .bool false := hF 3 (by kernel_rfl)
              simp only [putsFrom, Act.put, Nat.reduceAdd, List.setIfInBounds_toArray, List.set_cons_zero, List.set_cons_succ, f3] at hK ⊢
              clear hF
              go_simp
              exact hK.out _ _ (Alters.refl _) rfl
            · intro u W K hS hF hK
              have f4 : u 4 = .bool false := hF 4 (by kernel_rfl)
              simp only [putsFrom, Act.put, Nat.reduceAdd, List.setIfInBounds_toArray, List.set_cons_zero, List.set_cons_succ, f4] at hK ⊢
              clear hF
              go_simp
              exact hK.out _ _ (Alters.refl _) rfl
            · intro u W K hS hF hK
              have f4 : u 4 = .bool false := hF 4 (by kernel_rfl)
              have f5 : u 5 = .int .i64 (k : Int) := hF 5 (by kernel_rfl)
              simp only [putsFrom, Act.put, Nat.reduceAdd, List.setIfInBounds_toArray, List.set_cons_zero, List.set_cons_succ, f4, f5] at hK ⊢
              clear hF
              go_simp
              exact hK.out _ _ (Alters.refl _) rfl
            · intro u W K hS hF hK
              have f4 : u 4 = .bool false := hF 4 (by kernel_rfl)
              have f6 : u 6 = .bool true := hF 6 (by kernel_rfl)
              simp only [putsFrom, Act.put, Nat.reduceAdd, List.setIfInBounds_toArray, List.set_cons_zero, List.set_cons_succ, f4, f6] at hK ⊢
              clear hF
              go_simp
              exact hK.out _ _ (Alters.refl _) rfl
            · intro u W K hS hF hK
              have f7 : u 7 = .bool true := hF 7 (by kernel_rfl)
              simp only [putsFrom, Act.put, Nat.reduceAdd, List.setIfInBounds_toArray, List.set_cons_zero, List.set_cons_succ, f7] at hK ⊢
              clear hF
              go_simp
              exact hK.out _ _ (Alters.refl _) rfl
            · intro u W K hS hF hK
              have f7 : u 7 = .bool true := hF 7 (by kernel_rfl)
              simp only [putsFrom, Act.put, Nat.reduceAdd, List.setIfInBounds_toArray, List.set_cons_zero, List.set_cons_succ, f7] at hK ⊢
              clear hF
              go_simp
              exact hK.out _ _ (Alters.refl _) rfl
            · intro u W K hS hF hK
              have f7 : u 7 = .bool true := hF 7 (by kernel_rfl)
              have f9 : u 9 = .int .i64 (k : Int) := hF 9 (by kernel_rfl)
              simp only [putsFrom, Act.put, Nat.reduceAdd, List.setIfInBounds_toArray, List.set_cons_zero, List.set_cons_succ, f7, f9] at hK ⊢
              clear hF
              go_simp
              exact hK.out _ _ (Alters.refl _) rfl
            · intro u W K hS hF hK
              have f7 : u 7 = .bool true := hF 7 (by kernel_rfl)
              have f8 : u 8 = .slice (some ⟨b, o, none⟩) l.length cap := hF 8 (by kernel_rfl)
              have f10 : u 10 = .int .i64 (m : Int) := hF 10 (by kernel_rfl)
              simp only [putsFrom, Act.put, Nat.reduceAdd, List.setIfInBounds_toArray, List.set_cons_zero, List.set_cons_succ, f7, f8, f10] at hK ⊢
              clear hF
              go_simp
              exact hK.out _ _ (Alters.refl _) rfl
            · intro u W K hS hF hK
              have f7 : u 7 = .bool true := hF 7 (by kernel_rfl)
              have f11 : u 11 = .pointer (some ⟨b, o + m * 2, none⟩) := hF 11 (by kernel_rfl)
              simp only [putsFrom, Act.put, Nat.reduceAdd, List.setIfInBounds_toArray, List.set_cons_zero, List.set_cons_succ, f7, f11] at hK ⊢
              clear hF
              have x0 := hS.at (b) (o + m * 2) (.string r.1) (by simp)
              have x1 := hS.at (b) (o + m * 2 + 1) (.int .i64 r.2) (by simp)
              go_simp
              exact hK.out _ _ (Alters.refl _) rfl
            · intro u W K hS hF hK
              have f7 : u 7 = .bool true := hF 7 (by kernel_rfl)
              simp only [putsFrom, Act.put, Nat.reduceAdd, List.setIfInBounds_toArray, List.set_cons_zero, List.set_cons_succ, f7] at hK ⊢
              clear hF
              have x0 := hS.at (wr.heap.size) (0) (.string q.1) (by simp)
              have x1 := hS.at (wr.heap.size) (1) (.int .i64 q.2) (by simp)
              go_simp
              exact hK.out _ _ (Alters.refl _) rfl
            · intro u W K hS hF hK
              have f7 : u 7 = .bool true := hF 7 (by kernel_rfl)
              have f12 : u 12 = .agg #[.string r.1, .int .i64 r.2] := hF 12 (by kernel_rfl)
              have f13 : u 13 = .agg #[.string q.1, .int .i64 q.2] := hF 13 (by kernel_rfl)
              simp only [putsFrom, Act.put, Nat.reduceAdd, List.setIfInBounds_toArray, List.set_cons_zero, List.set_cons_succ, f7, f12, f13] at hK ⊢
              clear hF
              go_simp
              refine (order_walk r q W).mono ?_
              rintro e W2 ⟨rfl, hq⟩
              exact hK.out _ _ hq rfl
            · intro u W K hS hF hK
              have f7 : u 7 = .bool true := hF 7 (by kernel_rfl)
              have f14 : u 14 = .int .i64 (ordP r q) := hF 14 (by kernel_rfl)
              simp only [putsFrom, Act.put, Nat.reduceAdd, List.setIfInBounds_toArray, List.set_cons_zero, List.set_cons_succ, f7, f14] at hK ⊢
              clear hF
              go_simp
              exact hK.out _ _ (Alters.refl _) rfl
            · intro u W K hS hF hK
              have f4 : u 4 = .bool false := hF 4 (by kernel_rfl)
              have f7 : u 7 = .bool true := hF 7 (by kernel_rfl)
              have f15 : u 15 = .bool false := hF 15 (by kernel_rfl)
              simp only [putsFrom, Act.put, Nat.reduceAdd, List.setIfInBounds_toArray, List.set_cons_zero, List.set_cons_succ, f4, f7, f15] at hK ⊢
              clear hF
              go_simp
              exact hK.out _ _ (Alters.refl _) rfl
            · intro u W hS hF
              have f4 : u 4 = .bool false := hF 4 (by simp)
              have f16 : u 16 = .bool false := hF 16 (by simp)
              simp only [putsFrom, Act.put, Nat.reduceAdd, List.setIfInBounds_toArray, List.set_cons_zero, List.set_cons_succ, f4, f16]
              clear hF f4 f16
              have HS := Go.Lib.hid hS
              clear hS
              go_simp
              go_wp2_with fail
              go_roundw
              case rel => exact ⟨k + 1, by omega, by go_num, by rw [← HE.out], HS.out.quiet⟩
              case measure => simp [intOf]; omega
          · have HE : Hid (propsOk l = false) := Go.Lib.hid (by rw [← hE, hs]; simp [ho])
            have b9 : decide (0 ≤ ordP r q) = true := by simpa using ho
            have hml : m < l.length := by omega
            have hwm : IntKind.i64.wrap (m : Int) = (m : Int) := by rw [IntKind.wrap_i64]; omega
            clear hE hQ hc hq hr hs ho hm hk0
            have hB : Blk (wr.alloc (.cells #[.string q.1, .int .i64 q.2] 95)) wr.heap.size #[.string q.1, .int .i64 q.2] 95 := Blk.new _ _ _
            have hq1 : Quiet wr (wr.alloc (.cells #[.string q.1, .int .i64 q.2] 95)) := (Alters.refl _).alloc _
            go_upto_region 4 with (fail)
            replace e0 := hq1.cell e0 (by simp)
            replace e1 := hq1.cell e1 (by simp)
            clear d0 d1
            generalize wr.alloc _ = w1 at *
            refine wp_region_wants (by kernel_rfl) (by kernel_rfl) (by kernel_rfl) (by kernel_rfl) (CellsAt w [(⟨wr.heap.size, 0, none⟩, .string q.1), (⟨wr.heap.size, 1, none⟩, .int .i64 q.2), (⟨b, o + m * 2, none⟩, .string r.1), (⟨b, o + m * 2 + 1, none⟩, .int .i64 r.2)]) (fun _ _ hq h => h.keep hq) [Want.is (.pointer (some ⟨wr.heap.size, 0, none⟩)), Want.is (.string q.1), Want.is (.bool true), Want.is (.bool false), Want.is (.bool false), Want.is (.int .i64 (k : Int)), Want.is (.bool true), Want.is (.bool true), Want.is (.slice (some ⟨b, o, none⟩) l.length cap), Want.is (.int .i64 (k : Int)), Want.is (.int .i64 (m : Int)), Want.is (.pointer (some ⟨b, o + m * 2, none⟩)), Want.is (.agg #[.string r.1, .int .i64 r.2]), Want.is (.agg #[.string q.1, .int .i64 q.2]), Want.is (.int .i64 (ordP r q)), Want.is (.bool true), Want.is (.bool true)] ((CellsAt.cons (a := ⟨wr.heap.size, 0, none⟩) (v := .string q.1) (hB.cell 0 rfl) (CellsAt.cons (a := ⟨wr.heap.size, 1, none⟩) (v := .int .i64 q.2) (hB.cell 1 rfl) (CellsAt.cons (a := ⟨b, o + m * 2, none⟩) (v := .string r.1) (e0) (CellsAt.cons (a := ⟨b, o + m * 2 + 1, none⟩) (v := .int .i64 r.2) (e1) (CellsAt.nil (HQ.out.trans hq1)))))).keep ((Alters.refl _).drew)) (by decide) ?_
            refine Steps.cons ?_ (Steps.cons ?_ (Steps.cons ?_ (Steps.cons ?_ (Steps.cons ?_ (Steps.cons ?_ (Steps.cons ?_ (Steps.cons ?_ (Steps.cons ?_ (Steps.cons ?_ (Steps.cons ?_ (Steps.cons ?_ (Steps.cons ?_ (Steps.cons ?_ (Steps.cons ?_ (Steps.cons ?_ (Steps.cons ?_ (Steps.last ?_)))))))))))))))))
            · intro u W K hS hF hK
              simp only [putsFrom, Act.put, Nat.reduceAdd, List.setIfInBounds_toArray, List.set_cons_zero, List.set_cons_succ] at hK ⊢
              clear hF
              go_simp
              exact hK.out _ _ (Alters.refl _) rfl
            · intro u W K hS hF hK
              have f0 : u 0 = .pointer (some ⟨wr.heap.size, 0, none⟩) := hF 0 (by kernel_rfl)
              simp only [putsFrom, Act.put, Nat.reduceAdd, List.setIfInBounds_toArray, List.set_cons_zero, List.set_cons_succ, f0] at hK ⊢
              clear hF
              have x0 := hS.at (wr.heap.size) (0) (.string q.1) (by simp)
              go_simp
              exact hK.out _ _ (Alters.refl _) rfl
            · intro u W K hS hF hK
              have f1 : u 1 = .string q.1 := hF 1 (by kernel_rfl)
              simp only [putsFrom, Act.put, Nat.reduceAdd, List.setIfInBounds_toArray, List.set_cons_zero, List.set_cons_succ, f1] at hK ⊢
              clear hF
              go_simp
              refine (name8_walk q.1 W).mono ?_
              rintro e W2 ⟨rfl, rfl⟩
              exact hK.out _ _ (Alters.refl _) (show Value.bool (isName q.1) = .bool true by rw [HN.out])
            · intro u W K hS hF hK
              have f2 : u 2 = .bool true := hF 2 (by kernel_rfl)
              simp only [putsFrom, Act.put, Nat.reduceAdd, List.setIfInBounds_toArray, List.set_cons_zero, List.set_cons_succ, f2] at hK ⊢
              clear hF
              go_simp
              exact hK.out _ _ (Alters.refl _) rfl
            · intro u W K hS hF hK
              have f3 : u 3 = .bool false := hF 3 (by kernel_rfl)
              simp only [putsFrom, Act.put, Nat.reduceAdd, List.setIfInBounds_toArray, List.set_cons_zero, List.set_cons_succ, f3] at hK ⊢
              clear hF
              go_simp
              exact hK.out _ _ (Alters.refl _) rfl
            · intro u W K hS hF hK
              have f4 : u 4 = .bool false := hF 4 (by kernel_rfl)
              simp only [putsFrom, Act.put, Nat.reduceAdd, List.setIfInBounds_toArray, List.set_cons_zero, List.set_cons_succ, f4] at hK ⊢
              clear hF
              go_simp
              exact hK.out _ _ (Alters.refl _) rfl
            · intro u W K hS hF hK
              have f4 : u 4 = .bool false := hF 4 (by kernel_rfl)
              have f5 : u 5 = .int .i64 (k : Int) := hF 5 (by kernel_rfl)
              simp only [putsFrom, Act.put, Nat.reduceAdd, List.setIfInBounds_toArray, List.set_cons_zero, List.set_cons_succ, f4, f5] at hK ⊢
              clear hF
              go_simp
              exact hK.out _ _ (Alters.refl _) rfl
            · intro u W K hS hF hK
              have f4 : u 4 = .bool false := hF 4 (by kernel_rfl)
              have f6 : u 6 = .bool true := hF 6 (by kernel_rfl)
              simp only [putsFrom, Act.put, Nat.reduceAdd, List.setIfInBounds_toArray, List.set_cons_zero, List.set_cons_succ, f4, f6] at hK ⊢
              clear hF
              go_simp
              exact hK.out _ _ (Alters.refl _) rfl
            · intro u W K hS hF hK
              have f7 : u 7 = .bool true := hF 7 (by kernel_rfl)
              simp only [putsFrom, Act.put, Nat.reduceAdd, List.setIfInBounds_toArray, List.set_cons_zero, List.set_cons_succ, f7] at hK ⊢
              clear hF
              go_simp
              exact hK.out _ _ (Alters.refl _) rfl
            · intro u W K hS hF hK
              have f7 : u 7 = .bool true := hF 7 (by kernel_rfl)
              simp only [putsFrom, Act.put, Nat.reduceAdd, List.setIfInBounds_toArray, List.set_cons_zero, List.set_cons_succ, f7] at hK ⊢
              clear hF
              go_simp
              exact hK.out _ _ (Alters.refl _) rfl
            · intro u W K hS hF hK
              have f7 : u 7 = .bool true := hF 7 (by kernel_rfl)
              have f9 : u 9 = .int .i64 (k : Int) := hF 9 (by kernel_rfl)
              simp only [putsFrom, Act.put, Nat.reduceAdd, List.setIfInBounds_toArray, List.set_cons_zero, List.set_cons_succ, f7, f9] at hK ⊢
              clear hF
              go_simp
              exact hK.out _ _ (Alters.refl _) rfl
            · intro u W K hS hF hK
              have f7 : u 7 = .bool true := hF 7 (by kernel_rfl)
              have f8 : u 8 = .slice (some ⟨b, o, none⟩) l.length cap := hF 8 (by kernel_rfl)
              have f10 : u 10 = .int .i64 (m : Int) := hF 10 (by kernel_rfl)
              simp only [putsFrom, Act.put, Nat.reduceAdd, List.setIfInBounds_toArray, List.set_cons_zero, List.set_cons_succ, f7, f8, f10] at hK ⊢
              clear hF
              go_simp
              exact hK.out _ _ (Alters.refl _) rfl
            · intro u W K hS hF hK
              have f7 : u 7 = .bool true := hF 7 (by kernel_rfl)
              have f11 : u 11 = .pointer (some ⟨b, o + m * 2, none⟩) := hF 11 (by kernel_rfl)
              simp only [putsFrom, Act.put, Nat.reduceAdd, List.setIfInBounds_toArray, List.set_cons_zero, List.set_cons_succ, f7, f11] at hK ⊢
              clear hF
              have x0 := hS.at (b) (o + m * 2) (.string r.1) (by simp)
              have x1 := hS.at (b) (o + m * 2 + 1) (.int .i64 r.2) (by simp)
              go_simp
              exact hK.out _ _ (Alters.refl _) rfl
            · intro u W K hS hF hK
              have f7 : u 7 = .bool true := hF 7 (by kernel_rfl)
              simp only [putsFrom, Act.put, Nat.reduceAdd, List.setIfInBounds_toArray, List.set_cons_zero, List.set_cons_succ, f7] at hK ⊢
              clear hF
              have x0 := hS.at (wr.heap.size) (0) (.string q.1) (by simp)
              have x1 := hS.at (wr.heap.size) (1) (.int .i64 q.2) (by simp)
              go_simp
              exact hK.out _ _ (Alters.refl _) rfl
            · intro u W K hS hF hK
              have f7 : u 7 = .bool true := hF 7 (by kernel_rfl)
              have f12 : u 12 = .agg #[.string r.1, .int .i64 r.2] := hF 12 (by kernel_rfl)
              have f13 : u 13 = .agg #[.string q.1, .int .i64 q.2] := hF 13 (by kernel_rfl)
              simp only [putsFrom, Act.put, Nat.reduceAdd, List.setIfInBounds_toArray, List.set_cons_zero, List.set_cons_succ, f7, f12, f13] at hK ⊢
              clear hF
              go_simp
              refine (order_walk r q W).mono ?_
              rintro e W2 ⟨rfl, hq⟩
              exact hK.out _ _ hq rfl
            · intro u W K hS hF hK
              have f7 : u 7 = .bool true := hF 7 (by kernel_rfl)
              have f14 : u 14 = .int .i64 (ordP r q) := hF 14 (by kernel_rfl)
              simp only [putsFrom, Act.put, Nat.reduceAdd, List.setIfInBounds_toArray, List.set_cons_zero, List.set_cons_succ, f7, f14] at hK ⊢
              clear hF
              go_simp
              exact hK.out _ _ (Alters.refl _) rfl
            · intro u W K hS hF hK
              have f4 : u 4 = .bool false := hF 4 (by kernel_rfl)
              have f7 : u 7 = .bool true := hF 7 (by kernel_rfl)
              have f15 : u 15 = .bool true := hF 15 (by kernel_rfl)
              simp only [putsFrom, Act.put, Nat.reduceAdd, List.setIfInBounds_toArray, List.set_cons_zero, List.set_cons_succ, f4, f7, f15] at hK ⊢
              clear hF
              go_simp
              exact hK.out _ _ (Alters.refl _) rfl
            · intro u W hS hF
              have f4 : u 4 = .bool false := hF 4 (by simp)
              have f16 : u 16 = .bool true := hF 16 (by simp)
              simp only [putsFrom, Act.put, Nat.reduceAdd, List.setIfInBounds_toArray, List.set_cons_zero, List.set_cons_succ, f4, f16]
              clear hF f4 f16
              have HS := Go.Lib.hid hS
              clear hS
              go_simp
              go_wp2_with fail
              go_ret
              exact ⟨by rw [HE.out]; rfl, HS.out.quiet⟩
    · obtain rfl : k = l.length := by omega
      have HE : Hid (propsOk l = true) := Go.Lib.hid (by rw [← hE, propsAt_end])
      clear hE hQ
      go_wp2
      go_ret
      exact ⟨by rw [HE.out]; rfl, HQ.out⟩

set_option maxRecDepth 100000 in
set_option maxHeartbeats 1000000 in
theorem stands_walk (v op x : Int) (w : World) : Calls Tryd.prog 149 #[.int .i64 v, .int .i64 op, .int .i64 x] w fun e w' => e = .returned (.bool (meets v op x)) ∧ w' = w := by
  go_enter Tryd.func149, Tryd.ntmps149
  by_cases e0 : op = 0
  · subst e0
    go_wp2
    go_ret
    exact ⟨by simp [meets] <;> rfl, rfl⟩
  by_cases e1 : op = 1
  · subst e1
    go_wp2
    go_ret
    exact ⟨by simp [meets] <;> rfl, rfl⟩
  by_cases e2 : op = 2
  · subst e2
    go_wp2
    go_ret
    exact ⟨by simp [meets] <;> rfl, rfl⟩
  by_cases e3 : op = 3
  · subst e3
    go_wp2
    go_ret
    exact ⟨by simp [meets] <;> rfl, rfl⟩
  by_cases e4 : op = 4
  · subst e4
    go_wp2
    go_ret
    exact ⟨by simp [meets] <;> rfl, rfl⟩
  by_cases e5 : op = 5
  · subst e5
    go_wp2
    go_ret
    exact ⟨by simp [meets] <;> rfl, rfl⟩
  by_cases e6 : op = 6
  · subst e6
    go_wp2
    go_ret
    exact ⟨by simp [meets] <;> rfl, rfl⟩
  have b0 : (op == 0) = false := by simpa using e0
  have b1 : (op == 1) = false := by simpa using e1
  have b2 : (op == 2) = false := by simpa using e2
  have b3 : (op == 3) = false := by simpa using e3
  have b4 : (op == 4) = false := by simpa using e4
  have b5 : (op == 5) = false := by simpa using e5
  have b6 : (op == 6) = false := by simpa using e6
  have hm : meets v op x = false := by simp [meets, e0, e1, e2, e3, e4, e5, e6]
  rw [hm]
  clear hm e0 e1 e2 e3 e4 e5 e6
  go_wp2
  go_ret
  exact ⟨rfl, rfl⟩

end Go.Proofs.YtnpcakakjhiboaaDoor
