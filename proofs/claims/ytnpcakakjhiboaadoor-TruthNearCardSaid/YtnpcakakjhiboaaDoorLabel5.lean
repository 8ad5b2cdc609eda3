/- Propositions: whether they are right, and how an atom stands: the model's way. No condition. Whether an atom holds where there are these propositions: the program's way, and the model's. No condition. -/
import Derived.Test.YtnpcakakjhiboaaDoorLabel
import Derived.Test.YtnpcakakjhiboaaDoorNodes8
namespace Go.Proofs.YtnpcakakjhiboaaDoor
open Go.RowKit Go.Lo Go.WideShapes

set_option maxRecDepth 100000 in
set_option maxHeartbeats 4000000 in
theorem right133_walk (a : Option Addr) (cap : Nat) (l : List (ByteArray × Int)) (w : World) (hl : l.length ≤ maxLen) (hp : PrAt w a l) : Calls Tryd.prog 133 #[.slice a l.length cap] w (Said (.bool (propsOk l)) w) := by
  have HP := Go.Lib.hid hp
  unfold maxLen at hl
  clear hp
  go_enter Tryd.func133, Tryd.ntmps133
  go_wp2
  go_loopw [3] (fun i wr => ∃ k : Nat, k ≤ l.length ∧ i = .int .i64 k ∧ propsAt l k = propsOk l ∧ Quiet w wr) (fun i _ => l.length - (intOf i).toNat)
  case atStart => exact ⟨0, Nat.zero_le _, rfl, rfl, Alters.refl _⟩
  case round =>
    obtain ⟨k, hk, rfl, hE, hQ⟩ := hrel
    have HQ := Go.Lib.hid hQ
    by_cases hlt : k < l.length
    · have hne : l ≠ [] := fun h => by subst h; simp at hlt
      obtain ⟨b, o, rfl, hc⟩ := HP.out hne
      obtain ⟨q, hq⟩ : ∃ q, l[k]? = some q := ⟨_, List.getElem?_eq_getElem hlt⟩
      obtain ⟨d0, d1⟩ := hc k q hq
      replace d0 := hQ.cell d0 (by simp)
      replace d1 := hQ.cell d1 (by simp)
      by_cases hn : isName q.1 = true
      rotate_left
      · have HN : Hid (isName q.1 = false) := Go.Lib.hid (by simpa using hn)
        have HE : Hid (propsOk l = false) := Go.Lib.hid (by
          rw [← hE]
          cases k with
          | zero => rw [propsAt_zero hq, HN.out]; rfl
          | succ m => rw [propsAt_step hq (List.getElem?_eq_getElem (by omega)), HN.out]; rfl)
        clear hn hE hQ hc hq
        go_upto_region 4 with (fail)
        refine wp_region_wants (by kernel_rfl) (by kernel_rfl) (by kernel_rfl) (by kernel_rfl) (CellsAt w [(⟨b, o + k * 2, none⟩, .string q.1), (⟨b, o + k * 2 + 1, none⟩, .int .i64 q.2)]) (fun _ _ hq h => h.keep hq) [Want.is (.slice (some ⟨b, o, none⟩) l.length cap), Want.is (.int .i64 (k : Int)), Want.is (.pointer (some ⟨b, o + k * 2, none⟩)), Want.is (.pointer (some ⟨b, o + k * 2, none⟩)), Want.is (.string q.1), Want.is (.bool false), Want.is (.bool true), Want.is (.bool true), Want.is (undef), Want.is (undef), Want.is (undef), Want.is (undef), Want.is (undef), Want.is (undef), Want.is (undef), Want.is (undef), Want.is (undef), Want.is (undef), Want.is (undef), Want.is (undef), Want.is (undef), Want.is (undef), Want.is (undef)] ((CellsAt.cons (a := ⟨b, o + k * 2, none⟩) (v := .string q.1) (d0) (CellsAt.cons (a := ⟨b, o + k * 2 + 1, none⟩) (v := .int .i64 q.2) (d1) (CellsAt.nil (HQ.out)))).keep ((Alters.refl _).drew)) (by decide) ?_
        refine Steps.cons ?_ (Steps.cons ?_ (Steps.cons ?_ (Steps.cons ?_ (Steps.cons ?_ (Steps.cons ?_ (Steps.cons ?_ (Steps.cons ?_ (Steps.cons ?_ (Steps.cons ?_ (Steps.cons ?_ (Steps.cons ?_ (Steps.cons ?_ (Steps.cons ?_ (Steps.cons ?_ (Steps.cons ?_ (Steps.cons ?_ (Steps.cons ?_ (Steps.cons ?_ (Steps.cons ?_ (Steps.cons ?_ (Steps.cons ?_ (Steps.cons ?_ (Steps.last ?_)))))))))))))))))))))))
        · intro u W K hS hF hK
          simp only [putsFrom, Act.put, Nat.reduceAdd, List.setIfInBounds_toArray, List.set_cons_zero, List.set_cons_succ] at hK ⊢
          clear hF
          go_simp
          exact hK.out _ _ (Alters.refl _) rfl
        · intro u W K hS hF hK
          simp only [putsFrom, Act.put, Nat.reduceAdd, List.setIfInBounds_toArray, List.set_cons_zero, List.set_cons_succ] at hK ⊢
          clear hF
          go_simp
          exact hK.out _ _ (Alters.refl _) rfl
        · intro u W K hS hF hK
          have f0 : u 0 = .slice (some ⟨b, o, none⟩) l.length cap := hF 0 (by kernel_rfl)
          have f1 : u 1 = .int .i64 (k : Int) := hF 1 (by kernel_rfl)
          simp only [putsFrom, Act.put, Nat.reduceAdd, List.setIfInBounds_toArray, List.set_cons_zero, List.set_cons_succ, f0, f1] at hK ⊢
          clear hF
          go_simp
          exact hK.out _ _ (Alters.refl _) rfl
        · intro u W K hS hF hK
          have f2 : u 2 = .pointer (some ⟨b, o + k * 2, none⟩) := hF 2 (by kernel_rfl)
          simp only [putsFrom, Act.put, Nat.reduceAdd, List.setIfInBounds_toArray, List.set_cons_zero, List.set_cons_succ, f2] at hK ⊢
          clear hF
          go_simp
          exact hK.out _ _ (Alters.refl _) rfl
        · intro u W K hS hF hK
          have f3 : u 3 = .pointer (some ⟨b, o + k * 2, none⟩) := hF 3 (by kernel_rfl)
          simp only [putsFrom, Act.put, Nat.reduceAdd, List.setIfInBounds_toArray, List.set_cons_zero, List.set_cons_succ, f3] at hK ⊢
          clear hF
          have x0 := hS.at (b) (o + k * 2) (.string q.1) (by simp)
          go_simp
          exact hK.out _ _ (Alters.refl _) rfl
        · intro u W K hS hF hK
          have f4 : u 4 = .string q.1 := hF 4 (by kernel_rfl)
          simp only [putsFrom, Act.put, Nat.reduceAdd, List.setIfInBounds_toArray, List.set_cons_zero, List.set_cons_succ, f4] at hK ⊢
          clear hF
          go_simp
          refine (name5_walk q.1 W).mono ?_
          rintro e W2 ⟨rfl, rfl⟩
          exact hK.out _ _ (Alters.refl _) (show Value.bool (isName q.1) = .bool false by rw [HN.out])
        · intro u W K hS hF hK
          have f5 : u 5 = .bool false := hF 5 (by kernel_rfl)
          simp only [putsFrom, Act.put, Nat.reduceAdd, List.setIfInBounds_toArray, List.set_cons_zero, List.set_cons_succ, f5] at hK ⊢
          clear hF
          go_simp
          exact hK.out _ _ (Alters.refl _) rfl
        · intro u W K hS hF hK
          have f6 : u 6 = .bool true := hF 6 (by kernel_rfl)
          simp only [putsFrom, Act.put, Nat.reduceAdd, List.setIfInBounds_toArray, List.set_cons_zero, List.set_cons_succ, f6] at hK ⊢
          clear hF
          go_simp
          exact hK.out _ _ (Alters.refl _) rfl
        · intro u W K hS hF hK
          have f7 : u 7 = .bool true := hF 7 (by kernel_rfl)
          simp only [putsFrom, Act.put, Nat.reduceAdd, List.setIfInBounds_toArray, List.set_cons_zero, List.set_cons_succ, f7] at hK ⊢
          clear hF
          go_simp
          exact hK.out _ _ (Alters.refl _) rfl
        · intro u W K hS hF hK
          have f7 : u 7 = .bool true := hF 7 (by kernel_rfl)
          have f8 : u 8 = undef := hF 8 (by kernel_rfl)
          simp only [putsFrom, Act.put, Nat.reduceAdd, List.setIfInBounds_toArray, List.set_cons_zero, List.set_cons_succ, f7, f8] at hK ⊢
          clear hF
          go_simp
          exact hK.out _ _ (Alters.refl _) rfl
        · intro u W K hS hF hK
          have f7 : u 7 = .bool true := hF 7 (by kernel_rfl)
          have f9 : u 9 = undef := hF 9 (by kernel_rfl)
          simp only [putsFrom, Act.put, Nat.reduceAdd, List.setIfInBounds_toArray, List.set_cons_zero, List.set_cons_succ, f7, f9] at hK ⊢
          clear hF
          go_simp
          exact hK.out _ _ (Alters.refl _) rfl
        · intro u W K hS hF hK
          have f10 : u 10 = undef := hF 10 (by kernel_rfl)
          simp only [putsFrom, Act.put, Nat.reduceAdd, List.setIfInBounds_toArray, List.set_cons_zero, List.set_cons_succ, f10] at hK ⊢
          clear hF
          go_simp
          exact hK.out _ _ (Alters.refl _) rfl
        · intro u W K hS hF hK
          have f10 : u 10 = undef := hF 10 (by kernel_rfl)
          simp only [putsFrom, Act.put, Nat.reduceAdd, List.setIfInBounds_toArray, List.set_cons_zero, List.set_cons_succ, f10] at hK ⊢
          clear hF
          go_simp
          exact hK.out _ _ (Alters.refl _) rfl
        · intro u W K hS hF hK
          have f10 : u 10 = undef := hF 10 (by kernel_rfl)
          have f12 : u 12 = undef := hF 12 (by kernel_rfl)
          simp only [putsFrom, Act.put, Nat.reduceAdd, List.setIfInBounds_toArray, List.set_cons_zero, List.set_cons_succ, f10, f12] at hK ⊢
          clear hF
          go_simp
          exact hK.out _ _ (Alters.refl _) rfl
        · intro u W K hS hF hK
          have f10 : u 10 = undef := hF 10 (by kernel_rfl)
          have f11 : u 11 = undef := hF 11 (by kernel_rfl)
          have f13 : u 13 = undef := hF 13 (by kernel_rfl)
          simp only [putsFrom, Act.put, Nat.reduceAdd, List.setIfInBounds_toArray, List.set_cons_zero, List.set_cons_succ, f10, f11, f13] at hK ⊢
          clear hF
          go_simp
          exact hK.out _ _ (Alters.refl _) rfl
        · intro u W K hS hF hK
          have f10 : u 10 = undef := hF 10 (by kernel_rfl)
          have f14 : u 14 = undef := hF 14 (by kernel_rfl)
          simp only [putsFrom, Act.put, Nat.reduceAdd, List.setIfInBounds_toArray, List.set_cons_zero, List.set_cons_succ, f10, f14] at hK ⊢
          clear hF
          go_simp
          exact hK.out _ _ (Alters.refl _) rfl
        · intro u W K hS hF hK
          have f10 : u 10 = undef := hF 10 (by kernel_rfl)
          simp only [putsFrom, Act.put, Nat.reduceAdd, List.setIfInBounds_toArray, List.set_cons_zero, List.set_cons_succ, f10] at hK ⊢
          clear hF
          go_simp
          exact hK.out _ _ (Alters.refl _) rfl
        · intro u W K hS hF hK
          have f10 : u 10 = undef := hF 10 (by kernel_rfl)
          simp only [putsFrom, Act.put, Nat.reduceAdd, List.setIfInBounds_toArray, List.set_cons_zero, List.set_cons_succ, f10] at hK ⊢
          clear hF
          go_simp
          exact hK.out _ _ (Alters.refl _) rfl
        · intro u W K hS hF hK
          have f10 : u 10 = undef := hF 10 (by kernel_rfl)
          have f16 : u 16 = undef := hF 16 (by kernel_rfl)
          have f17 : u 17 = undef := hF 17 (by kernel_rfl)
          simp only [putsFrom, Act.put, Nat.reduceAdd, List.setIfInBounds_toArray, List.set_cons_zero, List.set_cons_succ, f10, f16, f17] at hK ⊢
          clear hF
          go_simp
          exact hK.out _ _ (Alters.refl _) rfl
        · intro u W K hS hF hK
          have f10 : u 10 = undef := hF 10 (by kernel_rfl)
          have f18 : u 18 = undef := hF 18 (by kernel_rfl)
          simp only [putsFrom, Act.put, Nat.reduceAdd, List.setIfInBounds_toArray, List.set_cons_zero, List.set_cons_succ, f10, f18] at hK ⊢
          clear hF
          go_simp
          exact hK.out _ _ (Alters.refl _) rfl
        · intro u W K hS hF hK
          have f10 : u 10 = undef := hF 10 (by kernel_rfl)
          have f15 : u 15 = undef := hF 15 (by kernel_rfl)
          have f19 : u 19 = undef := hF 19 (by kernel_rfl)
          simp only [putsFrom, Act.put, Nat.reduceAdd, List.setIfInBounds_toArray, List.set_cons_zero, List.set_cons_succ, f10, f15, f19] at hK ⊢
          clear hF
          go_simp
          exact hK.out _ _ (Alters.refl _) rfl
        · intro u W K hS hF hK
          have f10 : u 10 = undef := hF 10 (by kernel_rfl)
          have f20 : u 20 = undef := hF 20 (by kernel_rfl)
          simp only [putsFrom, Act.put, Nat.reduceAdd, List.setIfInBounds_toArray, List.set_cons_zero, List.set_cons_succ, f10, f20] at hK ⊢
          clear hF
          go_simp
          exact hK.out _ _ (Alters.refl _) rfl
        · intro u W K hS hF hK
          have f7 : u 7 = .bool true := hF 7 (by kernel_rfl)
          have f10 : u 10 = undef := hF 10 (by kernel_rfl)
          have f21 : u 21 = undef := hF 21 (by kernel_rfl)
          simp only [putsFrom, Act.put, Nat.reduceAdd, List.setIfInBounds_toArray, List.set_cons_zero, List.set_cons_succ, f7, f10, f21] at hK ⊢
          clear hF
          go_simp
          exact hK.out _ _ (Alters.refl _) rfl
        · intro u W hS hF
          have f7 : u 7 = .bool true := hF 7 (by simp)
          have f22 : u 22 = undef := hF 22 (by simp)
          simp only [putsFrom, Act.put, Nat.reduceAdd, List.setIfInBounds_toArray, List.set_cons_zero, List.set_cons_succ, f7, f22]
          clear hF f7 f22
          have HS := Go.Lib.hid hS
          clear hS
          go_simp
          go_wp2_with fail
          go_ret
          exact ⟨by rw [HE.out]; rfl, HS.out.quiet⟩
      · have HN : Hid (isName q.1 = true) := Go.Lib.hid hn
        clear hn
        rcases Nat.eq_zero_or_pos k with hk0 | hk0
        · have HE : Hid (propsAt l (k + 1) = propsOk l) := Go.Lib.hid (by subst hk0; rw [← hE, propsAt_zero hq, HN.out, Bool.true_and])
          have b6 : decide (0 < k) = false := by simp [hk0]
          clear hE hQ hc hq hk0
          go_upto_region 4 with (fail)
          refine wp_region_wants (by kernel_rfl) (by kernel_rfl) (by kernel_rfl) (by kernel_rfl) (CellsAt w [(⟨b, o + k * 2, none⟩, .string q.1), (⟨b, o + k * 2 + 1, none⟩, .int .i64 q.2)]) (fun _ _ hq h => h.keep hq) [Want.is (.slice (some ⟨b, o, none⟩) l.length cap), Want.is (.int .i64 (k : Int)), Want.is (.pointer (some ⟨b, o + k * 2, none⟩)), Want.is (.pointer (some ⟨b, o + k * 2, none⟩)), Want.is (.string q.1), Want.is (.bool true), Want.is (.bool false), Want.is (.bool false), Want.is (.int .i64 (k : Int)), Want.is (.bool false), Want.is (.bool false), Want.is (undef), Want.is (undef), Want.is (undef), Want.is (undef), Want.is (undef), Want.is (undef), Want.is (undef), Want.is (undef), Want.is (undef), Want.is (undef), Want.is (undef), Want.is (.bool false)] ((CellsAt.cons (a := ⟨b, o + k * 2, none⟩) (v := .string q.1) (d0) (CellsAt.cons (a := ⟨b, o + k * 2 + 1, none⟩) (v := .int .i64 q.2) (d1) (CellsAt.nil (HQ.out)))).keep ((Alters.refl _).drew)) (by decide) ?_
          refine Steps.cons ?_ (Steps.cons ?_ (Steps.cons ?_ (Steps.cons ?_ (Steps.cons ?_ (Steps.cons ?_ (Steps.cons ?_ (Steps.cons ?_ (Steps.cons ?_ (Steps.cons ?_ (Steps.cons ?_ (Steps.cons ?_ (Steps.cons ?_ (Steps.cons ?_ (Steps.cons ?_ (Steps.cons ?_ (Steps.cons ?_ (Steps.cons ?_ (Steps.cons ?_ (Steps.cons ?_ (Steps.cons ?_ (Steps.cons ?_ (Steps.cons ?_ (Steps.last ?_)))))))))))))))))))))))
          · intro u W K hS hF hK
            simp only [putsFrom, Act.put, Nat.reduceAdd, List.setIfInBounds_toArray, List.set_cons_zero, List.set_cons_succ] at hK ⊢
            clear hF
            go_simp
            exact hK.out _ _ (Alters.refl _) rfl
          · intro u W K hS hF hK
            simp only [putsFrom, Act.put, Nat.reduceAdd, List.setIfInBounds_toArray, List.set_cons_zero, List.set_cons_succ] at hK ⊢
            clear hF
            go_simp
            exact hK.out _ _ (Alters.refl _) rfl
          · intro u W K hS hF hK
            have f0 : u 0 = .slice (some ⟨b, o, none⟩) l.length cap := hF 0 (by kernel_rfl)
            have f1 : u 1 = .int .i64 (k : Int) := hF 1 (by kernel_rfl)
            simp only [putsFrom, Act.put, Nat.reduceAdd, List.setIfInBounds_toArray, List.set_cons_zero, List.set_cons_succ, f0, f1] at hK ⊢
            clear hF
            go_simp
            exact hK.out _ _ (Alters.refl _) rfl
          · intro u W K hS hF hK
            have f2 : u 2 = .pointer (some ⟨b, o + k * 2, none⟩) := hF 2 (by kernel_rfl)
            simp only [putsFrom, Act.put, Nat.reduceAdd, List.setIfInBounds_toArray, List.set_cons_zero, List.set_cons_succ, f2] at hK ⊢
            clear hF
            go_simp
            exact hK.out _ _ (Alters.refl _) rfl
          · intro u W K hS hF hK
            have f3 : u 3 = .pointer (some ⟨b, o + k * 2, none⟩) := hF 3 (by kernel_rfl)
            simp only [putsFrom, Act.put, Nat.reduceAdd, List.setIfInBounds_toArray, List.set_cons_zero, List.set_cons_succ, f3] at hK ⊢
            clear hF
            have x0 := hS.at (b) (o + k * 2) (.string q.1) (by simp)
            go_simp
            exact hK.out _ _ (Alters.refl _) rfl
          · intro u W K hS hF hK
            have f4 : u 4 = .string q.1 := hF 4 (by kernel_rfl)
            simp only [putsFrom, Act.put, Nat.reduceAdd, List.setIfInBounds_toArray, List.set_cons_zero, List.set_cons_succ, f4] at hK ⊢
            clear hF
            go_simp
            refine (name5_walk q.1 W).mono ?_
            rintro e W2 ⟨rfl, rfl⟩
            exact hK.out _ _ (Alters.refl _) (show Value.bool (isName q.1) = .bool true by rw [HN.out])
          · intro u W K hS hF hK
            have f5 : u 5 = .bool true := hF 5 (by kernel_rfl)
            simp only [putsFrom, Act.put, Nat.reduceAdd, List.setIfInBounds_toArray, List.set_cons_zero, List.set_cons_succ, f5] at hK ⊢
            clear hF
            go_simp
            exact hK.out _ _ (Alters.refl _) rfl
          · intro u W K hS hF hK
            have f6 : u 6 = .bool false := hF 6 (by kernel_rfl)
            simp only [putsFrom, Act.put, Nat.reduceAdd, List.setIfInBounds_toArray, List.set_cons_zero, List.set_cons_succ, f6] at hK ⊢
            clear hF
            go_simp
            exact hK.out _ _ (Alters.refl _) rfl
          · intro u W K hS hF hK
            have f7 : u 7 = .bool false := hF 7 (by kernel_rfl)
            simp only [putsFrom, Act.put, Nat.reduceAdd, List.setIfInBounds_toArray, List.set_cons_zero, List.set_cons_succ, f7] at hK ⊢
            clear hF
            go_simp
            exact hK.out _ _ (Alters.refl _) rfl
          · intro u W K hS hF hK
            have f7 : u 7 = .bool false := hF 7 (by kernel_rfl)
            have f8 : u 8 = .int .i64 (k : Int) := hF 8 (by kernel_rfl)
            simp only [putsFrom, Act.put, Nat.reduceAdd, List.setIfInBounds_toArray, List.set_cons_zero, List.set_cons_succ, f7, f8] at hK ⊢
            clear hF
            go_simp
            exact hK.out _ _ (Alters.refl _) rfl
          · intro u W K hS hF hK
            have f7 : u 7 = .bool false := hF 7 (by kernel_rfl)
            have f9 : u 9 = .bool false := hF 9 (by kernel_rfl)
            simp only [putsFrom, Act.put, Nat.reduceAdd, List.setIfInBounds_toArray, List.set_cons_zero, List.set_cons_succ, f7, f9] at hK ⊢
            clear hF
            go_simp
            exact hK.out _ _ (Alters.refl _) rfl
          · intro u W K hS hF hK
            have f10 : u 10 = .bool false := hF 10 (by kernel_rfl)
            simp only [putsFrom, Act.put, Nat.reduceAdd, List.setIfInBounds_toArray, List.set_cons_zero, List.set_cons_succ, f10] at hK ⊢
            clear hF
            go_simp
            exact hK.out _ _ (Alters.refl _) rfl
          · intro u W K hS hF hK
            have f10 : u 10 = .bool false := hF 10 (by kernel_rfl)
            simp only [putsFrom, Act.put, Nat.reduceAdd, List.setIfInBounds_toArray, List.set_cons_zero, List.set_cons_succ, f10] at hK ⊢
            clear hF
            go_simp
            exact hK.out _ _ (Alters.refl _) rfl
          · intro u W K hS hF hK
            have f10 : u 10 = .bool false := hF 10 (by kernel_rfl)
            have f12 : u 12 = undef := hF 12 (by kernel_rfl)
            simp only [putsFrom, Act.put, Nat.reduceAdd, List.setIfInBounds_toArray, List.set_cons_zero, List.set_cons_succ, f10, f12] at hK ⊢
            clear hF
            go_simp
            exact hK.out _ _ (Alters.refl _) rfl
          · intro u W K hS hF hK
            have f10 : u 10 = .bool false := hF 10 (by kernel_rfl)
            have f11 : u 11 = undef := hF 11 (by kernel_rfl)
            have f13 : u 13 = undef := hF 13 (by kernel_rfl)
            simp only [putsFrom, Act.put, Nat.reduceAdd, List.setIfInBounds_toArray, List.set_cons_zero, List.set_cons_succ, f10, f11, f13] at hK ⊢
            clear hF
            go_simp
            exact hK.out _ _ (Alters.refl _) rfl
          · intro u W K hS hF hK
            have f10 : u 10 = .bool false := hF 10 (by kernel_rfl)
            have f14 : u 14 = undef := hF 14 (by kernel_rfl)
            simp only [putsFrom, Act.put, Nat.reduceAdd, List.setIfInBounds_toArray, List.set_cons_zero, List.set_cons_succ, f10, f14] at hK ⊢
            clear hF
            go_simp
            exact hK.out _ _ (Alters.refl _) rfl
          · intro u W K hS hF hK
            have f10 : u 10 = .bool false := hF 10 (by kernel_rfl)
            simp only [putsFrom, Act.put, Nat.reduceAdd, List.setIfInBounds_toArray, List.set_cons_zero, List.set_cons_succ, f10] at hK ⊢
            clear hF
            go_simp
            exact hK.out _ _ (Alters.refl _) rfl
          · intro u W K hS hF hK
            have f10 : u 10 = .bool false := hF 10 (by kernel_rfl)
            simp only [putsFrom, Act.put, Nat.reduceAdd, List.setIfInBounds_toArray, List.set_cons_zero, List.set_cons_succ, f10] at hK ⊢
            clear hF
            go_simp
            exact hK.out _ _ (Alters.refl _) rfl
          · intro u W K hS hF hK
            have f10 : u 10 = .bool false := hF 10 (by kernel_rfl)
            have f16 : u 16 = undef := hF 16 (by kernel_rfl)
            have f17 : u 17 = undef := hF 17 (by kernel_rfl)
            simp only [putsFrom, Act.put, Nat.reduceAdd, List.setIfInBounds_toArray, List.set_cons_zero, List.set_cons_succ, f10, f16, f17] at hK ⊢
            clear hF
            go_simp
            exact hK.out _ _ (Alters.refl _) rfl
          · intro u W K hS hF hK
            have f10 : u 10 = .bool false := hF 10 (by kernel_rfl)
            have f18 : u 18 = undef := hF 18 (by kernel_rfl)
            simp only [putsFrom, Act.put, Nat.reduceAdd, List.setIfInBounds_toArray, List.set_cons_zero, List.set_cons_succ, f10, f18] at hK ⊢
            clear hF
            go_simp
            exact hK.out _ _ (Alters.refl _) rfl
          · intro u W K hS hF hK
            have f10 : u 10 = .bool false := hF 10 (by kernel_rfl)
            have f15 : u 15 = undef := hF 15 (by kernel_rfl)
            have f19 : u 19 = undef := hF 19 (by kernel_rfl)
            simp only [putsFrom, Act.put, Nat.reduceAdd, List.setIfInBounds_toArray, List.set_cons_zero, List.set_cons_succ, f10, f15, f19] at hK ⊢
            clear hF
            go_simp
            exact hK.out _ _ (Alters.refl _) rfl
          · intro u W K hS hF hK
            have f10 : u 10 = .bool false := hF 10 (by kernel_rfl)
            have f20 : u 20 = undef := hF 20 (by kernel_rfl)
            simp only [putsFrom, Act.put, Nat.reduceAdd, List.setIfInBounds_toArray, List.set_cons_zero, List.set_cons_succ, f10, f20] at hK ⊢
            clear hF
            go_simp
            exact hK.out _ _ (Alters.refl _) rfl
          · intro u W K hS hF hK
            have f7 : u 7 = .bool false := hF 7 (by kernel_rfl)
            have f10 : u 10 = .bool false := hF 10 (by kernel_rfl)
            have f21 : u 21 = undef := hF 21 (by kernel_rfl)
            simp only [putsFrom, Act.put, Nat.reduceAdd, List.setIfInBounds_toArray, List.set_cons_zero, List.set_cons_succ, f7, f10, f21] at hK ⊢
            clear hF
            go_simp
            exact hK.out _ _ (Alters.refl _) rfl
          · intro u W hS hF
            have f7 : u 7 = .bool false := hF 7 (by simp)
            have f22 : u 22 = .bool false := hF 22 (by simp)
            simp only [putsFrom, Act.put, Nat.reduceAdd, List.setIfInBounds_toArray, List.set_cons_zero, List.set_cons_succ, f7, f22]
            clear hF f7 f22
            have HS := Go.Lib.hid hS
            clear hS
            go_simp
            go_wp2_with fail
            go_roundw
            case rel => exact ⟨k + 1, by omega, by go_num, by rw [← HE.out], HS.out.quiet⟩
            case measure => simp [intOf]; omega
        · obtain ⟨m, hm⟩ : ∃ m, k = m + 1 := ⟨k - 1, by omega⟩
          have hkm : (k : Int) - 1 = (m : Int) := by omega
          have b6 : decide (0 < k) = true := by simpa using hk0
          obtain ⟨r, hr⟩ : ∃ r, l[m]? = some r := ⟨_, List.getElem?_eq_getElem (by omega)⟩
          obtain ⟨e0, e1⟩ := hc m r hr
          replace e0 := hQ.cell e0 (by simp)
          replace e1 := hQ.cell e1 (by simp)
          have hs := propsAt_step (by rw [← hm]; exact hq) hr
          rw [HN.out, Bool.true_and, ← hm] at hs
          by_cases ho : ordP r q < 0
          · have HE : Hid (propsAt l (k + 1) = propsOk l) := Go.Lib.hid (by rw [← hE, hs]; simp [ho, hm])
            have HB9 : Hid (decide (ordP r q < 0) = true) := Go.Lib.hid (by simpa using ho)
            have hml : m < l.length := by omega
            have hwm : IntKind.i64.wrap (m : Int) = (m : Int) := by rw [IntKind.wrap_i64]; omega
            clear hE hQ hc hq hr hs ho hm hk0
            go_upto_region 4 with (fail)
            refine wp_region_wants (by kernel_rfl) (by kernel_rfl) (by kernel_rfl) (by kernel_rfl) (CellsAt w [(⟨b, o + k * 2, none⟩, .string q.1), (⟨b, o + k * 2 + 1, none⟩, .int .i64 q.2), (⟨b, o + m * 2, none⟩, .string r.1), (⟨b, o + m * 2 + 1, none⟩, .int .i64 r.2)]) (fun _ _ hq h => h.keep hq) [Want.is (.slice (some ⟨b, o, none⟩) l.length cap), Want.is (.int .i64 (k : Int)), Want.is (.pointer (some ⟨b, o + k * 2, none⟩)), Want.is (.pointer (some ⟨b, o + k * 2, none⟩)), Want.is (.string q.1), Want.is (.bool true), Want.is (.bool false), Want.is (.bool false), Want.is (.int .i64 (k : Int)), Want.is (.bool true), Want.is (.bool true), Want.is (.slice (some ⟨b, o, none⟩) l.length cap), Want.is (.int .i64 (k : Int)), Want.is (.int .i64 (m : Int)), Want.is (.pointer (some ⟨b, o + m * 2, none⟩)), Want.is (.agg #[.string r.1, .int .i64 r.2]), Want.is (.slice (some ⟨b, o, none⟩) l.length cap), Want.is (.int .i64 (k : Int)), Want.is (.pointer (some ⟨b, o + k * 2, none⟩)), Want.is (.agg #[.string q.1, .int .i64 q.2]), Want.is (.bool true), Want.is (.bool false), Want.is (.bool false)] ((CellsAt.cons (a := ⟨b, o + k * 2, none⟩) (v := .string q.1) (d0) (CellsAt.cons (a := ⟨b, o + k * 2 + 1, none⟩) (v := .int .i64 q.2) (d1) (CellsAt.cons (a := ⟨b, o + m * 2, none⟩) (v := .string r.1) (e0) (CellsAt.cons (a := ⟨b, o + m * 2 + 1, none⟩) (v := .int .i64 r.2) (e1) (CellsAt.nil (HQ.out)))))).keep ((Alters.refl _).drew)) (by decide) ?_
            refine Steps.cons ?_ (Steps.cons ?_ (Steps.cons ?_ (Steps.cons ?_ (Steps.cons ?_ (Steps.cons ?_ (Steps.cons ?_ (Steps.cons ?_ (Steps.cons ?_ (Steps.cons ?_ (Steps.cons ?_ (Steps.cons ?_ (Steps.cons ?_ (Steps.cons ?_ (Steps.cons ?_ (Steps.cons ?_ (Steps.cons ?_ (Steps.cons ?_ (Steps.cons ?_ (Steps.cons ?_ (Steps.cons ?_ (Steps.cons ?_ (Steps.cons ?_ (Steps.last ?_)))))))))))))))))))))))
            · intro u W K hS hF hK
              simp only [putsFrom, Act.put, Nat.reduceAdd, List.setIfInBounds_toArray, List.set_cons_zero, List.set_cons_succ] at hK ⊢
              clear hF
              go_simp
              exact hK.out _ _ (Alters.refl _) rfl
            · intro u W K hS hF hK
              simp only [putsFrom, Act.put, Nat.reduceAdd, List.setIfInBounds_toArray, List.set_cons_zero, List.set_cons_succ] at hK ⊢
              clear hF
              go_simp
              exact hK.out _ _ (Alters.refl _) rfl
            · intro u W K hS hF hK
              have f0 : u 0 = .slice (some ⟨b, o, none⟩) l.length cap := hF 0 (by kernel_rfl)
              have f1 : u 1 = .int .i64 (k : Int) := hF 1 (by kernel_rfl)
              simp only [putsFrom, Act.put, Nat.reduceAdd, List.setIfInBounds_toArray, List.set_cons_zero, List.set_cons_succ, f0, f1] at hK ⊢
              clear hF
              go_simp
              exact hK.out _ _ (Alters.refl _) rfl
            · intro u W K hS hF hK
              have f2 : u 2 = .pointer (some ⟨b, o + k * 2, none⟩) := hF 2 (by kernel_rfl)
              simp only [putsFrom, Act.put, Nat.reduceAdd, List.setIfInBounds_toArray, List.set_cons_zero, List.set_cons_succ, f2] at hK ⊢
              clear hF
              go_simp
              exact hK.out _ _ (Alters.refl _) rfl
            · intro u W K hS hF hK
              have f3 : u 3 = .pointer (some ⟨b, o + k * 2, none⟩) := hF 3 (by kernel_rfl)
              simp only [putsFrom, Act.put, Nat.reduceAdd, List.setIfInBounds_toArray, List.set_cons_zero, List.set_cons_succ, f3] at hK ⊢
              clear hF
              have x0 := hS.at (b) (o + k * 2) (.string q.1) (by simp)
              go_simp
              exact hK.out _ _ (Alters.refl _) rfl
            · intro u W K hS hF hK
              have f4 : u 4 = .string q.1 := hF 4 (by kernel_rfl)
              simp only [putsFrom, Act.put, Nat.reduceAdd, List.setIfInBounds_toArray, List.set_cons_zero, List.set_cons_succ, f4] at hK ⊢
              clear hF
              go_simp
              refine (name5_walk q.1 W).mono ?_
              rintro e W2 ⟨rfl, rfl⟩
              exact hK.out _ _ (Alters.refl _) (show Value.bool (isName q.1) = .bool true by rw [HN.out])
            · intro u W K hS hF hK
              have f5 : u 5 = .bool true := hF 5 (by kernel_rfl)
              simp only [putsFrom, Act.put, Nat.reduceAdd, List.setIfInBounds_toArray, List.set_cons_zero, List.set_cons_succ, f5] at hK ⊢
              clear hF
              go_simp
              exact hK.out _ _ (Alters.refl _) rfl
            · intro u W K hS hF hK
              have f6 : u 6 = .bool false := hF 6 (by kernel_rfl)
              simp only [putsFrom, Act.put, Nat.reduceAdd, List.setIfInBounds_toArray, List.set_cons_zero, List.set_cons_succ, f6] at hK ⊢
              clear hF
              go_simp
              exact hK.out _ _ (Alters.refl _) rfl
            · intro u W K hS hF hK
              have f7 : u 7 = .bool false := hF 7 (by kernel_rfl)
              simp only [putsFrom, Act.put, Nat.reduceAdd, List.setIfInBounds_toArray, List.set_cons_zero, List.set_cons_succ, f7] at hK ⊢
              clear hF
              go_simp
              exact hK.out _ _ (Alters.refl _) rfl
            · intro u W K hS hF hK
              have f7 : u 7 = .bool false := hF 7 (by kernel_rfl)
              have f8 : u 8 = .int .i64 (k : Int) := hF 8 (by kernel_rfl)
              simp only [putsFrom, Act.put, Nat.reduceAdd, List.setIfInBounds_toArray, List.set_cons_zero, List.set_cons_succ, f7, f8] at hK ⊢
              clear hF
              go_simp
              exact hK.out _ _ (Alters.refl _) rfl
            · intro u W K hS hF hK
              have f7 : u 7 = .bool false := hF 7 (by kernel_rfl)
              have f9 : u 9 = .bool true := hF 9 (by kernel_rfl)
              simp only [putsFrom, Act.put, Nat.reduceAdd, List.setIfInBounds_toArray, List.set_cons_zero, List.set_cons_succ, f7, f9] at hK ⊢
              clear hF
              go_simp
              exact hK.out _ _ (Alters.refl _) rfl
            · intro u W K hS hF hK
              have f10 : u 10 = .bool true := hF 10 (by kernel_rfl)
              simp only [putsFrom, Act.put, Nat.reduceAdd, List.setIfInBounds_toArray, List.set_cons_zero, List.set_cons_succ, f10] at hK ⊢
              clear hF
              go_simp
              exact hK.out _ _ (Alters.refl _) rfl
            · intro u W K hS hF hK
              have f10 : u 10 = .bool true := hF 10 (by kernel_rfl)
              simp only [putsFrom, Act.put, Nat.reduceAdd, List.setIfInBounds_toArray, List.set_cons_zero, List.set_cons_succ, f10] at hK ⊢
              clear hF
              go_simp
              exact hK.out _ _ (Alters.refl _) rfl
            · intro u W K hS hF hK
              have f10 : u 10 = .bool true := hF 10 (by kernel_rfl)
              have f12 : u 12 = .int .i64 (k : Int) := hF 12 (by kernel_rfl)
              simp only [putsFrom, Act.put, Nat.reduceAdd, List.setIfInBounds_toArray, List.set_cons_zero, List.set_cons_succ, f10, f12] at hK ⊢
              clear hF
              go_simp
              exact hK.out _ _ (Alters.refl _) rfl
            · intro u W K hS hF hK
              have f10 : u 10 = .bool true := hF 10 (by kernel_rfl)
              have f11 : u 11 = .slice (some ⟨b, o, none⟩) l.length cap := hF 11 (by kernel_rfl)
              have f13 : u 13 = .int .i64 (m : Int) := hF 13 (by kernel_rfl)
              simp only [putsFrom, Act.put, Nat.reduceAdd, List.setIfInBounds_toArray, List.set_cons_zero, List.set_cons_succ, f10, f11, f13] at hK ⊢
              clear hF
              go_simp
              exact hK.out _ _ (Alters.refl _) rfl
            · intro u W K hS hF hK
              have f10 : u 10 = .bool true := hF 10 (by kernel_rfl)
              have f14 : u 14 = .pointer (some ⟨b, o + m * 2, none⟩) := hF 14 (by kernel_rfl)
              simp only [putsFrom, Act.put, Nat.reduceAdd, List.setIfInBounds_toArray, List.set_cons_zero, List.set_cons_succ, f10, f14] at hK ⊢
              clear hF
              have x0 := hS.at (b) (o + m * 2) (.string r.1) (by simp)
              have x1 := hS.at (b) (o + m * 2 + 1) (.int .i64 r.2) (by simp)
              go_simp
              exact hK.out _ _ (Alters.refl _) rfl
            · intro u W K hS hF hK
              have f10 : u 10 = .bool true := hF 10 (by kernel_rfl)
              simp only [putsFrom, Act.put, Nat.reduceAdd, List.setIfInBounds_toArray, List.set_cons_zero, List.set_cons_succ, f10] at hK ⊢
              clear hF
              go_simp
              exact hK.out _ _ (Alters.refl _) rfl
            · intro u W K hS hF hK
              have f10 : u 10 = .bool true := hF 10 (by kernel_rfl)
              simp only [putsFrom, Act.put, Nat.reduceAdd, List.setIfInBounds_toArray, List.set_cons_zero, List.set_cons_succ, f10] at hK ⊢
              clear hF
              go_simp
              exact hK.out _ _ (Alters.refl _) rfl
            · intro u W K hS hF hK
              have f10 : u 10 = .bool true := hF 10 (by kernel_rfl)
              have f16 : u 16 = .slice (some ⟨b, o, none⟩) l.length cap := hF 16 (by kernel_rfl)
              have f17 : u 17 = .int .i64 (k : Int) := hF 17 (by kernel_rfl)
              simp only [putsFrom, Act.put, Nat.reduceAdd, List.setIfInBounds_toArray, List.set_cons_zero, List.set_cons_succ, f10, f16, f17] at hK ⊢
              clear hF
              go_simp
              exact hK.out _ _ (Alters.refl _) rfl
            · intro u W K hS hF hK
              have f10 : u 10 = .bool true := hF 10 (by kernel_rfl)
              have f18 : u 18 = .pointer (some ⟨b, o + k * 2, none⟩) := hF 18 (by kernel_rfl)
              simp only [putsFrom, Act.put, Nat.reduceAdd, List.setIfInBounds_toArray, List.set_cons_zero, List.set_cons_succ, f10, f18] at hK ⊢
              clear hF
              have x0 := hS.at (b) (o + k * 2) (.string q.1) (by simp)
              have x1 := hS.at (b) (o + k * 2 + 1) (.int .i64 q.2) (by simp)
              go_simp
              exact hK.out _ _ (Alters.refl _) rfl
            · intro u W K hS hF hK
              have f10 : u 10 = .bool true := hF 10 (by kernel_rfl)
              have f15 : u 15 = .agg #[.string r.1, .int .i64 r.2] := hF 15 (by kernel_rfl)
              have f19 : u 19 = .agg #[.string q.1, .int .i64 q.2] := hF 19 (by kernel_rfl)
              simp only [putsFrom, Act.put, Nat.reduceAdd, List.setIfInBounds_toArray, List.set_cons_zero, List.set_cons_succ, f10, f15, f19] at hK ⊢
              clear hF
              go_simp
              refine (ahead_walk r q W).mono ?_
              rintro e W2 ⟨rfl, hq⟩
              exact hK.out _ _ hq (show Value.bool (decide (ordP r q < 0)) = .bool true by rw [HB9.out])
            · intro u W K hS hF hK
              have f10 : u 10 = .bool true := hF 10 (by kernel_rfl)
              have f20 : u 20 = .bool true := hF 20 (by kernel_rfl)
              simp only [putsFrom, Act.put, Nat.reduceAdd, List.setIfInBounds_toArray, List.set_cons_zero, List.set_cons_succ, f10, f20] at hK ⊢
              clear hF
              go_simp
              exact hK.out _ _ (Alters.refl _) rfl
            · intro u W K hS hF hK
              have f7 : u 7 = .bool false := hF 7 (by kernel_rfl)
              have f10 : u 10 = .bool true := hF 10 (by kernel_rfl)
              have f21 : u 21 = .bool false := hF 21 (by kernel_rfl)
              simp only [putsFrom, Act.put, Nat.reduceAdd, List.setIfInBounds_toArray, List.set_cons_zero, List.set_cons_succ, f7, f10, f21] at hK ⊢
              clear hF
              go_simp
              exact hK.out _ _ (Alters.refl _) rfl
            · intro u W hS hF
              have f7 : u 7 = .bool false := hF 7 (by simp)
              have f22 : u 22 = .bool false := hF 22 (by simp)
              simp only [putsFrom, Act.put, Nat.reduceAdd, List.setIfInBounds_toArray, List.set_cons_zero, List.set_cons_succ, f7, f22]
              clear hF f7 f22
              have HS := Go.Lib.hid hS
              clear hS
              go_simp
              go_wp2_with fail
              go_roundw
              case rel => exact ⟨k + 1, by omega, by go_num, by rw [← HE.out], HS.out.quiet⟩
              case measure => simp [intOf]; omega
          · have HE : Hid (propsOk l = false) := Go.Lib.hid (by rw [← hE, hs]; simp [ho])
            have HB9 : Hid (decide (ordP r q < 0) = false) := Go.Lib.hid (by simpa using ho)
            have hml : m < l.length := by omega
            have hwm : IntKind.i64.wrap (m : Int) = (m : Int) := by rw [IntKind.wrap_i64]; omega
            clear hE hQ hc hq hr hs ho hm hk0
            go_upto_region 4 with (fail)
            refine wp_region_wants (by kernel_rfl) (by kernel_rfl) (by kernel_rfl) (by kernel_rfl) (CellsAt w [(⟨b, o + k * 2, none⟩, .string q.1), (⟨b, o + k * 2 + 1, none⟩, .int .i64 q.2), (⟨b, o + m * 2, none⟩, .string r.1), (⟨b, o + m * 2 + 1, none⟩, .int .i64 r.2)]) (fun _ _ hq h => h.keep hq) [Want.is (.slice (some ⟨b, o, none⟩) l.length cap), Want.is (.int .i64 (k : Int)), Want.is (.pointer (some ⟨b, o + k * 2, none⟩)), Want.is (.pointer (some ⟨b, o + k * 2, none⟩)), Want.is (.string q.1), Want.is (.bool true), Want.is (.bool false), Want.is (.bool false), Want.is (.int .i64 (k : Int)), Want.is (.bool true), Want.is (.bool true), Want.is (.slice (some ⟨b, o, none⟩) l.length cap), Want.is (.int .i64 (k : Int)), Want.is (.int .i64 (m : Int)), Want.is (.pointer (some ⟨b, o + m * 2, none⟩)), Want.is (.agg #[.string r.1, .int .i64 r.2]), Want.is (.slice (some ⟨b, o, none⟩) l.length cap), Want.is (.int .i64 (k : Int)), Want.is (.pointer (some ⟨b, o + k * 2, none⟩)), Want.is (.agg #[.string q.1, .int .i64 q.2]), Want.is (.bool false), Want.is (.bool true), Want.is (.bool true)] ((CellsAt.cons (a := ⟨b, o + k * 2, none⟩) (v := .string q.1) (d0) (CellsAt.cons (a := ⟨b, o + k * 2 + 1, none⟩) (v := .int .i64 q.2) (d1) (CellsAt.cons (a := ⟨b, o + m * 2, none⟩) (v := .string r.1) (e0) (CellsAt.cons (a := ⟨b, o + m * 2 + 1, none⟩) (v := .int .i64 r.2) (e1) (CellsAt.nil (HQ.out)))))).keep ((Alters.refl _).drew)) (by decide) ?_
            refine Steps.cons ?_ (Steps.cons ?_ (Steps.cons ?_ (Steps.cons ?_ (Steps.cons ?_ (Steps.cons ?_ (Steps.cons ?_ (Steps.cons ?_ (Steps.cons ?_ (Steps.cons ?_ (Steps.cons ?_ (Steps.cons ?_ (Steps.cons ?_ (Steps.cons ?_ (Steps.cons ?_ (Steps.cons ?_ (Steps.cons ?_ (Steps.cons ?_ (Steps.cons ?_ (Steps.cons ?_ (Steps.cons ?_ (Steps.cons ?_ (Steps.cons ?_ (Steps.last ?_)))))))))))))))))))))))
            · intro u W K hS hF hK
              simp only [putsFrom, Act.put, Nat.reduceAdd, List.setIfInBounds_toArray, List.set_cons_zero, List.set_cons_succ] at hK ⊢
              clear hF
              go_simp
              exact hK.out _ _ (Alters.refl _) rfl
            · intro u W K hS hF hK
              simp only [putsFrom, Act.put, Nat.reduceAdd, List.setIfInBounds_toArray, List.set_cons_zero, List.set_cons_succ] at hK ⊢
              clear hF
              go_simp
              exact hK.out _ _ (Alters.refl _) rfl
            · intro u W K hS hF hK
              have f0 : u 0 = .slice (some ⟨b, o, none⟩) l.length cap := hF 0 (by kernel_rfl)
              have f1 : u 1 = .int .i64 (k : Int) := hF 1 (by kernel_rfl)
              simp only [putsFrom, Act.put, Nat.reduceAdd, List.setIfInBounds_toArray, List.set_cons_zero, List.set_cons_succ, f0, f1] at hK ⊢
              clear hF
              go_simp
              exact hK.out _ _ (Alters.refl _) rfl
            · intro u W K hS hF hK
              have f2 : u 2 = .pointer (some ⟨b, o + k * 2, none⟩) := hF 2 (by kernel_rfl)
              simp only [putsFrom, Act.put, Nat.reduceAdd, List.setIfInBounds_toArray, List.set_cons_zero, List.set_cons_succ, f2] at hK ⊢
              clear hF
              go_simp
              exact hK.out _ _ (Alters.refl _) rfl
            · intro u W K hS hF hK
              have f3 : u 3 = .pointer (some ⟨b, o + k * 2, none⟩) := hF 3 (by kernel_rfl)
              simp only [putsFrom, Act.put, Nat.reduceAdd, List.setIfInBounds_toArray, List.set_cons_zero, List.set_cons_succ, f3] at hK ⊢
              clear hF
              have x0 := hS.at (b) (o + k * 2) (.string q.1) (by simp)
              go_simp
              exact hK.out _ _ (Alters.refl _) rfl
            · intro u W K hS hF hK
              have f4 : u 4 = .string q.1 := hF 4 (by kernel_rfl)
              simp only [putsFrom, Act.put, Nat.reduceAdd, List.setIfInBounds_toArray, List.set_cons_zero, List.set_cons_succ, f4] at hK ⊢
              clear hF
              go_simp
              refine (name5_walk q.1 W).mono ?_
              rintro e W2 ⟨rfl, rfl⟩
              exact hK.out _ _ (Alters.refl _) (show Value.bool (isName q.1) = .bool true by rw [HN.out])
            · intro u W K hS hF hK
              have f5 : u 5 = .bool true := hF 5 (by kernel_rfl)
              simp only [putsFrom, Act.put, Nat.reduceAdd, List.setIfInBounds_toArray, List.set_cons_zero, List.set_cons_succ, f5] at hK ⊢
              clear hF
              go_simp
              exact hK.out _ _ (Alters.refl _) rfl
            · intro u W K hS hF hK
              have f6 : u 6 = .bool false := hF 6 (by kernel_rfl)
              simp only [putsFrom, Act.put, Nat.reduceAdd, List.setIfInBounds_toArray, List.set_cons_zero, List.set_cons_succ, f6] at hK ⊢
              clear hF
              go_simp
              exact hK.out _ _ (Alters.refl _) rfl
            · intro u W K hS hF hK
              have f7 : u 7 = .bool false := hF 7 (by kernel_rfl)
              simp only [putsFrom, Act.put, Nat.reduceAdd, List.setIfInBounds_toArray, List.set_cons_zero, List.set_cons_succ, f7] at hK ⊢
              clear hF
              go_simp
              exact hK.out _ _ (Alters.refl _) rfl
            · intro u W K hS hF hK
              have f7 : u 7 = .bool false := hF 7 (by kernel_rfl)
              have f8 : u 8 = .int .i64 (k : Int) := hF 8 (by kernel_rfl)
              simp only [putsFrom, Act.put, Nat.reduceAdd, List.setIfInBounds_toArray, List.set_cons_zero, List.set_cons_succ, f7, f8] at hK ⊢
              clear hF
              go_simp
              exact hK.out _ _ (Alters.refl _) rfl
            · intro u W K hS hF hK
              have f7 : u 7 = .bool false := hF 7 (by kernel_rfl)
              have f9 : u 9 = .bool true := hF 9 (by kernel_rfl)
              simp only [putsFrom, Act.put, Nat.reduceAdd, List.setIfInBounds_toArray, List.set_cons_zero, List.set_cons_succ, f7, f9] at hK ⊢
              clear hF
              go_simp
              exact hK.out _ _ (Alters.refl _) rfl
            · intro u W K hS hF hK
              have f10 : u 10 = .bool true := hF 10 (by kernel_rfl)
              simp only [putsFrom, Act.put, Nat.reduceAdd, List.setIfInBounds_toArray, List.set_cons_zero, List.set_cons_succ, f10] at hK ⊢
              clear hF
              go_simp
              exact hK.out _ _ (Alters.refl _) rfl
            · intro u W K hS hF hK
              have f10 : u 10 = .bool true := hF 10 (by kernel_rfl)
              simp only [putsFrom, Act.put, Nat.reduceAdd, List.setIfInBounds_toArray, List.set_cons_zero, List.set_cons_succ, f10] at hK ⊢
              clear hF
              go_simp
              exact hK.out _ _ (Alters.refl _) rfl
            · intro u W K hS hF hK
              have f10 : u 10 = .bool true := hF 10 (by kernel_rfl)
              have f12 : u 12 = .int .i64 (k : Int) := hF 12 (by kernel_rfl)
              simp only [putsFrom, Act.put, Nat.reduceAdd, List.setIfInBounds_toArray, List.set_cons_zero, List.set_cons_succ, f10, f12] at hK ⊢
              clear hF
              go_simp
              exact hK.out _ _ (Alters.refl _) rfl
            · intro u W K hS hF hK
              have f10 : u 10 = .bool true := hF 10 (by kernel_rfl)
              have f11 : u 11 = .slice (some ⟨b, o, none⟩) l.length cap := hF 11 (by kernel_rfl)
              have f13 : u 13 = .int .i64 (m : Int) := hF 13 (by kernel_rfl)
              simp only [putsFrom, Act.put, Nat.reduceAdd, List.setIfInBounds_toArray, List.set_cons_zero, List.set_cons_succ, f10, f11, f13] at hK ⊢
              clear hF
              go_simp
              exact hK.out _ _ (Alters.refl _) rfl
            · intro u W K hS hF hK
              have f10 : u 10 = .bool true := hF 10 (by kernel_rfl)
              have f14 : u 14 = .pointer (some ⟨b, o + m * 2, none⟩) := hF 14 (by kernel_rfl)
              simp only [putsFrom, Act.put, Nat.reduceAdd, List.setIfInBounds_toArray, List.set_cons_zero, List.set_cons_succ, f10, f14] at hK ⊢
              clear hF
              have x0 := hS.at (b) (o + m * 2) (.string r.1) (by simp)
              have x1 := hS.at (b) (o + m * 2 + 1) (.int .i64 r.2) (by simp)
              go_simp
              exact hK.out _ _ (Alters.refl _) rfl
            · intro u W K hS hF hK
              have f10 : u 10 = .bool true := hF 10 (by kernel_rfl)
              simp only [putsFrom, Act.put, Nat.reduceAdd, List.setIfInBounds_toArray, List.set_cons_zero, List.set_cons_succ, f10] at hK ⊢
              clear hF
              go_simp
              exact hK.out _ _ (Alters.refl _) rfl
            · intro u W K hS hF hK
              have f10 : u 10 = .bool true := hF 10 (by kernel_rfl)
              simp only [putsFrom, Act.put, Nat.reduceAdd, List.setIfInBounds_toArray, List.set_cons_zero, List.set_cons_succ, f10] at hK ⊢
              clear hF
              go_simp
              exact hK.out _ _ (Alters.refl _) rfl
            · intro u W K hS hF hK
              have f10 : u 10 = .bool true := hF 10 (by kernel_rfl)
              have f16 : u 16 = .slice (some ⟨b, o, none⟩) l.length cap := hF 16 (by kernel_rfl)
              have f17 : u 17 = .int .i64 (k : Int) := hF 17 (by kernel_rfl)
              simp only [putsFrom, Act.put, Nat.reduceAdd, List.setIfInBounds_toArray, List.set_cons_zero, List.set_cons_succ, f10, f16, f17] at hK ⊢
              clear hF
              go_simp
              exact hK.out _ _ (Alters.refl _) rfl
            · intro u W K hS hF hK
              have f10 : u 10 = .bool true := hF 10 (by kernel_rfl)
              have f18 : u 18 = .pointer (some ⟨b, o + k * 2, none⟩) := hF 18 (by kernel_rfl)
              simp only [putsFrom, Act.put, Nat.reduceAdd, List.setIfInBounds_toArray, List.set_cons_zero, List.set_cons_succ, f10, f18] at hK ⊢
              clear hF
              have x0 := hS.at (b) (o + k * 2) (.string q.1) (by simp)
              have x1 := hS.at (b) (o + k * 2 + 1) (.int .i64 q.2) (by simp)
              go_simp
              exact hK.out _ _ (Alters.refl _) rfl
            · intro u W K hS hF hK
              have f10 : u 10 = .bool true := hF 10 (by kernel_rfl)
              have f15 : u 15 = .agg #[.string r.1, .int .i64 r.2] := hF 15 (by kernel_rfl)
              have f19 : u 19 = .agg #[.string q.1, .int .i64 q.2] := hF 19 (by kernel_rfl)
              simp only [putsFrom, Act.put, Nat.reduceAdd, List.setIfInBounds_toArray, List.set_cons_zero, List.set_cons_succ, f10, f15, f19] at hK ⊢
              clear hF
              go_simp
              refine (ahead_walk r q W).mono ?_
              rintro e W2 ⟨rfl, hq⟩
              exact hK.out _ _ hq (show Value.bool (decide (ordP r q < 0)) = .bool false by rw [HB9.out])
            · intro u W K hS hF hK
              have f10 : u 10 = .bool true := hF 10 (by kernel_rfl)
              have f20 : u 20 = .bool false := hF 20 (by kernel_rfl)
              simp only [putsFrom, Act.put, Nat.reduceAdd, List.setIfInBounds_toArray, List.set_cons_zero, List.set_cons_succ, f10, f20] at hK ⊢
              clear hF
              go_simp
              exact hK.out _ _ (Alters.refl _) rfl
            · intro u W K hS hF hK
              have f7 : u 7 = .bool false := hF 7 (by kernel_rfl)
              have f10 : u 10 = .bool true := hF 10 (by kernel_rfl)
              have f21 : u 21 = .bool true := hF 21 (by kernel_rfl)
              simp only [putsFrom, Act.put, Nat.reduceAdd, List.setIfInBounds_toArray, List.set_cons_zero, List.set_cons_succ, f7, f10, f21] at hK ⊢
              clear hF
              go_simp
              exact hK.out _ _ (Alters.refl _) rfl
            · intro u W hS hF
              have f7 : u 7 = .bool false := hF 7 (by simp)
              have f22 : u 22 = .bool true := hF 22 (by simp)
              simp only [putsFrom, Act.put, Nat.reduceAdd, List.setIfInBounds_toArray, List.set_cons_zero, List.set_cons_succ, f7, f22]
              clear hF f7 f22
              have HS := Go.Lib.hid hS
              clear hS
              go_simp
              go_wp2_with fail
              go_ret
              exact ⟨by rw [HE.out]; rfl, HS.out.quiet⟩
    · obtain rfl : k = l.length := by omega
      have HE : Hid (propsOk l = true) := Go.Lib.hid (by rw [← hE, propsAt_end])
      clear hE hQ
      go_wp2
      go_ret
      exact ⟨by rw [HE.out]; rfl, HQ.out⟩

set_option maxRecDepth 100000 in
set_option maxHeartbeats 1000000 in
theorem meets_walk (v op x : Int) (w : World) : Calls Tryd.prog 176 #[.int .i64 v, .int .i64 op, .int .i64 x] w fun e w' => e = .returned (.bool (meets v op x)) ∧ w' = w := by
  go_enter Tryd.func176, Tryd.ntmps176
  by_cases e0 : op = 0
  · subst e0
    go_wp2
    go_ret
    exact ⟨by simp [meets] <;> rfl, rfl⟩
  by_cases e1 : op = 1
  · subst e1
    go_wp2
    go_ret
    exact ⟨by simp [meets] <;> rfl, rfl⟩
  by_cases e2 : op = 2
  · subst e2
    go_wp2
    go_ret
    exact ⟨by simp [meets] <;> rfl, rfl⟩
  by_cases e3 : op = 3
  · subst e3
    go_wp2
    go_ret
    exact ⟨by simp [meets] <;> rfl, rfl⟩
  by_cases e4 : op = 4
  · subst e4
    go_wp2
    go_ret
    exact ⟨by simp [meets] <;> rfl, rfl⟩
  by_cases e5 : op = 5
  · subst e5
    go_wp2
    go_ret
    exact ⟨by simp [meets] <;> rfl, rfl⟩
  by_cases e6 : op = 6
  · subst e6
    go_wp2
    go_ret
    exact ⟨by simp [meets] <;> rfl, rfl⟩
  have b0 : (op == 0) = false := by simpa using e0
  have b1 : (op == 1) = false := by simpa using e1
  have b2 : (op == 2) = false := by simpa using e2
  have b3 : (op == 3) = false := by simpa using e3
  have b4 : (op == 4) = false := by simpa using e4
  have b5 : (op == 5) = false := by simpa using e5
  have b6 : (op == 6) = false := by simpa using e6
  have hm : meets v op x = false := by simp [meets, e0, e1, e2, e3, e4, e5, e6]
  rw [hm]
  clear hm e0 e1 e2 e3 e4 e5 e6
  go_wp2
  go_ret
  exact ⟨rfl, rfl⟩

end Go.Proofs.YtnpcakakjhiboaaDoor

namespace Go.Proofs.YtnpcakakjhiboaaDoor
open Go.RowKit Go.Lo Go.WideShapes

/-- From the k-th proposition on. -/
def atomFrom (l : List (ByteArray × Int)) (nm : ByteArray) (cmp val : Int) (k : Nat) : Bool := atomAt (l.drop k) nm cmp val

theorem atomFrom_step {l : List (ByteArray × Int)} {nm : ByteArray} {cmp val : Int} {k : Nat} {q : ByteArray × Int} (h : l[k]? = some q) : atomFrom l nm cmp val k = ((q.1.toList == nm.toList && meets q.2 cmp val) || atomFrom l nm cmp val (k + 1)) := by
  have hl : k < l.length := by
    rcases Nat.lt_or_ge k l.length with h' | h'
    · exact h'
    · rw [List.getElem?_eq_none h'] at h; cases h
  have e : l[k] = q := by rw [List.getElem?_eq_getElem hl] at h; simpa using h
  unfold atomFrom atomAt
  rw [List.drop_eq_getElem_cons hl, List.any_cons, e]
  congr 2
  rw [Bool.eq_iff_iff]
  simp [bytes_eq]

theorem atomFrom_end (l : List (ByteArray × Int)) (nm : ByteArray) (cmp val : Int) : atomFrom l nm cmp val l.length = false := by simp [atomFrom, atomAt]

set_option maxRecDepth 100000 in
set_option maxHeartbeats 2000000 in
theorem holds114_walk (a : Option Addr) (cap : Nat) (l : List (ByteArray × Int)) (nm : ByteArray) (cmp val : Int) (w : World) (hl : l.length ≤ maxLen) (hp : PrAt w a l) : Calls Tryd.prog 114 #[.slice a l.length cap, .agg #[.string nm, .int .i64 cmp, .int .i64 val]] w (Said (.bool (atomAt l nm cmp val)) w) := by
  have HP := Go.Lib.hid hp
  unfold maxLen at hl
  clear hp
  go_enter Tryd.func114, Tryd.ntmps114
  have hB := Blk.new w #[.string nm, .int .i64 cmp, .int .i64 val] 23
  have hq : Quiet w (w.alloc (.cells #[.string nm, .int .i64 cmp, .int .i64 val] 23)) := (Alters.refl _).alloc _
  go_wp2
  generalize w.alloc _ = w1 at *
  have HQ1 := Go.Lib.hid hq
  have HB1 := Go.Lib.hid hB
  clear hq hB
  go_loopw [9] (fun i wr => ∃ k : Nat, k ≤ l.length ∧ i = .int .i64 k ∧ atomFrom l nm cmp val k = atomAt l nm cmp val ∧ Quiet w1 wr) (fun i _ => l.length - (intOf i).toNat)
  case atStart => exact ⟨0, Nat.zero_le _, rfl, rfl, Alters.refl _⟩
  case round =>
    obtain ⟨k, hk, rfl, hE, hQ⟩ := hrel
    have HQ := Go.Lib.hid hQ
    by_cases hlt : k < l.length
    · have hne : l ≠ [] := fun h => by subst h; simp at hlt
      obtain ⟨b, o, rfl, hc⟩ := HP.out hne
      obtain ⟨q, hq⟩ : ∃ q, l[k]? = some q := ⟨_, List.getElem?_eq_getElem hlt⟩
      obtain ⟨d0, d1⟩ := hc k q hq
      replace d0 := hQ.cell (HQ1.out.cell d0 (by simp)) (by simp)
      replace d1 := hQ.cell (HQ1.out.cell d1 (by simp)) (by simp)
      have hs := atomFrom_step (nm := nm) (cmp := cmp) (val := val) hq
      have HE := Go.Lib.hid (hs.symm.trans hE)
      have hb2 : Blk (wr.alloc (.cells #[.string q.1, .int .i64 q.2] 95)) wr.heap.size #[.string q.1, .int .i64 q.2] 95 := Blk.new _ _ _
      have hq1 : Quiet wr (wr.alloc (.cells #[.string q.1, .int .i64 q.2] 95)) := (Alters.refl _).alloc _
      have hb3 := hq1.blk (hQ.blk HB1.out (by simp)) (by simp)
      clear hE hQ hc hq hs
      go_upto_region 4 with (fail)
      clear d0 d1
      generalize wr.alloc _ = w2 at *
      have e0 := hb2.cell 0 rfl
      have e1 := hb2.cell 1 rfl
      have c0 := hb3.cell 0 rfl
      have c1 := hb3.cell 1 rfl
      have c2 := hb3.cell 2 rfl
      have HQ2 := Go.Lib.hid (HQ.out.trans hq1)
      clear hb2 hb3 hq1
      cases hn : (q.1.toList == nm.toList)
      · rw [hn] at HE
        go_wp2_with fail
        go_roundw
        case rel => exact ⟨k + 1, by omega, by go_num, by rw [← HE.out]; simp, HQ2.out⟩
        case measure => simp [intOf]; omega
      · rw [hn] at HE
        have HC := Go.Lib.hid (stands_walk q.2 cmp val w2)
        cases hm : meets q.2 cmp val
        · rw [hm] at HE HC
          go_wp2_with fail
          refine HC.out.mono ?_
          rintro e w3 ⟨rfl, rfl⟩
          go_wp2_with fail
          go_roundw
          case rel => exact ⟨k + 1, by omega, by go_num, by rw [← HE.out]; simp, HQ2.out⟩
          case measure => simp [intOf]; omega
        · rw [hm] at HE HC
          go_wp2_with fail
          refine HC.out.mono ?_
          rintro e w3 ⟨rfl, rfl⟩
          go_wp2_with fail
          go_ret
          exact ⟨by rw [← HE.out]; rfl, HQ1.out.trans HQ2.out⟩
    · obtain rfl : k = l.length := by omega
      have HE := Go.Lib.hid ((atomFrom_end l nm cmp val).symm.trans hE)
      clear hE hQ
      go_wp2_with fail
      go_ret
      exact ⟨by rw [← HE.out]; rfl, HQ1.out.trans HQ.out⟩
end Go.Proofs.YtnpcakakjhiboaaDoor
