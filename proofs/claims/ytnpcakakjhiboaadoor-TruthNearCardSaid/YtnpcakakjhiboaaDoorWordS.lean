/- A word is right, as the model tells it (88). No condition. -/
import Derived.Test.YtnpcakakjhiboaaDoorWordR
namespace Go.Proofs.YtnpcakakjhiboaaDoor
open Go.RowKit Go.Lo Go.WideShapes

set_option maxRecDepth 100000 in
set_option maxHeartbeats 4000000 in
theorem right88_walk (a : Option Addr) (cap : Nat) (L : List Hp) (w : World) (hw : WdAt w a L) : Calls Tryd.prog 88 #[.slice a L.length cap] w (Said (.bool (wordOk (pts L))) w) := by
  have HW := Go.Lib.hid hw
  have hl := hw.len
  unfold maxLen at hl
  clear hw
  go_enter Tryd.func88, Tryd.ntmps88
  go_wp2
  go_loopw [3] (fun i wr => ∃ k : Nat, k ≤ L.length ∧ i = .int .i64 k ∧ wordAt L k = wordOk (pts L) ∧ (∀ m r, k = m + 1 → L[m]? = some r → 0 ≤ r.p.tm) ∧ Quiet w wr) (fun i _ => L.length - (intOf i).toNat)
  case atStart => exact ⟨0, Nat.zero_le _, rfl, rfl, by simp, Alters.refl _⟩
  case round =>
    obtain ⟨k, hk, rfl, hE, hT, hQ⟩ := hrel
    have HQ := Go.Lib.hid hQ
    by_cases hlt : k < L.length
    · have hne : L ≠ [] := fun h => by subst h; simp at hlt
      obtain ⟨b, o, rfl, hc⟩ := HW.out.cells hne
      obtain ⟨q, hq⟩ : ∃ q, L[k]? = some q := ⟨_, List.getElem?_eq_getElem hlt⟩
      have HM : Hid (q ∈ L) := Go.Lib.hid (List.mem_of_getElem? hq)
      have HT : Hid (∀ m r, k + 1 = m + 1 → L[m]? = some r → ¬ q.p.tm < 0 → 0 ≤ r.p.tm) := Go.Lib.hid (fun m r e h hn => by
        obtain rfl : k = m := by omega
        rw [hq] at h
        cases h
        omega)
      obtain ⟨d0, d1⟩ := hc k q hq
      replace d0 := hQ.cell d0 (by simp)
      replace d1 := hQ.cell d1 (by simp)
      by_cases hn : q.p.tm < 0
      · have c1 : decide (q.p.tm < 0) = true := by simpa using hn
        have HE : Hid (wordOk (pts L) = false) := Go.Lib.hid (by
          rw [← hE]
          cases k with
          | zero => rw [wordAt_zero hq]; simp; omega
          | succ m =>
            have h0 := hT m L[m] rfl (List.getElem?_eq_getElem (by omega))
            rw [wordAt_step hq (List.getElem?_eq_getElem (by omega))]
            have : ¬ L[m].p.tm < q.p.tm := by omega
            simp [this])
        clear hn hE hQ hc hq hT HT
        go_upto_region 4 with (fail)
        refine wp_region_wants (by kernel_rfl) (by kernel_rfl) (by kernel_rfl) (by kernel_rfl) (CellsAt w [(⟨b, o + k * 2, none⟩, .int .i64 q.p.tm), (⟨b, o + k * 2 + 1, none⟩, .slice q.a q.p.props.length q.cap)]) (fun _ _ hq h => h.keep hq) [Want.is (.slice (some ⟨b, o, none⟩) L.length cap), Want.is (.int .i64 (k : Int)), Want.is (.pointer (some ⟨b, o + k * 2, none⟩)), Want.is (.pointer (some ⟨b, o + k * 2, none⟩)), Want.is (.int .i64 q.p.tm), Want.is (.bool true), Want.is (.bool true), Want.is (undef), Want.is (undef), Want.is (undef), Want.is (undef), Want.is (undef), Want.is (undef), Want.is (undef), Want.is (undef), Want.is (undef), Want.is (undef), Want.is (undef), Want.is (undef), Want.is (undef), Want.is (undef), Want.is (undef), Want.is (undef), Want.is (.bool true), Want.is (.bool true), Want.is (undef), Want.is (undef), Want.is (undef), Want.is (undef), Want.is (undef), Want.is (undef), Want.is (undef)] ((CellsAt.cons (a := ⟨b, o + k * 2, none⟩) (v := .int .i64 q.p.tm) (d0) (CellsAt.cons (a := ⟨b, o + k * 2 + 1, none⟩) (v := .slice q.a q.p.props.length q.cap) (d1) (CellsAt.nil (HQ.out)))).keep ((Alters.refl _).drew)) (by decide) ?_
        refine Steps.cons ?_ (Steps.cons ?_ (Steps.cons ?_ (Steps.cons ?_ (Steps.cons ?_ (Steps.cons ?_ (Steps.cons ?_ (Steps.cons ?_ (Steps.cons ?_ (Steps.cons ?_ (Steps.cons ?_ (Steps.cons ?_ (Steps.cons ?_ (Steps.cons ?_ (Steps.cons ?_ (Steps.cons ?_ (Steps.cons ?_ (Steps.cons ?_ (Steps.cons ?_ (Steps.cons ?_ (Steps.cons ?_ (Steps.cons ?_ (Steps.cons ?_ (Steps.cons ?_ (Steps.cons ?_ (Steps.cons ?_ (Steps.cons ?_ (Steps.cons ?_ (Steps.cons ?_ (Steps.cons ?_ (Steps.cons ?_ (Steps.cons ?_ (Steps.last ?_))))))))))))))))))))))))))))))))
        · intro u W K hS hF hK
          simp only [putsFrom, Act.put, Nat.reduceAdd, List.setIfInBounds_toArray, List.set_cons_zero, List.set_cons_succ] at hK ⊢
          clear hF
          go_simp
          exact hK.out _ _ (Alters.refl _) rfl
        · intro u W K hS hF hK
          simp only [putsFrom, Act.put, Nat.reduceAdd, List.setIfInBounds_toArray, List.set_cons_zero, List.set_cons_succ] at hK ⊢
          clear hF
          go_simp
          exact hK.out _ _ (Alters.refl _) rfl
        · intro u W K hS hF hK
          have f0 : u 0 = .slice (some ⟨b, o, none⟩) L.length cap := hF 0 (by kernel_rfl)
          have f1 : u 1 = .int .i64 (k : Int) := hF 1 (by kernel_rfl)
          simp only [putsFrom, Act.put, Nat.reduceAdd, List.setIfInBounds_toArray, List.set_cons_zero, List.set_cons_succ, f0, f1] at hK ⊢
          clear hF
          go_simp
          exact hK.out _ _ (Alters.refl _) rfl
        · intro u W K hS hF hK
          have f2 : u 2 = .pointer (some ⟨b, o + k * 2, none⟩) := hF 2 (by kernel_rfl)
          simp only [putsFrom, Act.put, Nat.reduceAdd, List.setIfInBounds_toArray, List.set_cons_zero, List.set_cons_succ, f2] at hK ⊢
          clear hF
          go_simp
          exact hK.out _ _ (Alters.refl _) rfl
        · intro u W K hS hF hK
          have f3 : u 3 = .pointer (some ⟨b, o + k * 2, none⟩) := hF 3 (by kernel_rfl)
          simp only [putsFrom, Act.put, Nat.reduceAdd, List.setIfInBounds_toArray, List.set_cons_zero, List.set_cons_succ, f3] at hK ⊢
          clear hF
          have x0 := hS.at (b) (o + k * 2) (.int .i64 q.p.tm) (by simp)
          go_simp
          exact hK.out _ _ (Alters.refl _) rfl
        · intro u W K hS hF hK
          have f4 : u 4 = .int .i64 q.p.tm := hF 4 (by kernel_rfl)
          simp only [putsFrom, Act.put, Nat.reduceAdd, List.setIfInBounds_toArray, List.set_cons_zero, List.set_cons_succ, f4] at hK ⊢
          clear hF
          go_simp
          exact hK.out _ _ (Alters.refl _) rfl
        · intro u W K hS hF hK
          have f5 : u 5 = .bool true := hF 5 (by kernel_rfl)
          simp only [putsFrom, Act.put, Nat.reduceAdd, List.setIfInBounds_toArray, List.set_cons_zero, List.set_cons_succ, f5] at hK ⊢
          clear hF
          go_simp
          exact hK.out _ _ (Alters.refl _) rfl
        · intro u W K hS hF hK
          have f6 : u 6 = .bool true := hF 6 (by kernel_rfl)
          simp only [putsFrom, Act.put, Nat.reduceAdd, List.setIfInBounds_toArray, List.set_cons_zero, List.set_cons_succ, f6] at hK ⊢
          clear hF
          go_simp
          exact hK.out _ _ (Alters.refl _) rfl
        · intro u W K hS hF hK
          have f6 : u 6 = .bool true := hF 6 (by kernel_rfl)
          have f7 : u 7 = undef := hF 7 (by kernel_rfl)
          simp only [putsFrom, Act.put, Nat.reduceAdd, List.setIfInBounds_toArray, List.set_cons_zero, List.set_cons_succ, f6, f7] at hK ⊢
          clear hF
          go_simp
          exact hK.out _ _ (Alters.refl _) rfl
        · intro u W K hS hF hK
          have f6 : u 6 = .bool true := hF 6 (by kernel_rfl)
          have f8 : u 8 = undef := hF 8 (by kernel_rfl)
          simp only [putsFrom, Act.put, Nat.reduceAdd, List.setIfInBounds_toArray, List.set_cons_zero, List.set_cons_succ, f6, f8] at hK ⊢
          clear hF
          go_simp
          exact hK.out _ _ (Alters.refl _) rfl
        · intro u W K hS hF hK
          have f9 : u 9 = undef := hF 9 (by kernel_rfl)
          simp only [putsFrom, Act.put, Nat.reduceAdd, List.setIfInBounds_toArray, List.set_cons_zero, List.set_cons_succ, f9] at hK ⊢
          clear hF
          go_simp
          exact hK.out _ _ (Alters.refl _) rfl
        · intro u W K hS hF hK
          have f9 : u 9 = undef := hF 9 (by kernel_rfl)
          simp only [putsFrom, Act.put, Nat.reduceAdd, List.setIfInBounds_toArray, List.set_cons_zero, List.set_cons_succ, f9] at hK ⊢
          clear hF
          go_simp
          exact hK.out _ _ (Alters.refl _) rfl
        · intro u W K hS hF hK
          have f9 : u 9 = undef := hF 9 (by kernel_rfl)
          have f10 : u 10 = undef := hF 10 (by kernel_rfl)
          have f11 : u 11 = undef := hF 11 (by kernel_rfl)
          simp only [putsFrom, Act.put, Nat.reduceAdd, List.setIfInBounds_toArray, List.set_cons_zero, List.set_cons_succ, f9, f10, f11] at hK ⊢
          clear hF
          go_simp
          exact hK.out _ _ (Alters.refl _) rfl
        · intro u W K hS hF hK
          have f9 : u 9 = undef := hF 9 (by kernel_rfl)
          have f12 : u 12 = undef := hF 12 (by kernel_rfl)
          simp only [putsFrom, Act.put, Nat.reduceAdd, List.setIfInBounds_toArray, List.set_cons_zero, List.set_cons_succ, f9, f12] at hK ⊢
          clear hF
          go_simp
          exact hK.out _ _ (Alters.refl _) rfl
        · intro u W K hS hF hK
          have f9 : u 9 = undef := hF 9 (by kernel_rfl)
          have f13 : u 13 = undef := hF 13 (by kernel_rfl)
          simp only [putsFrom, Act.put, Nat.reduceAdd, List.setIfInBounds_toArray, List.set_cons_zero, List.set_cons_succ, f9, f13] at hK ⊢
          clear hF
          go_simp
          exact hK.out _ _ (Alters.refl _) rfl
        · intro u W K hS hF hK
          have f9 : u 9 = undef := hF 9 (by kernel_rfl)
          simp only [putsFrom, Act.put, Nat.reduceAdd, List.setIfInBounds_toArray, List.set_cons_zero, List.set_cons_succ, f9] at hK ⊢
          clear hF
          go_simp
          exact hK.out _ _ (Alters.refl _) rfl
        · intro u W K hS hF hK
          have f9 : u 9 = undef := hF 9 (by kernel_rfl)
          simp only [putsFrom, Act.put, Nat.reduceAdd, List.setIfInBounds_toArray, List.set_cons_zero, List.set_cons_succ, f9] at hK ⊢
          clear hF
          go_simp
          exact hK.out _ _ (Alters.refl _) rfl
        · intro u W K hS hF hK
          have f9 : u 9 = undef := hF 9 (by kernel_rfl)
          have f16 : u 16 = undef := hF 16 (by kernel_rfl)
          simp only [putsFrom, Act.put, Nat.reduceAdd, List.setIfInBounds_toArray, List.set_cons_zero, List.set_cons_succ, f9, f16] at hK ⊢
          clear hF
          go_simp
          exact hK.out _ _ (Alters.refl _) rfl
        · intro u W K hS hF hK
          have f9 : u 9 = undef := hF 9 (by kernel_rfl)
          have f15 : u 15 = undef := hF 15 (by kernel_rfl)
          have f17 : u 17 = undef := hF 17 (by kernel_rfl)
          simp only [putsFrom, Act.put, Nat.reduceAdd, List.setIfInBounds_toArray, List.set_cons_zero, List.set_cons_succ, f9, f15, f17] at hK ⊢
          clear hF
          go_simp
          exact hK.out _ _ (Alters.refl _) rfl
        · intro u W K hS hF hK
          have f9 : u 9 = undef := hF 9 (by kernel_rfl)
          have f18 : u 18 = undef := hF 18 (by kernel_rfl)
          simp only [putsFrom, Act.put, Nat.reduceAdd, List.setIfInBounds_toArray, List.set_cons_zero, List.set_cons_succ, f9, f18] at hK ⊢
          clear hF
          go_simp
          exact hK.out _ _ (Alters.refl _) rfl
        · intro u W K hS hF hK
          have f9 : u 9 = undef := hF 9 (by kernel_rfl)
          have f19 : u 19 = undef := hF 19 (by kernel_rfl)
          simp only [putsFrom, Act.put, Nat.reduceAdd, List.setIfInBounds_toArray, List.set_cons_zero, List.set_cons_succ, f9, f19] at hK ⊢
          clear hF
          go_simp
          exact hK.out _ _ (Alters.refl _) rfl
        · intro u W K hS hF hK
          have f9 : u 9 = undef := hF 9 (by kernel_rfl)
          have f14 : u 14 = undef := hF 14 (by kernel_rfl)
          have f20 : u 20 = undef := hF 20 (by kernel_rfl)
          simp only [putsFrom, Act.put, Nat.reduceAdd, List.setIfInBounds_toArray, List.set_cons_zero, List.set_cons_succ, f9, f14, f20] at hK ⊢
          clear hF
          go_simp
          exact hK.out _ _ (Alters.refl _) rfl
        · intro u W K hS hF hK
          have f6 : u 6 = .bool true := hF 6 (by kernel_rfl)
          have f9 : u 9 = undef := hF 9 (by kernel_rfl)
          have f21 : u 21 = undef := hF 21 (by kernel_rfl)
          simp only [putsFrom, Act.put, Nat.reduceAdd, List.setIfInBounds_toArray, List.set_cons_zero, List.set_cons_succ, f6, f9, f21] at hK ⊢
          clear hF
          go_simp
          exact hK.out _ _ (Alters.refl _) rfl
        · intro u W K hS hF hK
          have f6 : u 6 = .bool true := hF 6 (by kernel_rfl)
          have f22 : u 22 = undef := hF 22 (by kernel_rfl)
          simp only [putsFrom, Act.put, Nat.reduceAdd, List.setIfInBounds_toArray, List.set_cons_zero, List.set_cons_succ, f6, f22] at hK ⊢
          clear hF
          go_simp
          exact hK.out _ _ (Alters.refl _) rfl
        · intro u W K hS hF hK
          have f23 : u 23 = .bool true := hF 23 (by kernel_rfl)
          simp only [putsFrom, Act.put, Nat.reduceAdd, List.setIfInBounds_toArray, List.set_cons_zero, List.set_cons_succ, f23] at hK ⊢
          clear hF
          go_simp
          exact hK.out _ _ (Alters.refl _) rfl
        · intro u W K hS hF hK
          have f24 : u 24 = .bool true := hF 24 (by kernel_rfl)
          simp only [putsFrom, Act.put, Nat.reduceAdd, List.setIfInBounds_toArray, List.set_cons_zero, List.set_cons_succ, f24] at hK ⊢
          clear hF
          go_simp
          exact hK.out _ _ (Alters.refl _) rfl
        · intro u W K hS hF hK
          have f24 : u 24 = .bool true := hF 24 (by kernel_rfl)
          simp only [putsFrom, Act.put, Nat.reduceAdd, List.setIfInBounds_toArray, List.set_cons_zero, List.set_cons_succ, f24] at hK ⊢
          clear hF
          go_simp
          exact hK.out _ _ (Alters.refl _) rfl
        · intro u W K hS hF hK
          have f24 : u 24 = .bool true := hF 24 (by kernel_rfl)
          have f25 : u 25 = undef := hF 25 (by kernel_rfl)
          have f26 : u 26 = undef := hF 26 (by kernel_rfl)
          simp only [putsFrom, Act.put, Nat.reduceAdd, List.setIfInBounds_toArray, List.set_cons_zero, List.set_cons_succ, f24, f25, f26] at hK ⊢
          clear hF
          go_simp
          exact hK.out _ _ (Alters.refl _) rfl
        · intro u W K hS hF hK
          have f24 : u 24 = .bool true := hF 24 (by kernel_rfl)
          have f27 : u 27 = undef := hF 27 (by kernel_rfl)
          simp only [putsFrom, Act.put, Nat.reduceAdd, List.setIfInBounds_toArray, List.set_cons_zero, List.set_cons_succ, f24, f27] at hK ⊢
          clear hF
          go_simp
          exact hK.out _ _ (Alters.refl _) rfl
        · intro u W K hS hF hK
          have f24 : u 24 = .bool true := hF 24 (by kernel_rfl)
          have f28 : u 28 = undef := hF 28 (by kernel_rfl)
          simp only [putsFrom, Act.put, Nat.reduceAdd, List.setIfInBounds_toArray, List.set_cons_zero, List.set_cons_succ, f24, f28] at hK ⊢
          clear hF
          go_simp
          exact hK.out _ _ (Alters.refl _) rfl
        · intro u W K hS hF hK
          have f24 : u 24 = .bool true := hF 24 (by kernel_rfl)
          have f29 : u 29 = undef := hF 29 (by kernel_rfl)
          simp only [putsFrom, Act.put, Nat.reduceAdd, List.setIfInBounds_toArray, List.set_cons_zero, List.set_cons_succ, f24, f29] at hK ⊢
          clear hF
          go_simp
          exact hK.out _ _ (Alters.refl _) rfl
        · intro u W K hS hF hK
          have f24 : u 24 = .bool true := hF 24 (by kernel_rfl)
          have f30 : u 30 = undef := hF 30 (by kernel_rfl)
          simp only [putsFrom, Act.put, Nat.reduceAdd, List.setIfInBounds_toArray, List.set_cons_zero, List.set_cons_succ, f24, f30] at hK ⊢
          clear hF
          go_simp
          exact hK.out _ _ (Alters.refl _) rfl
        · intro u W hS hF
          have f24 : u 24 = .bool true := hF 24 (by simp)
          have f31 : u 31 = undef := hF 31 (by simp)
          simp only [putsFrom, Act.put, Nat.reduceAdd, List.setIfInBounds_toArray, List.set_cons_zero, List.set_cons_succ, f24, f31]
          clear hF f24 f31
          have HS := Go.Lib.hid hS
          clear hS
          go_simp
          go_wp2_with fail
          go_ret
          exact ⟨by rw [HE.out]; rfl, HS.out.quiet⟩
      · have c1 : decide (q.p.tm < 0) = false := by simpa using hn
        replace HT : Hid (∀ m r, k + 1 = m + 1 → L[m]? = some r → 0 ≤ r.p.tm) := Go.Lib.hid (fun m r e h => HT.out m r e h hn)
        rcases Nat.eq_zero_or_pos k with hk0 | hk0
        · have b6 : decide (0 < k) = false := by simp [hk0]
          have hs : wordAt L k = (propsOk q.p.props && wordAt L (k + 1)) := by
            have h1 : -1 < q.p.tm := by omega
            subst hk0
            rw [wordAt_zero hq]
            simp [h1]
          by_cases hp : propsOk q.p.props = true
          · have HN := Go.Lib.hid hp
            have HE : Hid (wordAt L (k + 1) = wordOk (pts L)) := Go.Lib.hid (by rw [← hE, hs, hp, Bool.true_and])
            clear hn hE hQ hc hq hT hk0 hs hp
            go_upto_region 4 with (fail)
            refine wp_region_wants (by kernel_rfl) (by kernel_rfl) (by kernel_rfl) (by kernel_rfl) (CellsAt w [(⟨b, o + k * 2, none⟩, .int .i64 q.p.tm), (⟨b, o + k * 2 + 1, none⟩, .slice q.a q.p.props.length q.cap)]) (fun _ _ hq h => h.keep hq) [Want.is (.slice (some ⟨b, o, none⟩) L.length cap), Want.is (.int .i64 (k : Int)), Want.is (.pointer (some ⟨b, o + k * 2, none⟩)), Want.is (.pointer (some ⟨b, o + k * 2, none⟩)), Want.is (.int .i64 q.p.tm), Want.is (.bool false), Want.is (.bool false), Want.is (.int .i64 (k : Int)), Want.is (.bool false), Want.is (.bool false), Want.is (undef), Want.is (undef), Want.is (undef), Want.is (undef), Want.is (undef), Want.is (undef), Want.is (undef), Want.is (undef), Want.is (undef), Want.is (undef), Want.is (undef), Want.is (undef), Want.is (.bool false), Want.is (.bool false), Want.is (.bool false), Want.is (.slice (some ⟨b, o, none⟩) L.length cap), Want.is (.int .i64 (k : Int)), Want.is (.pointer (some ⟨b, o + k * 2, none⟩)), Want.is (.pointer (some ⟨b, o + k * 2 + 1, none⟩)), Want.is (.slice q.a q.p.props.length q.cap), Want.is (.bool true), Want.is (.bool false)] ((CellsAt.cons (a := ⟨b, o + k * 2, none⟩) (v := .int .i64 q.p.tm) (d0) (CellsAt.cons (a := ⟨b, o + k * 2 + 1, none⟩) (v := .slice q.a q.p.props.length q.cap) (d1) (CellsAt.nil (HQ.out)))).keep ((Alters.refl _).drew)) (by decide) ?_
            refine Steps.cons ?_ (Steps.cons ?_ (Steps.cons ?_ (Steps.cons ?_ (Steps.cons ?_ (Steps.cons ?_ (Steps.cons ?_ (Steps.cons ?_ (Steps.cons ?_ (Steps.cons ?_ (Steps.cons ?_ (Steps.cons ?_ (Steps.cons ?_ (Steps.cons ?_ (Steps.cons ?_ (Steps.cons ?_ (Steps.cons ?_ (Steps.cons ?_ (Steps.cons ?_ (Steps.cons ?_ (Steps.cons ?_ (Steps.cons ?_ (Steps.cons ?_ (Steps.cons ?_ (Steps.cons ?_ (Steps.cons ?_ (Steps.cons ?_ (Steps.cons ?_ (Steps.cons ?_ (Steps.cons ?_ (Steps.cons ?_ (Steps.cons ?_ (Steps.last ?_))))))))))))))))))))))))))))))))
            · intro u W K hS hF hK
              simp only [putsFrom, Act.put, Nat.reduceAdd, List.setIfInBounds_toArray, List.set_cons_zero, List.set_cons_succ] at hK ⊢
              clear hF
              go_simp
              exact hK.out _ _ (Alters.refl _) rfl
            · intro u W K hS hF hK
              simp only [putsFrom, Act.put, Nat.reduceAdd, List.setIfInBounds_toArray, List.set_cons_zero, List.set_cons_succ] at hK ⊢
              clear hF
              go_simp
              exact hK.out _ _ (Alters.refl _) rfl
            · intro u W K hS hF hK
              have f0 : u 0 = .slice (some ⟨b, o, none⟩) L.length cap := hF 0 (by kernel_rfl)
              have f1 : u 1 = .int .i64 (k : Int) := hF 1 (by kernel_rfl)
              simp only [putsFrom, Act.put, Nat.reduceAdd, List.setIfInBounds_toArray, List.set_cons_zero, List.set_cons_succ, f0, f1] at hK ⊢
              clear hF
              go_simp
              exact hK.out _ _ (Alters.refl _) rfl
            · intro u W K hS hF hK
              have f2 : u 2 = .pointer (some ⟨b, o + k * 2, none⟩) := hF 2 (by kernel_rfl)
              simp only [putsFrom, Act.put, Nat.reduceAdd, List.setIfInBounds_toArray, List.set_cons_zero, List.set_cons_succ, f2] at hK ⊢
              clear hF
              go_simp
              exact hK.out _ _ (Alters.refl _) rfl
            · intro u W K hS hF hK
              have f3 : u 3 = .pointer (some ⟨b, o + k * 2, none⟩) := hF 3 (by kernel_rfl)
              simp only [putsFrom, Act.put, Nat.reduceAdd, List.setIfInBounds_toArray, List.set_cons_zero, List.set_cons_succ, f3] at hK ⊢
              clear hF
              have x0 := hS.at (b) (o + k * 2) (.int .i64 q.p.tm) (by simp)
              go_simp
              exact hK.out _ _ (Alters.refl _) rfl
            · intro u W K hS hF hK
              have f4 : u 4 = .int .i64 q.p.tm := hF 4 (by kernel_rfl)
              simp only [putsFrom, Act.put, Nat.reduceAdd, List.setIfInBounds_toArray, List.set_cons_zero, List.set_cons_succ, f4] at hK ⊢
              clear hF
              go_simp
              exact hK.out _ _ (Alters.refl _) rfl
            · intro u W K hS hF hK
              have f5 : u 5 = .bool false := hF 5 (by kernel_rfl)
              simp only [putsFrom, Act.put, Nat.reduceAdd, List.setIfInBounds_toArray, List.set_cons_zero, List.set_cons_succ, f5] at hK ⊢
              clear hF
              go_simp
              exact hK.out _ _ (Alters.refl _) rfl
            · intro u W K hS hF hK
              have f6 : u 6 = .bool false := hF 6 (by kernel_rfl)
              simp only [putsFrom, Act.put, Nat.reduceAdd, List.setIfInBounds_toArray, List.set_cons_zero, List.set_cons_succ, f6] at hK ⊢
              clear hF
              go_simp
              exact hK.out _ _ (Alters.refl _) rfl
            · intro u W K hS hF hK
              have f6 : u 6 = .bool false := hF 6 (by kernel_rfl)
              have f7 : u 7 = .int .i64 (k : Int) := hF 7 (by kernel_rfl)
              simp only [putsFrom, Act.put, Nat.reduceAdd, List.setIfInBounds_toArray, List.set_cons_zero, List.set_cons_succ, f6, f7] at hK ⊢
              clear hF
              go_simp
              exact hK.out _ _ (Alters.refl _) rfl
            · intro u W K hS hF hK
              have f6 : u 6 = .bool false := hF 6 (by kernel_rfl)
              have f8 : u 8 = .bool false := hF 8 (by kernel_rfl)
              simp only [putsFrom, Act.put, Nat.reduceAdd, List.setIfInBounds_toArray, List.set_cons_zero, List.set_cons_succ, f6, f8] at hK ⊢
              clear hF
              go_simp
              exact hK.out _ _ (Alters.refl _) rfl
            · intro u W K hS hF hK
              have f9 : u 9 = .bool false := hF 9 (by kernel_rfl)
              simp only [putsFrom, Act.put, Nat.reduceAdd, List.setIfInBounds_toArray, List.set_cons_zero, List.set_cons_succ, f9] at hK ⊢
              clear hF
              go_simp
              exact hK.out _ _ (Alters.refl _) rfl
            · intro u W K hS hF hK
              have f9 : u 9 = .bool false := hF 9 (by kernel_rfl)
              simp only [putsFrom, Act.put, Nat.reduceAdd, List.setIfInBounds_toArray, List.set_cons_zero, List.set_cons_succ, f9] at hK ⊢
              clear hF
              go_simp
              exact hK.out _ _ (Alters.refl _) rfl
            · intro u W K hS hF hK
              have f9 : u 9 = .bool false := hF 9 (by kernel_rfl)
              have f10 : u 10 = undef := hF 10 (by kernel_rfl)
              have f11 : u 11 = undef := hF 11 (by kernel_rfl)
              simp only [putsFrom, Act.put, Nat.reduceAdd, List.setIfInBounds_toArray, List.set_cons_zero, List.set_cons_succ, f9, f10, f11] at hK ⊢
              clear hF
              go_simp
              exact hK.out _ _ (Alters.refl _) rfl
            · intro u W K hS hF hK
              have f9 : u 9 = .bool false := hF 9 (by kernel_rfl)
              have f12 : u 12 = undef := hF 12 (by kernel_rfl)
              simp only [putsFrom, Act.put, Nat.reduceAdd, List.setIfInBounds_toArray, List.set_cons_zero, List.set_cons_succ, f9, f12] at hK ⊢
              clear hF
              go_simp
              exact hK.out _ _ (Alters.refl _) rfl
            · intro u W K hS hF hK
              have f9 : u 9 = .bool false := hF 9 (by kernel_rfl)
              have f13 : u 13 = undef := hF 13 (by kernel_rfl)
              simp only [putsFrom, Act.put, Nat.reduceAdd, List.setIfInBounds_toArray, List.set_cons_zero, List.set_cons_succ, f9, f13] at hK ⊢
              clear hF
              go_simp
              exact hK.out _ _ (Alters.refl _) rfl
            · intro u W K hS hF hK
              have f9 : u 9 = .bool false := hF 9 (by kernel_rfl)
              simp only [putsFrom, Act.put, Nat.reduceAdd, List.setIfInBounds_toArray, List.set_cons_zero, List.set_cons_succ, f9] at hK ⊢
              clear hF
              go_simp
              exact hK.out _ _ (Alters.refl _) rfl
            · intro u W K hS hF hK
              have f9 : u 9 = .bool false := hF 9 (by kernel_rfl)
              simp only [putsFrom, Act.put, Nat.reduceAdd, List.setIfInBounds_toArray, List.set_cons_zero, List.set_cons_succ, f9] at hK ⊢
              clear hF
              go_simp
              exact hK.out _ _ (Alters.refl _) rfl
            · intro u W K hS hF hK
              have f9 : u 9 = .bool false := hF 9 (by kernel_rfl)
              have f16 : u 16 = undef := hF 16 (by kernel_rfl)
              simp only [putsFrom, Act.put, Nat.reduceAdd, List.setIfInBounds_toArray, List.set_cons_zero, List.set_cons_succ, f9, f16] at hK ⊢
              clear hF
              go_simp
              exact hK.out _ _ (Alters.refl _) rfl
            · intro u W K hS hF hK
              have f9 : u 9 = .bool false := hF 9 (by kernel_rfl)
              have f15 : u 15 = undef := hF 15 (by kernel_rfl)
              have f17 : u 17 = undef := hF 17 (by kernel_rfl)
              simp only [putsFrom, Act.put, Nat.reduceAdd, List.setIfInBounds_toArray, List.set_cons_zero, List.set_cons_succ, f9, f15, f17] at hK ⊢
              clear hF
              go_simp
              exact hK.out _ _ (Alters.refl _) rfl
            · intro u W K hS hF hK
              have f9 : u 9 = .bool false := hF 9 (by kernel_rfl)
              have f18 : u 18 = undef := hF 18 (by kernel_rfl)
              simp only [putsFrom, Act.put, Nat.reduceAdd, List.setIfInBounds_toArray, List.set_cons_zero, List.set_cons_succ, f9, f18] at hK ⊢
              clear hF
              go_simp
              exact hK.out _ _ (Alters.refl _) rfl
            · intro u W K hS hF hK
              have f9 : u 9 = .bool false := hF 9 (by kernel_rfl)
              have f19 : u 19 = undef := hF 19 (by kernel_rfl)
              simp only [putsFrom, Act.put, Nat.reduceAdd, List.setIfInBounds_toArray, List.set_cons_zero, List.set_cons_succ, f9, f19] at hK ⊢
              clear hF
              go_simp
              exact hK.out _ _ (Alters.refl _) rfl
            · intro u W K hS hF hK
              have f9 : u 9 = .bool false := hF 9 (by kernel_rfl)
              have f14 : u 14 = undef := hF 14 (by kernel_rfl)
              have f20 : u 20 = undef := hF 20 (by kernel_rfl)
              simp only [putsFrom, Act.put, Nat.reduceAdd, List.setIfInBounds_toArray, List.set_cons_zero, List.set_cons_succ, f9, f14, f20] at hK ⊢
              clear hF
              go_simp
              exact hK.out _ _ (Alters.refl _) rfl
            · intro u W K hS hF hK
              have f6 : u 6 = .bool false := hF 6 (by kernel_rfl)
              have f9 : u 9 = .bool false := hF 9 (by kernel_rfl)
              have f21 : u 21 = undef := hF 21 (by kernel_rfl)
              simp only [putsFrom, Act.put, Nat.reduceAdd, List.setIfInBounds_toArray, List.set_cons_zero, List.set_cons_succ, f6, f9, f21] at hK ⊢
              clear hF
              go_simp
              exact hK.out _ _ (Alters.refl _) rfl
            · intro u W K hS hF hK
              have f6 : u 6 = .bool false := hF 6 (by kernel_rfl)
              have f22 : u 22 = .bool false := hF 22 (by kernel_rfl)
              simp only [putsFrom, Act.put, Nat.reduceAdd, List.setIfInBounds_toArray, List.set_cons_zero, List.set_cons_succ, f6, f22] at hK ⊢
              clear hF
              go_simp
              exact hK.out _ _ (Alters.refl _) rfl
            · intro u W K hS hF hK
              have f23 : u 23 = .bool false := hF 23 (by kernel_rfl)
              simp only [putsFrom, Act.put, Nat.reduceAdd, List.setIfInBounds_toArray, List.set_cons_zero, List.set_cons_succ, f23] at hK ⊢
              clear hF
              go_simp
              exact hK.out _ _ (Alters.refl _) rfl
            · intro u W K hS hF hK
              have f24 : u 24 = .bool false := hF 24 (by kernel_rfl)
              simp only [putsFrom, Act.put, Nat.reduceAdd, List.setIfInBounds_toArray, List.set_cons_zero, List.set_cons_succ, f24] at hK ⊢
              clear hF
              go_simp
              exact hK.out _ _ (Alters.refl _) rfl
            · intro u W K hS hF hK
              have f24 : u 24 = .bool false := hF 24 (by kernel_rfl)
              simp only [putsFrom, Act.put, Nat.reduceAdd, List.setIfInBounds_toArray, List.set_cons_zero, List.set_cons_succ, f24] at hK ⊢
              clear hF
              go_simp
              exact hK.out _ _ (Alters.refl _) rfl
            · intro u W K hS hF hK
              have f24 : u 24 = .bool false := hF 24 (by kernel_rfl)
              have f25 : u 25 = .slice (some ⟨b, o, none⟩) L.length cap := hF 25 (by kernel_rfl)
              have f26 : u 26 = .int .i64 (k : Int) := hF 26 (by kernel_rfl)
              simp only [putsFrom, Act.put, Nat.reduceAdd, List.setIfInBounds_toArray, List.set_cons_zero, List.set_cons_succ, f24, f25, f26] at hK ⊢
              clear hF
              go_simp
              exact hK.out _ _ (Alters.refl _) rfl
            · intro u W K hS hF hK
              have f24 : u 24 = .bool false := hF 24 (by kernel_rfl)
              have f27 : u 27 = .pointer (some ⟨b, o + k * 2, none⟩) := hF 27 (by kernel_rfl)
              simp only [putsFrom, Act.put, Nat.reduceAdd, List.setIfInBounds_toArray, List.set_cons_zero, List.set_cons_succ, f24, f27] at hK ⊢
              clear hF
              go_simp
              exact hK.out _ _ (Alters.refl _) rfl
            · intro u W K hS hF hK
              have f24 : u 24 = .bool false := hF 24 (by kernel_rfl)
              have f28 : u 28 = .pointer (some ⟨b, o + k * 2 + 1, none⟩) := hF 28 (by kernel_rfl)
              simp only [putsFrom, Act.put, Nat.reduceAdd, List.setIfInBounds_toArray, List.set_cons_zero, List.set_cons_succ, f24, f28] at hK ⊢
              clear hF
              have x0 := hS.at (b) (o + k * 2 + 1) (.slice q.a q.p.props.length q.cap) (by simp)
              go_simp
              exact hK.out _ _ (Alters.refl _) rfl
            · intro u W K hS hF hK
              have f24 : u 24 = .bool false := hF 24 (by kernel_rfl)
              have f29 : u 29 = .slice q.a q.p.props.length q.cap := hF 29 (by kernel_rfl)
              simp only [putsFrom, Act.put, Nat.reduceAdd, List.setIfInBounds_toArray, List.set_cons_zero, List.set_cons_succ, f24, f29] at hK ⊢
              clear hF
              go_simp
              refine (right133_walk q.a q.cap q.p.props W (HW.out.props q HM.out).1 ((HW.out.props q HM.out).2.quiet hS.quiet)).mono ?_
              rintro e W2 ⟨rfl, hq⟩
              exact hK.out _ _ hq (show Value.bool (propsOk q.p.props) = .bool true by rw [HN.out])
            · intro u W K hS hF hK
              have f24 : u 24 = .bool false := hF 24 (by kernel_rfl)
              have f30 : u 30 = .bool true := hF 30 (by kernel_rfl)
              simp only [putsFrom, Act.put, Nat.reduceAdd, List.setIfInBounds_toArray, List.set_cons_zero, List.set_cons_succ, f24, f30] at hK ⊢
              clear hF
              go_simp
              exact hK.out _ _ (Alters.refl _) rfl
            · intro u W hS hF
              have f24 : u 24 = .bool false := hF 24 (by simp)
              have f31 : u 31 = .bool false := hF 31 (by simp)
              simp only [putsFrom, Act.put, Nat.reduceAdd, List.setIfInBounds_toArray, List.set_cons_zero, List.set_cons_succ, f24, f31]
              clear hF f24 f31
              have HS := Go.Lib.hid hS
              clear hS
              go_simp
              go_wp2_with fail
              go_roundw
              case rel => exact ⟨k + 1, by omega, by go_num, by rw [← HE.out], HT.out, HS.out.quiet⟩
              case measure => simp [intOf]; omega
          · have HN : Hid (propsOk q.p.props = false) := Go.Lib.hid (by simpa using hp)
            have HE : Hid (wordOk (pts L) = false) := Go.Lib.hid (by rw [← hE, hs, HN.out, Bool.false_and])
            clear hn hE hQ hc hq hT hk0 hs hp HT
            go_upto_region 4 with (fail)
            refine wp_region_wants (by kernel_rfl) (by kernel_rfl) (by kernel_rfl) (by kernel_rfl) (CellsAt w [(⟨b, o + k * 2, none⟩, .int .i64 q.p.tm), (⟨b, o + k * 2 + 1, none⟩, .slice q.a q.p.props.length q.cap)]) (fun _ _ hq h => h.keep hq) [Want.is (.slice (some ⟨b, o, none⟩) L.length cap), Want.is (.int .i64 (k : Int)), Want.is (.pointer (some ⟨b, o + k * 2, none⟩)), Want.is (.pointer (some ⟨b, o + k * 2, none⟩)), Want.is (.int .i64 q.p.tm), Want.is (.bool false), Want.is (.bool false), Want.is (.int .i64 (k : Int)), Want.is (.bool false), Want.is (.bool false), Want.is (undef), Want.is (undef), Want.is (undef), Want.is (undef), Want.is (undef), Want.is (undef), Want.is (undef), Want.is (undef), Want.is (undef), Want.is (undef), Want.is (undef), Want.is (undef), Want.is (.bool false), Want.is (.bool false), Want.is (.bool false), Want.is (.slice (some ⟨b, o, none⟩) L.length cap), Want.is (.int .i64 (k : Int)), Want.is (.pointer (some ⟨b, o + k * 2, none⟩)), Want.is (.pointer (some ⟨b, o + k * 2 + 1, none⟩)), Want.is (.slice q.a q.p.props.length q.cap), Want.is (.bool false), Want.is (.bool true)] ((CellsAt.cons (a := ⟨b, o + k * 2, none⟩) (v := .int .i64 q.p.tm) (d0) (CellsAt.cons (a := ⟨b, o + k * 2 + 1, none⟩) (v := .slice q.a q.p.props.length q.cap) (d1) (CellsAt.nil (HQ.out)))).keep ((Alters.refl _).drew)) (by decide) ?_
            refine Steps.cons ?_ (Steps.cons ?_ (Steps.cons ?_ (Steps.cons ?_ (Steps.cons ?_ (Steps.cons ?_ (Steps.cons ?_ (Steps.cons ?_ (Steps.cons ?_ (Steps.cons ?_ (Steps.cons ?_ (Steps.cons ?_ (Steps.cons ?_ (Steps.cons ?_ (Steps.cons ?_ (Steps.cons ?_ (Steps.cons ?_ (Steps.cons ?_ (Steps.cons ?_ (Steps.cons ?_ (Steps.cons ?_ (Steps.cons ?_ (Steps.cons ?_ (Steps.cons ?_ (Steps.cons ?_ (Steps.cons ?_ (Steps.cons ?_ (Steps.cons ?_ (Steps.cons ?_ (Steps.cons ?_ (Steps.cons ?_ (Steps.cons ?_ (Steps.last ?_))))))))))))))))))))))))))))))))
            · intro u W K hS hF hK
              simp only [putsFrom, Act.put, Nat.reduceAdd, List.setIfInBounds_toArray, List.set_cons_zero, List.set_cons_succ] at hK ⊢
              clear hF
              go_simp
              exact hK.out _ _ (Alters.refl _) rfl
            · intro u W K hS hF hK
              simp only [putsFrom, Act.put, Nat.reduceAdd, List.setIfInBounds_toArray, List.set_cons_zero, List.set_cons_succ] at hK ⊢
              clear hF
              go_simp
              exact hK.out _ _ (Alters.refl _) rfl
            · intro u W K hS hF hK
              have f0 : u 0 = .slice (some ⟨b, o, none⟩) L.length cap := hF 0 (by kernel_rfl)
              have f1 : u 1 = .int .i64 (k : Int) := hF 1 (by kernel_rfl)
              simp only [putsFrom, Act.put, Nat.reduceAdd, List.setIfInBounds_toArray, List.set_cons_zero, List.set_cons_succ, f0, f1] at hK ⊢
              clear hF
              go_simp
              exact hK.out _ _ (Alters.refl _) rfl
            · intro u W K hS hF hK
              have f2 : u 2 = .pointer (some ⟨b, o + k * 2, none⟩) := hF 2 (by kernel_rfl)
              simp only [putsFrom, Act.put, Nat.reduceAdd, List.setIfInBounds_toArray, List.set_cons_zero, List.set_cons_succ, f2] at hK ⊢
              clear hF
              go_simp
              exact hK.out _ _ (Alters.refl _) rfl
            · intro u W K hS hF hK
              have f3 : u 3 = .pointer (some ⟨b, o + k * 2, none⟩) := hF 3 (by kernel_rfl)
              simp only [putsFrom, Act.put, Nat.reduceAdd, List.setIfInBounds_toArray, List.set_cons_zero, List.set_cons_succ, f3] at hK ⊢
              clear hF
              have x0 := hS.at (b) (o + k * 2) (.int .i64 q.p.tm) (by simp)
              go_simp
              exact hK.out _ _ (Alters.refl _) rfl
            · intro u W K hS hF hK
              have f4 : u 4 = .int .i64 q.p.tm := hF 4 (by kernel_rfl)
              simp only [putsFrom, Act.put, Nat.reduceAdd, List.setIfInBounds_toArray, List.set_cons_zero, List.set_cons_succ, f4] at hK ⊢
              clear hF
              go_simp
              exact hK.out _ _ (Alters.refl _) rfl
            · intro u W K hS hF hK
              have f5 : u 5 = .bool false := hF 5 (by kernel_rfl)
              simp only [putsFrom, Act.put, Nat.reduceAdd, List.setIfInBounds_toArray, List.set_cons_zero, List.set_cons_succ, f5] at hK ⊢
              clear hF
              go_simp
              exact hK.out _ _ (Alters.refl _) rfl
            · intro u W K hS hF hK
              have f6 : u 6 = .bool false := hF 6 (by kernel_rfl)
              simp only [putsFrom, Act.put, Nat.reduceAdd, List.setIfInBounds_toArray, List.set_cons_zero, List.set_cons_succ, f6] at hK ⊢
              clear hF
              go_simp
              exact hK.out _ _ (Alters.refl _) rfl
            · intro u W K hS hF hK
              have f6 : u 6 = .bool false := hF 6 (by kernel_rfl)
              have f7 : u 7 = .int .i64 (k : Int) := hF 7 (by kernel_rfl)
              simp only [putsFrom, Act.put, Nat.reduceAdd, List.setIfInBounds_toArray, List.set_cons_zero, List.set_cons_succ, f6, f7] at hK ⊢
              clear hF
              go_simp
              exact hK.out _ _ (Alters.refl _) rfl
            · intro u W K hS hF hK
              have f6 : u 6 = .bool false := hF 6 (by kernel_rfl)
              have f8 : u 8 = .bool false := hF 8 (by kernel_rfl)
              simp only [putsFrom, Act.put, Nat.reduceAdd, List.setIfInBounds_toArray, List.set_cons_zero, List.set_cons_succ, f6, f8] at hK ⊢
              clear hF
              go_simp
              exact hK.out _ _ (Alters.refl _) rfl
            · intro u W K hS hF hK
              have f9 : u 9 = .bool false := hF 9 (by kernel_rfl)
              simp only [putsFrom, Act.put, Nat.reduceAdd, List.setIfInBounds_toArray, List.set_cons_zero, List.set_cons_succ, f9] at hK ⊢
              clear hF
              go_simp
              exact hK.out _ _ (Alters.refl _) rfl
            · intro u W K hS hF hK
              have f9 : u 9 = .bool false := hF 9 (by kernel_rfl)
              simp only [putsFrom, Act.put, Nat.reduceAdd, List.setIfInBounds_toArray, List.set_cons_zero, List.set_cons_succ, f9] at hK ⊢
              clear hF
              go_simp
              exact hK.out _ _ (Alters.refl _) rfl
            · intro u W K hS hF hK
              have f9 : u 9 = .bool false := hF 9 (by kernel_rfl)
              have f10 : u 10 = undef := hF 10 (by kernel_rfl)
              have f11 : u 11 = undef := hF 11 (by kernel_rfl)
              simp only [putsFrom, Act.put, Nat.reduceAdd, List.setIfInBounds_toArray, List.set_cons_zero, List.set_cons_succ, f9, f10, f11] at hK ⊢
              clear hF
              go_simp
              exact hK.out _ _ (Alters.refl _) rfl
            · intro u W K hS hF hK
              have f9 : u 9 = .bool false := hF 9 (by kernel_rfl)
              have f12 : u 12 = undef := hF 12 (by kernel_rfl)
              simp only [putsFrom, Act.put, Nat.reduceAdd, List.setIfInBounds_toArray, List.set_cons_zero, List.set_cons_succ, f9, f12] at hK ⊢
              clear hF
              go_simp
              exact hK.out _ _ (Alters.refl _) rfl
            · intro u W K hS hF hK
              have f9 : u 9 = .bool false := hF 9 (by kernel_rfl)
              have f13 : u 13 = undef := hF 13 (by kernel_rfl)
              simp only [putsFrom, Act.put, Nat.reduceAdd, List.setIfInBounds_toArray, List.set_cons_zero, List.set_cons_succ, f9, f13] at hK ⊢
              clear hF
              go_simp
              exact hK.out _ _ (Alters.refl _) rfl
            · intro u W K hS hF hK
              have f9 : u 9 = .bool false := hF 9 (by kernel_rfl)
              simp only [putsFrom, Act.put, Nat.reduceAdd, List.setIfInBounds_toArray, List.set_cons_zero, List.set_cons_succ, f9] at hK ⊢
              clear hF
              go_simp
              exact hK.out _ _ (Alters.refl _) rfl
            · intro u W K hS hF hK
              have f9 : u 9 = .bool false := hF 9 (by kernel_rfl)
              simp only [putsFrom, Act.put, Nat.reduceAdd, List.setIfInBounds_toArray, List.set_cons_zero, List.set_cons_succ, f9] at hK ⊢
              clear hF
              go_simp
              exact hK.out _ _ (Alters.refl _) rfl
            · intro u W K hS hF hK
              have f9 : u 9 = .bool false := hF 9 (by kernel_rfl)
              have f16 : u 16 = undef := hF 16 (by kernel_rfl)
              simp only [putsFrom, Act.put, Nat.reduceAdd, List.setIfInBounds_toArray, List.set_cons_zero, List.set_cons_succ, f9, f16] at hK ⊢
              clear hF
              go_simp
              exact hK.out _ _ (Alters.refl _) rfl
            · intro u W K hS hF hK
              have f9 : u 9 = .bool false := hF 9 (by kernel_rfl)
              have f15 : u 15 = undef := hF 15 (by kernel_rfl)
              have f17 : u 17 = undef := hF 17 (by kernel_rfl)
              simp only [putsFrom, Act.put, Nat.reduceAdd, List.setIfInBounds_toArray, List.set_cons_zero, List.set_cons_succ, f9, f15, f17] at hK ⊢
              clear hF
              go_simp
              exact hK.out _ _ (Alters.refl _) rfl
            · intro u W K hS hF hK
              have f9 : u 9 = .bool false := hF 9 (by kernel_rfl)
              have f18 : u 18 = undef := hF 18 (by kernel_rfl)
              simp only [putsFrom, Act.put, Nat.reduceAdd, List.setIfInBounds_toArray, List.set_cons_zero, List.set_cons_succ, f9, f18] at hK ⊢
              clear hF
              go_simp
              exact hK.out _ _ (Alters.refl _) rfl
            · intro u W K hS hF hK
              have f9 : u 9 = .bool false := hF 9 (by kernel_rfl)
              have f19 : u 19 = undef := hF 19 (by kernel_rfl)
              simp only [putsFrom, Act.put, Nat.reduceAdd, List.setIfInBounds_toArray, List.set_cons_zero, List.set_cons_succ, f9, f19] at hK ⊢
              clear hF
              go_simp
              exact hK.out _ _ (Alters.refl _) rfl
            · intro u W K hS hF hK
              have f9 : u 9 = .bool false := hF 9 (by kernel_rfl)
              have f14 : u 14 = undef := hF 14 (by kernel_rfl)
              have f20 : u 20 = undef := hF 20 (by kernel_rfl)
              simp only [putsFrom, Act.put, Nat.reduceAdd, List.setIfInBounds_toArray, List.set_cons_zero, List.set_cons_succ, f9, f14, f20] at hK ⊢
              clear hF
              go_simp
              exact hK.out _ _ (Alters.refl _) rfl
            · intro u W K hS hF hK
              have f6 : u 6 = .bool false := hF 6 (by kernel_rfl)
              have f9 : u 9 = .bool false := hF 9 (by kernel_rfl)
              have f21 : u 21 = undef := hF 21 (by kernel_rfl)
              simp only [putsFrom, Act.put, Nat.reduceAdd, List.setIfInBounds_toArray, List.set_cons_zero, List.set_cons_succ, f6, f9, f21] at hK ⊢
              clear hF
              go_simp
              exact hK.out _ _ (Alters.refl _) rfl
            · intro u W K hS hF hK
              have f6 : u 6 = .bool false := hF 6 (by kernel_rfl)
              have f22 : u 22 = .bool false := hF 22 (by kernel_rfl)
              simp only [putsFrom, Act.put, Nat.reduceAdd, List.setIfInBounds_toArray, List.set_cons_zero, List.set_cons_succ, f6, f22] at hK ⊢
              clear hF
              go_simp
              exact hK.out _ _ (Alters.refl _) rfl
            · intro u W K hS hF hK
              have f23 : u 23 = .bool false := hF 23 (by kernel_rfl)
              simp only [putsFrom, Act.put, Nat.reduceAdd, List.setIfInBounds_toArray, List.set_cons_zero, List.set_cons_succ, f23] at hK ⊢
              clear hF
              go_simp
              exact hK.out _ _ (Alters.refl _) rfl
            · intro u W K hS hF hK
              have f24 : u 24 = .bool false := hF 24 (by kernel_rfl)
              simp only [putsFrom, Act.put, Nat.reduceAdd, List.setIfInBounds_toArray, List.set_cons_zero, List.set_cons_succ, f24] at hK ⊢
              clear hF
              go_simp
              exact hK.out _ _ (Alters.refl _) rfl
            · intro u W K hS hF hK
              have f24 : u 24 = .bool false := hF 24 (by kernel_rfl)
              simp only [putsFrom, Act.put, Nat.reduceAdd, List.setIfInBounds_toArray, List.set_cons_zero, List.set_cons_succ, f24] at hK ⊢
              clear hF
              go_simp
              exact hK.out _ _ (Alters.refl _) rfl
            · intro u W K hS hF hK
              have f24 : u 24 = .bool false := hF 24 (by kernel_rfl)
              have f25 : u 25 = .slice (some ⟨b, o, none⟩) L.length cap := hF 25 (by kernel_rfl)
              have f26 : u 26 = .int .i64 (k : Int) := hF 26 (by kernel_rfl)
              simp only [putsFrom, Act.put, Nat.reduceAdd, List.setIfInBounds_toArray, List.set_cons_zero, List.set_cons_succ, f24, f25, f26] at hK ⊢
              clear hF
              go_simp
              exact hK.out _ _ (Alters.refl _) rfl
            · intro u W K hS hF hK
              have f24 : u 24 = .bool false := hF 24 (by kernel_rfl)
              have f27 : u 27 = .pointer (some ⟨b, o + k * 2, none⟩) := hF 27 (by kernel_rfl)
              simp only [putsFrom, Act.put, Nat.reduceAdd, List.setIfInBounds_toArray, List.set_cons_zero, List.set_cons_succ, f24, f27] at hK ⊢
              clear hF
              go_simp
              exact hK.out _ _ (Alters.refl _) rfl
            · intro u W K hS hF hK
              have f24 : u 24 = .bool false := hF 24 (by kernel_rfl)
              have f28 : u 28 = .pointer (some ⟨b, o + k * 2 + 1, none⟩) := hF 28 (by kernel_rfl)
              simp only [putsFrom, Act.put, Nat.reduceAdd, List.setIfInBounds_toArray, List.set_cons_zero, List.set_cons_succ, f24, f28] at hK ⊢
              clear hF
              have x0 := hS.at (b) (o + k * 2 + 1) (.slice q.a q.p.props.length q.cap) (by simp)
              go_simp
              exact hK.out _ _ (Alters.refl _) rfl
            · intro u W K hS hF hK
              have f24 : u 24 = .bool false := hF 24 (by kernel_rfl)
              have f29 : u 29 = .slice q.a q.p.props.length q.cap := hF 29 (by kernel_rfl)
              simp only [putsFrom, Act.put, Nat.reduceAdd, List.setIfInBounds_toArray, List.set_cons_zero, List.set_cons_succ, f24, f29] at hK ⊢
              clear hF
              go_simp
              refine (right133_walk q.a q.cap q.p.props W (HW.out.props q HM.out).1 ((HW.out.props q HM.out).2.quiet hS.quiet)).mono ?_
              rintro e W2 ⟨rfl, hq⟩
              exact hK.out _ _ hq (show Value.bool (propsOk q.p.props) = .bool false by rw [HN.out])
            · intro u W K hS hF hK
              have f24 : u 24 = .bool false := hF 24 (by kernel_rfl)
              have f30 : u 30 = .bool false := hF 30 (by kernel_rfl)
              simp only [putsFrom, Act.put, Nat.reduceAdd, List.setIfInBounds_toArray, List.set_cons_zero, List.set_cons_succ, f24, f30] at hK ⊢
              clear hF
              go_simp
              exact hK.out _ _ (Alters.refl _) rfl
            · intro u W hS hF
              have f24 : u 24 = .bool false := hF 24 (by simp)
              have f31 : u 31 = .bool true := hF 31 (by simp)
              simp only [putsFrom, Act.put, Nat.reduceAdd, List.setIfInBounds_toArray, List.set_cons_zero, List.set_cons_succ, f24, f31]
              clear hF f24 f31
              have HS := Go.Lib.hid hS
              clear hS
              go_simp
              go_wp2_with fail
              go_ret
              exact ⟨by rw [HE.out]; rfl, HS.out.quiet⟩
        · obtain ⟨m, hm⟩ : ∃ m, k = m + 1 := ⟨k - 1, by omega⟩
          have hkm : (k : Int) - 1 = (m : Int) := by omega
          have b6 : decide (0 < k) = true := by simpa using hk0
          have hml : m < L.length := by omega
          have hwm : IntKind.i64.wrap (m : Int) = (m : Int) := by rw [IntKind.wrap_i64]; omega
          obtain ⟨r, hr⟩ : ∃ r, L[m]? = some r := ⟨_, List.getElem?_eq_getElem hml⟩
          obtain ⟨e0, e1⟩ := hc m r hr
          clear e1
          replace e0 := hQ.cell e0 (by simp)
          have hs := wordAt_step (by rw [← hm]; exact hq) hr
          rw [← hm, show m + 2 = k + 1 by omega] at hs
          by_cases ho : r.p.tm < q.p.tm
          · have c2 : decide (q.p.tm ≤ r.p.tm) = false := by simpa using ho
            rw [show decide (r.p.tm < q.p.tm) = true by simpa using ho, Bool.true_and] at hs
            by_cases hp : propsOk q.p.props = true
            · have HN := Go.Lib.hid hp
              have HE : Hid (wordAt L (k + 1) = wordOk (pts L)) := Go.Lib.hid (by rw [← hE, hs, hp, Bool.true_and])
              clear hn hE hQ hc hq hT hr hs ho hm hk0 hp
              go_upto_region 4 with (fail)
              refine wp_region_wants (by kernel_rfl) (by kernel_rfl) (by kernel_rfl) (by kernel_rfl) (CellsAt w [(⟨b, o + k * 2, none⟩, .int .i64 q.p.tm), (⟨b, o + k * 2 + 1, none⟩, .slice q.a q.p.props.length q.cap), (⟨b, o + m * 2, none⟩, .int .i64 r.p.tm)]) (fun _ _ hq h => h.keep hq) [Want.is (.slice (some ⟨b, o, none⟩) L.length cap), Want.is (.int .i64 (k : Int)), Want.is (.pointer (some ⟨b, o + k * 2, none⟩)), Want.is (.pointer (some ⟨b, o + k * 2, none⟩)), Want.is (.int .i64 q.p.tm), Want.is (.bool false), Want.is (.bool false), Want.is (.int .i64 (k : Int)), Want.is (.bool true), Want.is (.bool true), Want.is (.slice (some ⟨b, o, none⟩) L.length cap), Want.is (.int .i64 (k : Int)), Want.is (.pointer (some ⟨b, o + k * 2, none⟩)), Want.is (.pointer (some ⟨b, o + k * 2, none⟩)), Want.is (.int .i64 q.p.tm), Want.is (.slice (some ⟨b, o, none⟩) L.length cap), Want.is (.int .i64 (k : Int)), Want.is (.int .i64 (m : Int)), Want.is (.pointer (some ⟨b, o + m * 2, none⟩)), Want.is (.pointer (some ⟨b, o + m * 2, none⟩)), Want.is (.int .i64 r.p.tm), Want.is (.bool false), Want.is (.bool false), Want.is (.bool false), Want.is (.bool false), Want.is (.slice (some ⟨b, o, none⟩) L.length cap), Want.is (.int .i64 (k : Int)), Want.is (.pointer (some ⟨b, o + k * 2, none⟩)), Want.is (.pointer (some ⟨b, o + k * 2 + 1, none⟩)), Want.is (.slice q.a q.p.props.length q.cap), Want.is (.bool true), Want.is (.bool false)] ((CellsAt.cons (a := ⟨b, o + k * 2, none⟩) (v := .int .i64 q.p.tm) (d0) (CellsAt.cons (a := ⟨b, o + k * 2 + 1, none⟩) (v := .slice q.a q.p.props.length q.cap) (d1) (CellsAt.cons (a := ⟨b, o + m * 2, none⟩) (v := .int .i64 r.p.tm) (e0) (CellsAt.nil (HQ.out))))).keep ((Alters.refl _).drew)) (by decide) ?_
              refine Steps.cons ?_ (Steps.cons ?_ (Steps.cons ?_ (Steps.cons ?_ (Steps.cons ?_ (Steps.cons ?_ (Steps.cons ?_ (Steps.cons ?_ (Steps.cons ?_ (Steps.cons ?_ (Steps.cons ?_ (Steps.cons ?_ (Steps.cons ?_ (Steps.cons ?_ (Steps.cons ?_ (Steps.cons ?_ (Steps.cons ?_ (Steps.cons ?_ (Steps.cons ?_ (Steps.cons ?_ (Steps.cons ?_ (Steps.cons ?_ (Steps.cons ?_ (Steps.cons ?_ (Steps.cons ?_ (Steps.cons ?_ (Steps.cons ?_ (Steps.cons ?_ (Steps.cons ?_ (Steps.cons ?_ (Steps.cons ?_ (Steps.cons ?_ (Steps.last ?_))))))))))))))))))))))))))))))))
              · intro u W K hS hF hK
                simp only [putsFrom, Act.put, Nat.reduceAdd, List.setIfInBounds_toArray, List.set_cons_zero, List.set_cons_succ] at hK ⊢
                clear hF
                go_simp
                exact hK.out _ _ (Alters.refl _) rfl
              · intro u W K hS hF hK
                simp only [putsFrom, Act.put, Nat.reduceAdd, List.setIfInBounds_toArray, List.set_cons_zero, List.set_cons_succ] at hK ⊢
                clear hF
                go_simp
                exact hK.out _ _ (Alters.refl _) rfl
              · intro u W K hS hF hK
                have f0 : u 0 = .slice (some ⟨b, o, none⟩) L.length cap := hF 0 (by kernel_rfl)
                have f1 : u 1 = .int .i64 (k : Int) := hF 1 (by kernel_rfl)
                simp only [putsFrom, Act.put, Nat.reduceAdd, List.setIfInBounds_toArray, List.set_cons_zero, List.set_cons_succ, f0, f1] at hK ⊢
                clear hF
                go_simp
                exact hK.out _ _ (Alters.refl _) rfl
              · intro u W K hS hF hK
                have f2 : u 2 = .pointer (some ⟨b, o + k * 2, none⟩) := hF 2 (by kernel_rfl)
                simp only [putsFrom, Act.put, Nat.reduceAdd, List.setIfInBounds_toArray, List.set_cons_zero, List.set_cons_succ, f2] at hK ⊢
                clear hF
                go_simp
                exact hK.out _ _ (Alters.refl _) rfl
              · intro u W K hS hF hK
                have f3 : u 3 = .pointer (some ⟨b, o + k * 2, none⟩) := hF 3 (by kernel_rfl)
                simp only [putsFrom, Act.put, Nat.reduceAdd, List.setIfInBounds_toArray, List.set_cons_zero, List.set_cons_succ, f3] at hK ⊢
                clear hF
                have x0 := hS.at (b) (o + k * 2) (.int .i64 q.p.tm) (by simp)
                go_simp
                exact hK.out _ _ (Alters.refl _) rfl
              · intro u W K hS hF hK
                have f4 : u 4 = .int .i64 q.p.tm := hF 4 (by kernel_rfl)
                simp only [putsFrom, Act.put, Nat.reduceAdd, List.setIfInBounds_toArray, List.set_cons_zero, List.set_cons_succ, f4] at hK ⊢
                clear hF
                go_simp
                exact hK.out _ _ (Alters.refl _) rfl
              · intro u W K hS hF hK
                have f5 : u 5 = .bool false := hF 5 (by kernel_rfl)
                simp only [putsFrom, Act.put, Nat.reduceAdd, List.setIfInBounds_toArray, List.set_cons_zero, List.set_cons_succ, f5] at hK ⊢
                clear hF
                go_simp
                exact hK.out _ _ (Alters.refl _) rfl
              · intro u W K hS hF hK
                have f6 : u 6 = .bool false := hF 6 (by kernel_rfl)
                simp only [putsFrom, Act.put, Nat.reduceAdd, List.setIfInBounds_toArray, List.set_cons_zero, List.set_cons_succ, f6] at hK ⊢
                clear hF
                go_simp
                exact hK.out _ _ (Alters.refl _) rfl
              · intro u W K hS hF hK
                have f6 : u 6 = .bool false := hF 6 (by kernel_rfl)
                have f7 : u 7 = .int .i64 (k : Int) := hF 7 (by kernel_rfl)
                simp only [putsFrom, Act.put, Nat.reduceAdd, List.setIfInBounds_toArray, List.set_cons_zero, List.set_cons_succ, f6, f7] at hK ⊢
                clear hF
                go_simp
                exact hK.out _ _ (Alters.refl _) rfl
              · intro u W K hS hF hK
                have f6 : u 6 = .bool false := hF 6 (by kernel_rfl)
                have f8 : u 8 = .bool true := hF 8 (by kernel_rfl)
                simp only [putsFrom, Act.put, Nat.reduceAdd, List.setIfInBounds_toArray, List.set_cons_zero, List.set_cons_succ, f6, f8] at hK ⊢
                clear hF
                go_simp
                exact hK.out _ _ (Alters.refl _) rfl
              · intro u W K hS hF hK
                have f9 : u 9 = .bool true := hF 9 (by kernel_rfl)
                simp only [putsFrom, Act.put, Nat.reduceAdd, List.setIfInBounds_toArray, List.set_cons_zero, List.set_cons_succ, f9] at hK ⊢
                clear hF
                go_simp
                exact hK.out _ _ (Alters.refl _) rfl
              · intro u W K hS hF hK
                have f9 : u 9 = .bool true := hF 9 (by kernel_rfl)
                simp only [putsFrom, Act.put, Nat.reduceAdd, List.setIfInBounds_toArray, List.set_cons_zero, List.set_cons_succ, f9] at hK ⊢
                clear hF
                go_simp
                exact hK.out _ _ (Alters.refl _) rfl
              · intro u W K hS hF hK
                have f9 : u 9 = .bool true := hF 9 (by kernel_rfl)
                have f10 : u 10 = .slice (some ⟨b, o, none⟩) L.length cap := hF 10 (by kernel_rfl)
                have f11 : u 11 = .int .i64 (k : Int) := hF 11 (by kernel_rfl)
                simp only [putsFrom, Act.put, Nat.reduceAdd, List.setIfInBounds_toArray, List.set_cons_zero, List.set_cons_succ, f9, f10, f11] at hK ⊢
                clear hF
                go_simp
                exact hK.out _ _ (Alters.refl _) rfl
              · intro u W K hS hF hK
                have f9 : u 9 = .bool true := hF 9 (by kernel_rfl)
                have f12 : u 12 = .pointer (some ⟨b, o + k * 2, none⟩) := hF 12 (by kernel_rfl)
                simp only [putsFrom, Act.put, Nat.reduceAdd, List.setIfInBounds_toArray, List.set_cons_zero, List.set_cons_succ, f9, f12] at hK ⊢
                clear hF
                go_simp
                exact hK.out _ _ (Alters.refl _) rfl
              · intro u W K hS hF hK
                have f9 : u 9 = .bool true := hF 9 (by kernel_rfl)
                have f13 : u 13 = .pointer (some ⟨b, o + k * 2, none⟩) := hF 13 (by kernel_rfl)
                simp only [putsFrom, Act.put, Nat.reduceAdd, List.setIfInBounds_toArray, List.set_cons_zero, List.set_cons_succ, f9, f13] at hK ⊢
                clear hF
                have x0 := hS.at (b) (o + k * 2) (.int .i64 q.p.tm) (by simp)
                go_simp
                exact hK.out _ _ (Alters.refl _) rfl
              · intro u W K hS hF hK
                have f9 : u 9 = .bool true := hF 9 (by kernel_rfl)
                simp only [putsFrom, Act.put, Nat.reduceAdd, List.setIfInBounds_toArray, List.set_cons_zero, List.set_cons_succ, f9] at hK ⊢
                clear hF
                go_simp
                exact hK.out _ _ (Alters.refl _) rfl
              · intro u W K hS hF hK
                have f9 : u 9 = .bool true := hF 9 (by kernel_rfl)
                simp only [putsFrom, Act.put, Nat.reduceAdd, List.setIfInBounds_toArray, List.set_cons_zero, List.set_cons_succ, f9] at hK ⊢
                clear hF
                go_simp
                exact hK.out _ _ (Alters.refl _) rfl
              · intro u W K hS hF hK
                have f9 : u 9 = .bool true := hF 9 (by kernel_rfl)
                have f16 : u 16 = .int .i64 (k : Int) := hF 16 (by kernel_rfl)
                simp only [putsFrom, Act.put, Nat.reduceAdd, List.setIfInBounds_toArray, List.set_cons_zero, List.set_cons_succ, f9, f16] at hK ⊢
                clear hF
                go_simp
                exact hK.out _ _ (Alters.refl _) rfl
              · intro u W K hS hF hK
                have f9 : u 9 = .bool true := hF 9 (by kernel_rfl)
                have f15 : u 15 = .slice (some ⟨b, o, none⟩) L.length cap := hF 15 (by kernel_rfl)
                have f17 : u 17 = .int .i64 (m : Int) := hF 17 (by kernel_rfl)
                simp only [putsFrom, Act.put, Nat.reduceAdd, List.setIfInBounds_toArray, List.set_cons_zero, List.set_cons_succ, f9, f15, f17] at hK ⊢
                clear hF
                go_simp
                exact hK.out _ _ (Alters.refl _) rfl
              · intro u W K hS hF hK
                have f9 : u 9 = .bool true := hF 9 (by kernel_rfl)
                have f18 : u 18 = .pointer (some ⟨b, o + m * 2, none⟩) := hF 18 (by kernel_rfl)
                simp only [putsFrom, Act.put, Nat.reduceAdd, List.setIfInBounds_toArray, List.set_cons_zero, List.set_cons_succ, f9, f18] at hK ⊢
                clear hF
                go_simp
                exact hK.out _ _ (Alters.refl _) rfl
              · intro u W K hS hF hK
                have f9 : u 9 = .bool true := hF 9 (by kernel_rfl)
                have f19 : u 19 = .pointer (some ⟨b, o + m * 2, none⟩) := hF 19 (by kernel_rfl)
                simp only [putsFrom, Act.put, Nat.reduceAdd, List.setIfInBounds_toArray, List.set_cons_zero, List.set_cons_succ, f9, f19] at hK ⊢
                clear hF
                have x0 := hS.at (b) (o + m * 2) (.int .i64 r.p.tm) (by simp)
                go_simp
                exact hK.out _ _ (Alters.refl _) rfl
              · intro u W K hS hF hK
                have f9 : u 9 = .bool true := hF 9 (by kernel_rfl)
                have f14 : u 14 = .int .i64 q.p.tm := hF 14 (by kernel_rfl)
                have f20 : u 20 = .int .i64 r.p.tm := hF 20 (by kernel_rfl)
                simp only [putsFrom, Act.put, Nat.reduceAdd, List.setIfInBounds_toArray, List.set_cons_zero, List.set_cons_succ, f9, f14, f20] at hK ⊢
                clear hF
                go_simp
                exact hK.out _ _ (Alters.refl _) rfl
              · intro u W K hS hF hK
                have f6 : u 6 = .bool false := hF 6 (by kernel_rfl)
                have f9 : u 9 = .bool true := hF 9 (by kernel_rfl)
                have f21 : u 21 = .bool false := hF 21 (by kernel_rfl)
                simp only [putsFrom, Act.put, Nat.reduceAdd, List.setIfInBounds_toArray, List.set_cons_zero, List.set_cons_succ, f6, f9, f21] at hK ⊢
                clear hF
                go_simp
                exact hK.out _ _ (Alters.refl _) rfl
              · intro u W K hS hF hK
                have f6 : u 6 = .bool false := hF 6 (by kernel_rfl)
                have f22 : u 22 = .bool false := hF 22 (by kernel_rfl)
                simp only [putsFrom, Act.put, Nat.reduceAdd, List.setIfInBounds_toArray, List.set_cons_zero, List.set_cons_succ, f6, f22] at hK ⊢
                clear hF
                go_simp
                exact hK.out _ _ (Alters.refl _) rfl
              · intro u W K hS hF hK
                have f23 : u 23 = .bool false := hF 23 (by kernel_rfl)
                simp only [putsFrom, Act.put, Nat.reduceAdd, List.setIfInBounds_toArray, List.set_cons_zero, List.set_cons_succ, f23] at hK ⊢
                clear hF
                go_simp
                exact hK.out _ _ (Alters.refl _) rfl
              · intro u W K hS hF hK
                have f24 : u 24 = .bool false := hF 24 (by kernel_rfl)
                simp only [putsFrom, Act.put, Nat.reduceAdd, List.setIfInBounds_toArray, List.set_cons_zero, List.set_cons_succ, f24] at hK ⊢
                clear hF
                go_simp
                exact hK.out _ _ (Alters.refl _) rfl
              · intro u W K hS hF hK
                have f24 : u 24 = .bool false := hF 24 (by kernel_rfl)
                simp only [putsFrom, Act.put, Nat.reduceAdd, List.setIfInBounds_toArray, List.set_cons_zero, List.set_cons_succ, f24] at hK ⊢
                clear hF
                go_simp
                exact hK.out _ _ (Alters.refl _) rfl
              · intro u W K hS hF hK
                have f24 : u 24 = .bool false := hF 24 (by kernel_rfl)
                have f25 : u 25 = .slice (some ⟨b, o, none⟩) L.length cap := hF 25 (by kernel_rfl)
                have f26 : u 26 = .int .i64 (k : Int) := hF 26 (by kernel_rfl)
                simp only [putsFrom, Act.put, Nat.reduceAdd, List.setIfInBounds_toArray, List.set_cons_zero, List.set_cons_succ, f24, f25, f26] at hK ⊢
                clear hF
                go_simp
                exact hK.out _ _ (Alters.refl _) rfl
              · intro u W K hS hF hK
                have f24 : u 24 = .bool false := hF 24 (by kernel_rfl)
                have f27 : u 27 = .pointer (some ⟨b, o + k * 2, none⟩) := hF 27 (by kernel_rfl)
                simp only [putsFrom, Act.put, Nat.reduceAdd, List.setIfInBounds_toArray, List.set_cons_zero, List.set_cons_succ, f24, f27] at hK ⊢
                clear hF
                go_simp
                exact hK.out _ _ (Alters.refl _) rfl
              · intro u W K hS hF hK
                have f24 : u 24 = .bool false := hF 24 (by kernel_rfl)
                have f28 : u 28 = .pointer (some ⟨b, o + k * 2 + 1, none⟩) := hF 28 (by kernel_rfl)
                simp only [putsFrom, Act.put, Nat.reduceAdd, List.setIfInBounds_toArray, List.set_cons_zero, List.set_cons_succ, f24, f28] at hK ⊢
                clear hF
                have x0 := hS.at (b) (o + k * 2 + 1) (.slice q.a q.p.props.length q.cap) (by simp)
                go_simp
                exact hK.out _ _ (Alters.refl _) rfl
              · intro u W K hS hF hK
                have f24 : u 24 = .bool false := hF 24 (by kernel_rfl)
                have f29 : u 29 = .slice q.a q.p.props.length q.cap := hF 29 (by kernel_rfl)
                simp only [putsFrom, Act.put, Nat.reduceAdd, List.setIfInBounds_toArray, List.set_cons_zero, List.set_cons_succ, f24, f29] at hK ⊢
                clear hF
                go_simp
                refine (right133_walk q.a q.cap q.p.props W (HW.out.props q HM.out).1 ((HW.out.props q HM.out).2.quiet hS.quiet)).mono ?_
                rintro e W2 ⟨rfl, hq⟩
                exact hK.out _ _ hq (show Value.bool (propsOk q.p.props) = .bool true by rw [HN.out])
              · intro u W K hS hF hK
                have f24 : u 24 = .bool false := hF 24 (by kernel_rfl)
                have f30 : u 30 = .bool true := hF 30 (by kernel_rfl)
                simp only [putsFrom, Act.put, Nat.reduceAdd, List.setIfInBounds_toArray, List.set_cons_zero, List.set_cons_succ, f24, f30] at hK ⊢
                clear hF
                go_simp
                exact hK.out _ _ (Alters.refl _) rfl
              · intro u W hS hF
                have f24 : u 24 = .bool false := hF 24 (by simp)
                have f31 : u 31 = .bool false := hF 31 (by simp)
                simp only [putsFrom, Act.put, Nat.reduceAdd, List.setIfInBounds_toArray, List.set_cons_zero, List.set_cons_succ, f24, f31]
                clear hF f24 f31
                have HS := Go.Lib.hid hS
                clear hS
                go_simp
                go_wp2_with fail
                go_roundw
                case rel => exact ⟨k + 1, by omega, by go_num, by rw [← HE.out], HT.out, HS.out.quiet⟩
                case measure => simp [intOf]; omega
            · have HN : Hid (propsOk q.p.props = false) := Go.Lib.hid (by simpa using hp)
              have HE : Hid (wordOk (pts L) = false) := Go.Lib.hid (by rw [← hE, hs, HN.out, Bool.false_and])
              clear hn hE hQ hc hq hT hr hs ho hm hk0 hp HT
              go_upto_region 4 with (fail)
              refine wp_region_wants (by kernel_rfl) (by kernel_rfl) (by kernel_rfl) (by kernel_rfl) (CellsAt w [(⟨b, o + k * 2, none⟩, .int .i64 q.p.tm), (⟨b, o + k * 2 + 1, none⟩, .slice q.a q.p.props.length q.cap), (⟨b, o + m * 2, none⟩, .int .i64 r.p.tm)]) (fun _ _ hq h => h.keep hq) [Want.is (.slice (some ⟨b, o, none⟩) L.length cap), Want.is (.int .i64 (k : Int)), Want.is (.pointer (some ⟨b, o + k * 2, none⟩)), Want.is (.pointer (some ⟨b, o + k * 2, none⟩)), Want.is (.int .i64 q.p.tm), Want.is (.bool false), Want.is (.bool false), Want.is (.int .i64 (k : Int)), Want.is (.bool true), Want.is (.bool true), Want.is (.slice (some ⟨b, o, none⟩) L.length cap), Want.is (.int .i64 (k : Int)), Want.is (.pointer (some ⟨b, o + k * 2, none⟩)), Want.is (.pointer (some ⟨b, o + k * 2, none⟩)), Want.is (.int .i64 q.p.tm), Want.is (.slice (some ⟨b, o, none⟩) L.length cap), Want.is (.int .i64 (k : Int)), Want.is (.int .i64 (m : Int)), Want.is (.pointer (some ⟨b, o + m * 2, none⟩)), Want.is (.pointer (some ⟨b, o + m * 2, none⟩)), Want.is (.int .i64 r.p.tm), Want.is (.bool false), Want.is (.bool false), Want.is (.bool false), Want.is (.bool false), Want.is (.slice (some ⟨b, o, none⟩) L.length cap), Want.is (.int .i64 (k : Int)), Want.is (.pointer (some ⟨b, o + k * 2, none⟩)), Want.is (.pointer (some ⟨b, o + k * 2 + 1, none⟩)), Want.is (.slice q.a q.p.props.length q.cap), Want.is (.bool false), Want.is (.bool true)] ((CellsAt.cons (a := ⟨b, o + k * 2, none⟩) (v := .int .i64 q.p.tm) (d0) (CellsAt.cons (a := ⟨b, o + k * 2 + 1, none⟩) (v := .slice q.a q.p.props.length q.cap) (d1) (CellsAt.cons (a := ⟨b, o + m * 2, none⟩) (v := .int .i64 r.p.tm) (e0) (CellsAt.nil (HQ.out))))).keep ((Alters.refl _).drew)) (by decide) ?_
              refine Steps.cons ?_ (Steps.cons ?_ (Steps.cons ?_ (Steps.cons ?_ (Steps.cons ?_ (Steps.cons ?_ (Steps.cons ?_ (Steps.cons ?_ (Steps.cons ?_ (Steps.cons ?_ (Steps.cons ?_ (Steps.cons ?_ (Steps.cons ?_ (Steps.cons ?_ (Steps.cons ?_ (Steps.cons ?_ (Steps.cons ?_ (Steps.cons ?_ (Steps.cons ?_ (Steps.cons ?_ (Steps.cons ?_ (Steps.cons ?_ (Steps.cons ?_ (Steps.cons ?_ (Steps.cons ?_ (Steps.cons ?_ (Steps.cons ?_ (Steps.cons ?_ (Steps.cons ?_ (Steps.cons ?_ (Steps.cons ?_ (Steps.cons ?_ (Steps.last ?_))))))))))))))))))))))))))))))))
              · intro u W K hS hF hK
                simp only [putsFrom, Act.put, Nat.reduceAdd, List.setIfInBounds_toArray, List.set_cons_zero, List.set_cons_succ] at hK ⊢
                clear hF
                go_simp
                exact hK.out _ _ (Alters.refl _) rfl
              · intro u W K hS hF hK
                simp only [putsFrom, Act.put, Nat.reduceAdd, List.setIfInBounds_toArray, List.set_cons_zero, List.set_cons_succ] at hK ⊢
                clear hF
                go_simp
                exact hK.out _ _ (Alters.refl _) rfl
              · intro u W K hS hF hK
                have f0 : u 0 = .slice (some ⟨b, o, none⟩) L.length cap := hF 0 (by kernel_rfl)
                have f1 : u 1 = .int .i64 (k : Int) := hF 1 (by kernel_rfl)
                simp only [putsFrom, Act.put, Nat.reduceAdd, List.setIfInBounds_toArray, List.set_cons_zero, List.set_cons_succ, f0, f1] at hK ⊢
                clear hF
                go_simp
                exact hK.out _ _ (Alters.refl _) rfl
              · intro u W K hS hF hK
                have f2 : u 2 = .pointer (some ⟨b, o + k * 2, none⟩) := hF 2 (by kernel_rfl)
                simp only [putsFrom, Act.put, Nat.reduceAdd, List.setIfInBounds_toArray, List.set_cons_zero, List.set_cons_succ, f2] at hK ⊢
                clear hF
                go_simp
                exact hK.out _ _ (Alters.refl _) rfl
              · intro u W K hS hF hK
                have f3 : u 3 = .pointer (some ⟨b, o + k * 2, none⟩) := hF 3 (by kernel_rfl)
                simp only [putsFrom, Act.put, Nat.reduceAdd, List.setIfInBounds_toArray, List.set_cons_zero, List.set_cons_succ, f3] at hK ⊢
                clear hF
                have x0 := hS.at (b) (o + k * 2) (.int .i64 q.p.tm) (by simp)
                go_simp
                exact hK.out _ _ (Alters.refl _) rfl
              · intro u W K hS hF hK
                have f4 : u 4 = .int .i64 q.p.tm := hF 4 (by kernel_rfl)
                simp only [putsFrom, Act.put, Nat.reduceAdd, List.setIfInBounds_toArray, List.set_cons_zero, List.set_cons_succ, f4] at hK ⊢
                clear hF
                go_simp
                exact hK.out _ _ (Alters.refl _) rfl
              · intro u W K hS hF hK
                have f5 : u 5 = .bool false := hF 5 (by kernel_rfl)
                simp only [putsFrom, Act.put, Nat.reduceAdd, List.setIfInBounds_toArray, List.set_cons_zero, List.set_cons_succ, f5] at hK ⊢
                clear hF
                go_simp
                exact hK.out _ _ (Alters.refl _) rfl
              · intro u W K hS hF hK
                have f6 : u 6 = .bool false := hF 6 (by kernel_rfl)
                simp only [putsFrom, Act.put, Nat.reduceAdd, List.setIfInBounds_toArray, List.set_cons_zero, List.set_cons_succ, f6] at hK ⊢
                clear hF
                go_simp
                exact hK.out _ _ (Alters.refl _) rfl
              · intro u W K hS hF hK
                have f6 : u 6 = .bool false := hF 6 (by kernel_rfl)
                have f7 : u 7 = .int .i64 (k : Int) := hF 7 (by kernel_rfl)
                simp only [putsFrom, Act.put, Nat.reduceAdd, List.setIfInBounds_toArray, List.set_cons_zero, List.set_cons_succ, f6, f7] at hK ⊢
                clear hF
                go_simp
                exact hK.out _ _ (Alters.refl _) rfl
              · intro u W K hS hF hK
                have f6 : u 6 = .bool false := hF 6 (by kernel_rfl)
                have f8 : u 8 = .bool true := hF 8 (by kernel_rfl)
                simp only [putsFrom, Act.put, Nat.reduceAdd, List.setIfInBounds_toArray, List.set_cons_zero, List.set_cons_succ, f6, f8] at hK ⊢
                clear hF
                go_simp
                exact hK.out _ _ (Alters.refl _) rfl
              · intro u W K hS hF hK
                have f9 : u 9 = .bool true := hF 9 (by kernel_rfl)
                simp only [putsFrom, Act.put, Nat.reduceAdd, List.setIfInBounds_toArray, List.set_cons_zero, List.set_cons_succ, f9] at hK ⊢
                clear hF
                go_simp
                exact hK.out _ _ (Alters.refl _) rfl
              · intro u W K hS hF hK
                have f9 : u 9 = .bool true := hF 9 (by kernel_rfl)
                simp only [putsFrom, Act.put, Nat.reduceAdd, List.setIfInBounds_toArray, List.set_cons_zero, List.set_cons_succ, f9] at hK ⊢
                clear hF
                go_simp
                exact hK.out _ _ (Alters.refl _) rfl
              · intro u W K hS hF hK
                have f9 : u 9 = .bool true := hF 9 (by kernel_rfl)
                have f10 : u 10 = .slice (some ⟨b, o, none⟩) L.length cap := hF 10 (by kernel_rfl)
                have f11 : u 11 = .int .i64 (k : Int) := hF 11 (by kernel_rfl)
                simp only [putsFrom, Act.put, Nat.reduceAdd, List.setIfInBounds_toArray, List.set_cons_zero, List.set_cons_succ, f9, f10, f11] at hK ⊢
                clear hF
                go_simp
                exact hK.out _ _ (Alters.refl _) rfl
              · intro u W K hS hF hK
                have f9 : u 9 = .bool true := hF 9 (by kernel_rfl)
                have f12 : u 12 = .pointer (some ⟨b, o + k * 2, none⟩) := hF 12 (by kernel_rfl)
                simp only [putsFrom, Act.put, Nat.reduceAdd, List.setIfInBounds_toArray, List.set_cons_zero, List.set_cons_succ, f9, f12] at hK ⊢
                clear hF
                go_simp
                exact hK.out _ _ (Alters.refl _) rfl
              · intro u W K hS hF hK
                have f9 : u 9 = .bool true := hF 9 (by kernel_rfl)
                have f13 : u 13 = .pointer (some ⟨b, o + k * 2, none⟩) := hF 13 (by kernel_rfl)
                simp only [putsFrom, Act.put, Nat.reduceAdd, List.setIfInBounds_toArray, List.set_cons_zero, List.set_cons_succ, f9, f13] at hK ⊢
                clear hF
                have x0 := hS.at (b) (o + k * 2) (.int .i64 q.p.tm) (by simp)
                go_simp
                exact hK.out _ _ (Alters.refl _) rfl
              · intro u W K hS hF hK
                have f9 : u 9 = .bool true := hF 9 (by kernel_rfl)
                simp only [putsFrom, Act.put, Nat.reduceAdd, List.setIfInBounds_toArray, List.set_cons_zero, List.set_cons_succ, f9] at hK ⊢
                clear hF
                go_simp
                exact hK.out _ _ (Alters.refl _) rfl
              · intro u W K hS hF hK
                have f9 : u 9 = .bool true := hF 9 (by kernel_rfl)
                simp only [putsFrom, Act.put, Nat.reduceAdd, List.setIfInBounds_toArray, List.set_cons_zero, List.set_cons_succ, f9] at hK ⊢
                clear hF
                go_simp
                exact hK.out _ _ (Alters.refl _) rfl
              · intro u W K hS hF hK
                have f9 : u 9 = .bool true := hF 9 (by kernel_rfl)
                have f16 : u 16 = .int .i64 (k : Int) := hF 16 (by kernel_rfl)
                simp only [putsFrom, Act.put, Nat.reduceAdd, List.setIfInBounds_toArray, List.set_cons_zero, List.set_cons_succ, f9, f16] at hK ⊢
                clear hF
                go_simp
                exact hK.out _ _ (Alters.refl _) rfl
              · intro u W K hS hF hK
                have f9 : u 9 = .bool true := hF 9 (by kernel_rfl)
                have f15 : u 15 = .slice (some ⟨b, o, none⟩) L.length cap := hF 15 (by kernel_rfl)
                have f17 : u 17 = .int .i64 (m : Int) := hF 17 (by kernel_rfl)
                simp only [putsFrom, Act.put, Nat.reduceAdd, List.setIfInBounds_toArray, List.set_cons_zero, List.set_cons_succ, f9, f15, f17] at hK ⊢
                clear hF
                go_simp
                exact hK.out _ _ (Alters.refl _) rfl
              · intro u W K hS hF hK
                have f9 : u 9 = .bool true := hF 9 (by kernel_rfl)
                have f18 : u 18 = .pointer (some ⟨b, o + m * 2, none⟩) := hF 18 (by kernel_rfl)
                simp only [putsFrom, Act.put, Nat.reduceAdd, List.setIfInBounds_toArray, List.set_cons_zero, List.set_cons_succ, f9, f18] at hK ⊢
                clear hF
                go_simp
                exact hK.out _ _ (Alters.refl _) rfl
              · intro u W K hS hF hK
                have f9 : u 9 = .bool true := hF 9 (by kernel_rfl)
                have f19 : u 19 = .pointer (some ⟨b, o + m * 2, none⟩) := hF 19 (by kernel_rfl)
                simp only [putsFrom, Act.put, Nat.reduceAdd, List.setIfInBounds_toArray, List.set_cons_zero, List.set_cons_succ, f9, f19] at hK ⊢
                clear hF
                have x0 := hS.at (b) (o + m * 2) (.int .i64 r.p.tm) (by simp)
                go_simp
                exact hK.out _ _ (Alters.refl _) rfl
              · intro u W K hS hF hK
                have f9 : u 9 = .bool true := hF 9 (by kernel_rfl)
                have f14 : u 14 = .int .i64 q.p.tm := hF 14 (by kernel_rfl)
                have f20 : u 20 = .int .i64 r.p.tm := hF 20 (by kernel_rfl)
                simp only [putsFrom, Act.put, Nat.reduceAdd, List.setIfInBounds_toArray, List.set_cons_zero, List.set_cons_succ, f9, f14, f20] at hK ⊢
                clear hF
                go_simp
                exact hK.out _ _ (Alters.refl _) rfl
              · intro u W K hS hF hK
                have f6 : u 6 = .bool false := hF 6 (by kernel_rfl)
                have f9 : u 9 = .bool true := hF 9 (by kernel_rfl)
                have f21 : u 21 = .bool false := hF 21 (by kernel_rfl)
                simp only [putsFrom, Act.put, Nat.reduceAdd, List.setIfInBounds_toArray, List.set_cons_zero, List.set_cons_succ, f6, f9, f21] at hK ⊢
                clear hF
                go_simp
                exact hK.out _ _ (Alters.refl _) rfl
              · intro u W K hS hF hK
                have f6 : u 6 = .bool false := hF 6 (by kernel_rfl)
                have f22 : u 22 = .bool false := hF 22 (by kernel_rfl)
                simp only [putsFrom, Act.put, Nat.reduceAdd, List.setIfInBounds_toArray, List.set_cons_zero, List.set_cons_succ, f6, f22] at hK ⊢
                clear hF
                go_simp
                exact hK.out _ _ (Alters.refl _) rfl
              · intro u W K hS hF hK
                have f23 : u 23 = .bool false := hF 23 (by kernel_rfl)
                simp only [putsFrom, Act.put, Nat.reduceAdd, List.setIfInBounds_toArray, List.set_cons_zero, List.set_cons_succ, f23] at hK ⊢
                clear hF
                go_simp
                exact hK.out _ _ (Alters.refl _) rfl
              · intro u W K hS hF hK
                have f24 : u 24 = .bool false := hF 24 (by kernel_rfl)
                simp only [putsFrom, Act.put, Nat.reduceAdd, List.setIfInBounds_toArray, List.set_cons_zero, List.set_cons_succ, f24] at hK ⊢
                clear hF
                go_simp
                exact hK.out _ _ (Alters.refl _) rfl
              · intro u W K hS hF hK
                have f24 : u 24 = .bool false := hF 24 (by kernel_rfl)
                simp only [putsFrom, Act.put, Nat.reduceAdd, List.setIfInBounds_toArray, List.set_cons_zero, List.set_cons_succ, f24] at hK ⊢
                clear hF
                go_simp
                exact hK.out _ _ (Alters.refl _) rfl
              · intro u W K hS hF hK
                have f24 : u 24 = .bool false := hF 24 (by kernel_rfl)
                have f25 : u 25 = .slice (some ⟨b, o, none⟩) L.length cap := hF 25 (by kernel_rfl)
                have f26 : u 26 = .int .i64 (k : Int) := hF 26 (by kernel_rfl)
                simp only [putsFrom, Act.put, Nat.reduceAdd, List.setIfInBounds_toArray, List.set_cons_zero, List.set_cons_succ, f24, f25, f26] at hK ⊢
                clear hF
                go_simp
                exact hK.out _ _ (Alters.refl _) rfl
              · intro u W K hS hF hK
                have f24 : u 24 = .bool false := hF 24 (by kernel_rfl)
                have f27 : u 27 = .pointer (some ⟨b, o + k * 2, none⟩) := hF 27 (by kernel_rfl)
                simp only [putsFrom, Act.put, Nat.reduceAdd, List.setIfInBounds_toArray, List.set_cons_zero, List.set_cons_succ, f24, f27] at hK ⊢
                clear hF
                go_simp
                exact hK.out _ _ (Alters.refl _) rfl
              · intro u W K hS hF hK
                have f24 : u 24 = .bool false := hF 24 (by kernel_rfl)
                have f28 : u 28 = .pointer (some ⟨b, o + k * 2 + 1, none⟩) := hF 28 (by kernel_rfl)
                simp only [putsFrom, Act.put, Nat.reduceAdd, List.setIfInBounds_toArray, List.set_cons_zero, List.set_cons_succ, f24, f28] at hK ⊢
                clear hF
                have x0 := hS.at (b) (o + k * 2 + 1) (.slice q.a q.p.props.length q.cap) (by simp)
                go_simp
                exact hK.out _ _ (Alters.refl _) rfl
              · intro u W K hS hF hK
                have f24 : u 24 = .bool false := hF 24 (by kernel_rfl)
                have f29 : u 29 = .slice q.a q.p.props.length q.cap := hF 29 (by kernel_rfl)
                simp only [putsFrom, Act.put, Nat.reduceAdd, List.setIfInBounds_toArray, List.set_cons_zero, List.set_cons_succ, f24, f29] at hK ⊢
                clear hF
                go_simp
                refine (right133_walk q.a q.cap q.p.props W (HW.out.props q HM.out).1 ((HW.out.props q HM.out).2.quiet hS.quiet)).mono ?_
                rintro e W2 ⟨rfl, hq⟩
                exact hK.out _ _ hq (show Value.bool (propsOk q.p.props) = .bool false by rw [HN.out])
              · intro u W K hS hF hK
                have f24 : u 24 = .bool false := hF 24 (by kernel_rfl)
                have f30 : u 30 = .bool false := hF 30 (by kernel_rfl)
                simp only [putsFrom, Act.put, Nat.reduceAdd, List.setIfInBounds_toArray, List.set_cons_zero, List.set_cons_succ, f24, f30] at hK ⊢
                clear hF
                go_simp
                exact hK.out _ _ (Alters.refl _) rfl
              · intro u W hS hF
                have f24 : u 24 = .bool false := hF 24 (by simp)
                have f31 : u 31 = .bool true := hF 31 (by simp)
                simp only [putsFrom, Act.put, Nat.reduceAdd, List.setIfInBounds_toArray, List.set_cons_zero, List.set_cons_succ, f24, f31]
                clear hF f24 f31
                have HS := Go.Lib.hid hS
                clear hS
                go_simp
                go_wp2_with fail
                go_ret
                exact ⟨by rw [HE.out]; rfl, HS.out.quiet⟩
          · have c2 : decide (q.p.tm ≤ r.p.tm) = true := by simpa using ho
            have HE : Hid (wordOk (pts L) = false) := Go.Lib.hid (by rw [← hE, hs]; simp [ho])
            clear hn hE hQ hc hq hT hr hs ho hm hk0 HT
            go_upto_region 4 with (fail)
            refine wp_region_wants (by kernel_rfl) (by kernel_rfl) (by kernel_rfl) (by kernel_rfl) (CellsAt w [(⟨b, o + k * 2, none⟩, .int .i64 q.p.tm), (⟨b, o + k * 2 + 1, none⟩, .slice q.a q.p.props.length q.cap), (⟨b, o + m * 2, none⟩, .int .i64 r.p.tm)]) (fun _ _ hq h => h.keep hq) [Want.is (.slice (some ⟨b, o, none⟩) L.length cap), Want.is (.int .i64 (k : Int)), Want.is (.pointer (some ⟨b, o + k * 2, none⟩)), Want.is (.pointer (some ⟨b, o + k * 2, none⟩)), Want.is (.int .i64 q.p.tm), Want.is (.bool false), Want.is (.bool false), Want.is (.int .i64 (k : Int)), Want.is (.bool true), Want.is (.bool true), Want.is (.slice (some ⟨b, o, none⟩) L.length cap), Want.is (.int .i64 (k : Int)), Want.is (.pointer (some ⟨b, o + k * 2, none⟩)), Want.is (.pointer (some ⟨b, o + k * 2, none⟩)), Want.is (.int .i64 q.p.tm), Want.is (.slice (some ⟨b, o, none⟩) L.length cap), Want.is (.int .i64 (k : Int)), Want.is (.int .i64 (m : Int)), Want.is (.pointer (some ⟨b, o + m * 2, none⟩)), Want.is (.pointer (some ⟨b, o + m * 2, none⟩)), Want.is (.int .i64 r.p.tm), Want.is (.bool true), Want.is (.bool true), Want.is (.bool true), Want.is (.bool true), Want.is (undef), Want.is (undef), Want.is (undef), Want.is (undef), Want.is (undef), Want.is (undef), Want.is (undef)] ((CellsAt.cons (a := ⟨b, o + k * 2, none⟩) (v := .int .i64 q.p.tm) (d0) (CellsAt.cons (a := ⟨b, o + k * 2 + 1, none⟩) (v := .slice q.a q.p.props.length q.cap) (d1) (CellsAt.cons (a := ⟨b, o + m * 2, none⟩) (v := .int .i64 r.p.tm) (e0) (CellsAt.nil (HQ.out))))).keep ((Alters.refl _).drew)) (by decide) ?_
            refine Steps.cons ?_ (Steps.cons ?_ (Steps.cons ?_ (Steps.cons ?_ (Steps.cons ?_ (Steps.cons ?_ (Steps.cons ?_ (Steps.cons ?_ (Steps.cons ?_ (Steps.cons ?_ (Steps.cons ?_ (Steps.cons ?_ (Steps.cons ?_ (Steps.cons ?_ (Steps.cons ?_ (Steps.cons ?_ (Steps.cons ?_ (Steps.cons ?_ (Steps.cons ?_ (Steps.cons ?_ (Steps.cons ?_ (Steps.cons ?_ (Steps.cons ?_ (Steps.cons ?_ (Steps.cons ?_ (Steps.cons ?_ (Steps.cons ?_ (Steps.cons ?_ (Steps.cons ?_ (Steps.cons ?_ (Steps.cons ?_ (Steps.cons ?_ (Steps.last ?_))))))))))))))))))))))))))))))))
            · intro u W K hS hF hK
              simp only [putsFrom, Act.put, Nat.reduceAdd, List.setIfInBounds_toArray, List.set_cons_zero, List.set_cons_succ] at hK ⊢
              clear hF
              go_simp
              exact hK.out _ _ (Alters.refl _) rfl
            · intro u W K hS hF hK
              simp only [putsFrom, Act.put, Nat.reduceAdd, List.setIfInBounds_toArray, List.set_cons_zero, List.set_cons_succ] at hK ⊢
              clear hF
              go_simp
              exact hK.out _ _ (Alters.refl _) rfl
            · intro u W K hS hF hK
              have f0 : u 0 = .slice (some ⟨b, o, none⟩) L.length cap := hF 0 (by kernel_rfl)
              have f1 : u 1 = .int .i64 (k : Int) := hF 1 (by kernel_rfl)
              simp only [putsFrom, Act.put, Nat.reduceAdd, List.setIfInBounds_toArray, List.set_cons_zero, List.set_cons_succ, f0, f1] at hK ⊢
              clear hF
              go_simp
              exact hK.out _ _ (Alters.refl _) rfl
            · intro u W K hS hF hK
              have f2 : u 2 = .pointer (some ⟨b, o + k * 2, none⟩) := hF 2 (by kernel_rfl)
              simp only [putsFrom, Act.put, Nat.reduceAdd, List.setIfInBounds_toArray, List.set_cons_zero, List.set_cons_succ, f2] at hK ⊢
              clear hF
              go_simp
              exact hK.out _ _ (Alters.refl _) rfl
            · intro u W K hS hF hK
              have f3 : u 3 = .pointer (some ⟨b, o + k * 2, none⟩) := hF 3 (by kernel_rfl)
              simp only [putsFrom, Act.put, Nat.reduceAdd, List.setIfInBounds_toArray, List.set_cons_zero, List.set_cons_succ, f3] at hK ⊢
              clear hF
              have x0 := hS.at (b) (o + k * 2) (.int .i64 q.p.tm) (by simp)
              go_simp
              exact hK.out _ _ (Alters.refl _) rfl
            · intro u W K hS hF hK
              have f4 : u 4 = .int .i64 q.p.tm := hF 4 (by kernel_rfl)
              simp only [putsFrom, Act.put, Nat.reduceAdd, List.setIfInBounds_toArray, List.set_cons_zero, List.set_cons_succ, f4] at hK ⊢
              clear hF
              go_simp
              exact hK.out _ _ (Alters.refl _) rfl
            · intro u W K hS hF hK
              have f5 : u 5 = .bool false := hF 5 (by kernel_rfl)
              simp only [putsFrom, Act.put, Nat.reduceAdd, List.setIfInBounds_toArray, List.set_cons_zero, List.set_cons_succ, f5] at hK ⊢
              clear hF
              go_simp
              exact hK.out _ _ (Alters.refl _) rfl
            · intro u W K hS hF hK
              have f6 : u 6 = .bool false := hF 6 (by kernel_rfl)
              simp only [putsFrom, Act.put, Nat.reduceAdd, List.setIfInBounds_toArray, List.set_cons_zero, List.set_cons_succ, f6] at hK ⊢
              clear hF
              go_simp
              exact hK.out _ _ (Alters.refl _) rfl
            · intro u W K hS hF hK
              have f6 : u 6 = .bool false := hF 6 (by kernel_rfl)
              have f7 : u 7 = .int .i64 (k : Int) := hF 7 (by kernel_rfl)
              simp only [putsFrom, Act.put, Nat.reduceAdd, List.setIfInBounds_toArray, List.set_cons_zero, List.set_cons_succ, f6, f7] at hK ⊢
              clear hF
              go_simp
              exact hK.out _ _ (Alters.refl _) rfl
            · intro u W K hS hF hK
              have f6 : u 6 = .bool false := hF 6 (by kernel_rfl)
              have f8 : u 8 = .bool true := hF 8 (by kernel_rfl)
              simp only [putsFrom, Act.put, Nat.reduceAdd, List.setIfInBounds_toArray, List.set_cons_zero, List.set_cons_succ, f6, f8] at hK ⊢
              clear hF
              go_simp
              exact hK.out _ _ (Alters.refl _) rfl
            · intro u W K hS hF hK
              have f9 : u 9 = .bool true := hF 9 (by kernel_rfl)
              simp only [putsFrom, Act.put, Nat.reduceAdd, List.setIfInBounds_toArray, List.set_cons_zero, List.set_cons_succ, f9] at hK ⊢
              clear hF
              go_simp
              exact hK.out _ _ (Alters.refl _) rfl
            · intro u W K hS hF hK
              have f9 : u 9 = .bool true := hF 9 (by kernel_rfl)
              simp only [putsFrom, Act.put, Nat.reduceAdd, List.setIfInBounds_toArray, List.set_cons_zero, List.set_cons_succ, f9] at hK ⊢
              clear hF
              go_simp
              exact hK.out _ _ (Alters.refl _) rfl
            · intro u W K hS hF hK
              have f9 : u 9 = .bool true := hF 9 (by kernel_rfl)
              have f10 : u 10 = .slice (some ⟨b, o, none⟩) L.length cap := hF 10 (by kernel_rfl)
              have f11 : u 11 = .int .i64 (k : Int) := hF 11 (by kernel_rfl)
              simp only [putsFrom, Act.put, Nat.reduceAdd, List.setIfInBounds_toArray, List.set_cons_zero, List.set_cons_succ, f9, f10, f11] at hK ⊢
              clear hF
              go_simp
              exact hK.out _ _ (Alters.refl _) rfl
            · intro u W K hS hF hK
              have f9 : u 9 = .bool true := hF 9 (by kernel_rfl)
              have f12 : u 12 = .pointer (some ⟨b, o + k * 2, none⟩) := hF 12 (by kernel_rfl)
              simp only [putsFrom, Act.put, Nat.reduceAdd, List.setIfInBounds_toArray, List.set_cons_zero, List.set_cons_succ, f9, f12] at hK ⊢
              clear hF
              go_simp
              exact hK.out _ _ (Alters.refl _) rfl
            · intro u W K hS hF hK
              have f9 : u 9 = .bool true := hF 9 (by kernel_rfl)
              have f13 : u 13 = .pointer (some ⟨b, o + k * 2, none⟩) := hF 13 (by kernel_rfl)
              simp only [putsFrom, Act.put, Nat.reduceAdd, List.setIfInBounds_toArray, List.set_cons_zero, List.set_cons_succ, f9, f13] at hK ⊢
              clear hF
              have x0 := hS.at (b) (o + k * 2) (.int .i64 q.p.tm) (by simp)
              go_simp
              exact hK.out _ _ (Alters.refl _) rfl
            · intro u W K hS hF hK
              have f9 : u 9 = .bool true := hF 9 (by kernel_rfl)
              simp only [putsFrom, Act.put, Nat.reduceAdd, List.setIfInBounds_toArray, List.set_cons_zero, List.set_cons_succ, f9] at hK ⊢
              clear hF
              go_simp
              exact hK.out _ _ (Alters.refl _) rfl
            · intro u W K hS hF hK
              have f9 : u 9 = .bool true := hF 9 (by kernel_rfl)
              simp only [putsFrom, Act.put, Nat.reduceAdd, List.setIfInBounds_toArray, List.set_cons_zero, List.set_cons_succ, f9] at hK ⊢
              clear hF
              go_simp
              exact hK.out _ _ (Alters.refl _) rfl
            · intro u W K hS hF hK
              have f9 : u 9 = .bool true := hF 9 (by kernel_rfl)
              have f16 : u 16 = .int .i64 (k : Int) := hF 16 (by kernel_rfl)
              simp only [putsFrom, Act.put, Nat.reduceAdd, List.setIfInBounds_toArray, List.set_cons_zero, List.set_cons_succ, f9, f16] at hK ⊢
              clear hF
              go_simp
              exact hK.out _ _ (Alters.refl _) rfl
            · intro u W K hS hF hK
              have f9 : u 9 = .bool true := hF 9 (by kernel_rfl)
              have f15 : u 15 = .slice (some ⟨b, o, none⟩) L.length cap := hF 15 (by kernel_rfl)
              have f17 : u 17 = .int .i64 (m : Int) := hF 17 (by kernel_rfl)
              simp only [putsFrom, Act.put, Nat.reduceAdd, List.setIfInBounds_toArray, List.set_cons_zero, List.set_cons_succ, f9, f15, f17] at hK ⊢
              clear hF
              go_simp
              exact hK.out _ _ (Alters.refl _) rfl
            · intro u W K hS hF hK
              have f9 : u 9 = .bool true := hF 9 (by kernel_rfl)
              have f18 : u 18 = .pointer (some ⟨b, o + m * 2, none⟩) := hF 18 (by kernel_rfl)
              simp only [putsFrom, Act.put, Nat.reduceAdd, List.setIfInBounds_toArray, List.set_cons_zero, List.set_cons_succ, f9, f18] at hK ⊢
              clear hF
              go_simp
              exact hK.out _ _ (Alters.refl _) rfl
            · intro u W K hS hF hK
              have f9 : u 9 = .bool true := hF 9 (by kernel_rfl)
              have f19 : u 19 = .pointer (some ⟨b, o + m * 2, none⟩) := hF 19 (by kernel_rfl)
              simp only [putsFrom, Act.put, Nat.reduceAdd, List.setIfInBounds_toArray, List.set_cons_zero, List.set_cons_succ, f9, f19] at hK ⊢
              clear hF
              have x0 := hS.at (b) (o + m * 2) (.int .i64 r.p.tm) (by simp)
              go_simp
              exact hK.out _ _ (Alters.refl _) rfl
            · intro u W K hS hF hK
              have f9 : u 9 = .bool true := hF 9 (by kernel_rfl)
              have f14 : u 14 = .int .i64 q.p.tm := hF 14 (by kernel_rfl)
              have f20 : u 20 = .int .i64 r.p.tm := hF 20 (by kernel_rfl)
              simp only [putsFrom, Act.put, Nat.reduceAdd, List.setIfInBounds_toArray, List.set_cons_zero, List.set_cons_succ, f9, f14, f20] at hK ⊢
              clear hF
              go_simp
              exact hK.out _ _ (Alters.refl _) rfl
            · intro u W K hS hF hK
              have f6 : u 6 = .bool false := hF 6 (by kernel_rfl)
              have f9 : u 9 = .bool true := hF 9 (by kernel_rfl)
              have f21 : u 21 = .bool true := hF 21 (by kernel_rfl)
              simp only [putsFrom, Act.put, Nat.reduceAdd, List.setIfInBounds_toArray, List.set_cons_zero, List.set_cons_succ, f6, f9, f21] at hK ⊢
              clear hF
              go_simp
              exact hK.out _ _ (Alters.refl _) rfl
            · intro u W K hS hF hK
              have f6 : u 6 = .bool false := hF 6 (by kernel_rfl)
              have f22 : u 22 = .bool true := hF 22 (by kernel_rfl)
              simp only [putsFrom, Act.put, Nat.reduceAdd, List.setIfInBounds_toArray, List.set_cons_zero, List.set_cons_succ, f6, f22] at hK ⊢
              clear hF
              go_simp
              exact hK.out _ _ (Alters.refl _) rfl
            · intro u W K hS hF hK
              have f23 : u 23 = .bool true := hF 23 (by kernel_rfl)
              simp only [putsFrom, Act.put, Nat.reduceAdd, List.setIfInBounds_toArray, List.set_cons_zero, List.set_cons_succ, f23] at hK ⊢
              clear hF
              go_simp
              exact hK.out _ _ (Alters.refl _) rfl
            · intro u W K hS hF hK
              have f24 : u 24 = .bool true := hF 24 (by kernel_rfl)
              simp only [putsFrom, Act.put, Nat.reduceAdd, List.setIfInBounds_toArray, List.set_cons_zero, List.set_cons_succ, f24] at hK ⊢
              clear hF
              go_simp
              exact hK.out _ _ (Alters.refl _) rfl
            · intro u W K hS hF hK
              have f24 : u 24 = .bool true := hF 24 (by kernel_rfl)
              simp only [putsFrom, Act.put, Nat.reduceAdd, List.setIfInBounds_toArray, List.set_cons_zero, List.set_cons_succ, f24] at hK ⊢
              clear hF
              go_simp
              exact hK.out _ _ (Alters.refl _) rfl
            · intro u W K hS hF hK
              have f24 : u 24 = .bool true := hF 24 (by kernel_rfl)
              have f25 : u 25 = undef := hF 25 (by kernel_rfl)
              have f26 : u 26 = undef := hF 26 (by kernel_rfl)
              simp only [putsFrom, Act.put, Nat.reduceAdd, List.setIfInBounds_toArray, List.set_cons_zero, List.set_cons_succ, f24, f25, f26] at hK ⊢
              clear hF
              go_simp
              exact hK.out _ _ (Alters.refl _) rfl
            · intro u W K hS hF hK
              have f24 : u 24 = .bool true := hF 24 (by kernel_rfl)
              have f27 : u 27 = undef := hF 27 (by kernel_rfl)
              simp only [putsFrom, Act.put, Nat.reduceAdd, List.setIfInBounds_toArray, List.set_cons_zero, List.set_cons_succ, f24, f27] at hK ⊢
              clear hF
              go_simp
              exact hK.out _ _ (Alters.refl _) rfl
            · intro u W K hS hF hK
              have f24 : u 24 = .bool true := hF 24 (by kernel_rfl)
              have f28 : u 28 = undef := hF 28 (by kernel_rfl)
              simp only [putsFrom, Act.put, Nat.reduceAdd, List.setIfInBounds_toArray, List.set_cons_zero, List.set_cons_succ, f24, f28] at hK ⊢
              clear hF
              go_simp
              exact hK.out _ _ (Alters.refl _) rfl
            · intro u W K hS hF hK
              have f24 : u 24 = .bool true := hF 24 (by kernel_rfl)
              have f29 : u 29 = undef := hF 29 (by kernel_rfl)
              simp only [putsFrom, Act.put, Nat.reduceAdd, List.setIfInBounds_toArray, List.set_cons_zero, List.set_cons_succ, f24, f29] at hK ⊢
              clear hF
              go_simp
              exact hK.out _ _ (Alters.refl _) rfl
            · intro u W K hS hF hK
              have f24 : u 24 = .bool true := hF 24 (by kernel_rfl)
              have f30 : u 30 = undef := hF 30 (by kernel_rfl)
              simp only [putsFrom, Act.put, Nat.reduceAdd, List.setIfInBounds_toArray, List.set_cons_zero, List.set_cons_succ, f24, f30] at hK ⊢
              clear hF
              go_simp
              exact hK.out _ _ (Alters.refl _) rfl
            · intro u W hS hF
              have f24 : u 24 = .bool true := hF 24 (by simp)
              have f31 : u 31 = undef := hF 31 (by simp)
              simp only [putsFrom, Act.put, Nat.reduceAdd, List.setIfInBounds_toArray, List.set_cons_zero, List.set_cons_succ, f24, f31]
              clear hF f24 f31
              have HS := Go.Lib.hid hS
              clear hS
              go_simp
              go_wp2_with fail
              go_ret
              exact ⟨by rw [HE.out]; rfl, HS.out.quiet⟩
    · obtain rfl : k = L.length := by omega
      have HE : Hid (wordOk (pts L) = true) := Go.Lib.hid (by rw [← hE, wordAt_end])
      clear hE hQ hT
      go_wp2
      go_ret
      exact ⟨by rw [HE.out]; rfl, HQ.out⟩

end Go.Proofs.YtnpcakakjhiboaaDoor
