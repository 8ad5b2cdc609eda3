/- Whether points make a word: the program's way, and the model's. No condition. -/
import Derived.Test.YtnpcakakjhiboaaDoorLabel
import Derived.Test.YtnpcakakjhiboaaDoorLabel5
namespace Go.Proofs.YtnpcakakjhiboaaDoor
open Go.RowKit Go.Lo Go.WideShapes

/-- Do points go on as a word from the k-th on? -/
def wordAt (L : List Hp) : Nat → Bool
  | 0 => wordOk (pts L)
  | k + 1 => wordFrom (tmOf (pts L) k) ((pts L).drop (k + 1))

theorem pts_at {L : List Hp} {k : Nat} {q : Hp} (h : L[k]? = some q) : tmOf (pts L) k = q.p.tm := by simp [tmOf, pts, h]

theorem wordAt_end (L : List Hp) : wordAt L L.length = true := by
  cases L with
  | nil => rfl
  | cons q r =>
    have e : (pts (q :: r)).drop (r.length + 1) = [] := List.drop_eq_nil_of_le (by simp [pts])
    simp only [List.length_cons, wordAt, e, wordFrom]

theorem wordAt_zero {L : List Hp} {q : Hp} (h : L[0]? = some q) : wordAt L 0 = (decide (-1 < q.p.tm) && propsOk q.p.props && wordAt L 1) := by
  cases L with
  | nil => simp at h
  | cons x r =>
    obtain rfl : x = q := by simpa using h
    rfl

theorem wordAt_step {L : List Hp} {q r : Hp} {m : Nat} (h : L[m + 1]? = some q) (h2 : L[m]? = some r) : wordAt L (m + 1) = (decide (r.p.tm < q.p.tm) && propsOk q.p.props && wordAt L (m + 2)) := by
  have hl : m + 1 < (pts L).length := by
    rcases Nat.lt_or_ge (m + 1) L.length with h' | h'
    · simpa [pts] using h'
    · rw [List.getElem?_eq_none h'] at h; cases h
  have e3 : (pts L)[m + 1] = q.p := by
    have : (pts L)[m + 1]? = some q.p := by simp [pts, h]
    rw [List.getElem?_eq_getElem hl] at this
    simpa using this
  simp only [wordAt, pts_at h2, pts_at h]
  rw [List.drop_eq_getElem_cons hl, e3, wordFrom]

set_option maxRecDepth 100000 in
set_option maxHeartbeats 4000000 in
theorem right40_walk (a : Option Addr) (cap : Nat) (L : List Hp) (w : World) (hw : WdAt w a L) : Calls Tryd.prog 40 #[.slice a L.length cap] w (Said (.bool (wordOk (pts L))) w) := by
  have HW := Go.Lib.hid hw
  have hl := hw.len
  unfold maxLen at hl
  clear hw
  go_enter Tryd.func40, Tryd.ntmps40
  go_wp2
  go_loopw [7] (fun i wr => ∃ k : Nat, k ≤ L.length ∧ i = .int .i64 k ∧ wordAt L k = wordOk (pts L) ∧ (∀ m r, k = m + 1 → L[m]? = some r → 0 ≤ r.p.tm) ∧ Quiet w wr) (fun i _ => L.length - (intOf i).toNat)
  case atStart => exact ⟨0, Nat.zero_le _, rfl, rfl, by simp, Alters.refl _⟩
  case round =>
    obtain ⟨k, hk, rfl, hE, hT, hQ⟩ := hrel
    have HQ := Go.Lib.hid hQ
    by_cases hlt : k < L.length
    · have hne : L ≠ [] := fun h => by subst h; simp at hlt
      obtain ⟨b, o, rfl, hc⟩ := HW.out.cells hne
      obtain ⟨q, hq⟩ : ∃ q, L[k]? = some q := ⟨_, List.getElem?_eq_getElem hlt⟩
      have HM : Hid (q ∈ L) := Go.Lib.hid (List.mem_of_getElem? hq)
      have HT : Hid (∀ m r, k + 1 = m + 1 → L[m]? = some r → ¬ q.p.tm < 0 → 0 ≤ r.p.tm) := Go.Lib.hid (fun m r e h hn => by
        obtain rfl : k = m := by omega
        rw [hq] at h
        cases h
        omega)
      obtain ⟨d0, d1⟩ := hc k q hq
      replace d0 := hQ.cell d0 (by simp)
      replace d1 := hQ.cell d1 (by simp)
      by_cases hn : q.p.tm < 0
      · have c1 : decide (q.p.tm < 0) = true := by simpa using hn
        have HE : Hid (wordOk (pts L) = false) := Go.Lib.hid (by
          rw [← hE]
          cases k with
          | zero => rw [wordAt_zero hq]; simp; omega
          | succ m =>
            have h0 := hT m L[m] rfl (List.getElem?_eq_getElem (by omega))
            rw [wordAt_step hq (List.getElem?_eq_getElem (by omega))]
            have : ¬ L[m].p.tm < q.p.tm := by omega
            simp [this])
        clear hn hE hQ hc hq hT HT
        have hB : Blk (wr.alloc (.cells #[.int .i64 q.p.tm, .slice q.a q.p.props.length q.cap] 64)) wr.heap.size #[.int .i64 q.p.tm, .slice q.a q.p.props.length q.cap] 64 := Blk.new _ _ _
        have hq1 : Quiet wr (wr.alloc (.cells #[.int .i64 q.p.tm, .slice q.a q.p.props.length q.cap] 64)) := (Alters.refl _).alloc _
        go_upto_region 4 with (fail)
        clear d0 d1
        generalize wr.alloc _ = w1 at *
        refine wp_region_wants (by kernel_rfl) (by kernel_rfl) (by kernel_rfl) (by kernel_rfl) (CellsAt w [(⟨wr.heap.size, 0, none⟩, .int .i64 q.p.tm), (⟨wr.heap.size, 1, none⟩, .slice q.a q.p.props.length q.cap)]) (fun _ _ hq h => h.keep hq) [Want.is (.pointer (some ⟨wr.heap.size, 0, none⟩)), Want.is (.int .i64 q.p.tm), Want.is (.bool true), Want.is (.bool true), Want.is (undef), Want.is (undef), Want.is (undef), Want.is (undef), Want.is (undef), Want.is (undef), Want.is (undef), Want.is (undef), Want.is (undef), Want.is (undef), Want.is (undef), Want.is (undef), Want.is (undef), Want.is (.bool true), Want.is (.bool true), Want.is (undef), Want.is (undef), Want.is (undef), Want.is (undef)] ((CellsAt.cons (a := ⟨wr.heap.size, 0, none⟩) (v := .int .i64 q.p.tm) (hB.cell 0 rfl) (CellsAt.cons (a := ⟨wr.heap.size, 1, none⟩) (v := .slice q.a q.p.props.length q.cap) (hB.cell 1 rfl) (CellsAt.nil (HQ.out.trans hq1)))).keep ((Alters.refl _).drew)) (by decide) ?_
        refine Steps.cons ?_ (Steps.cons ?_ (Steps.cons ?_ (Steps.cons ?_ (Steps.cons ?_ (Steps.cons ?_ (Steps.cons ?_ (Steps.cons ?_ (Steps.cons ?_ (Steps.cons ?_ (Steps.cons ?_ (Steps.cons ?_ (Steps.cons ?_ (Steps.cons ?_ (Steps.cons ?_ (Steps.cons ?_ (Steps.cons ?_ (Steps.cons ?_ (Steps.cons ?_ (Steps.cons ?_ (Steps.cons ?_ (Steps.cons ?_ (Steps.cons ?_ (Steps.last ?_)))))))))))))))))))))))
        · intro u W K hS hF hK
          simp only [putsFrom, Act.put, Nat.reduceAdd, List.setIfInBounds_toArray, List.set_cons_zero, List.set_cons_succ] at hK ⊢
          clear hF
          go_simp
          exact hK.out _ _ (Alters.refl _) rfl
        · intro u W K hS hF hK
          have f0 : u 0 = .pointer (some ⟨wr.heap.size, 0, none⟩) := hF 0 (by kernel_rfl)
          simp only [putsFrom, Act.put, Nat.reduceAdd, List.setIfInBounds_toArray, List.set_cons_zero, List.set_cons_succ, f0] at hK ⊢
          clear hF
          have x0 := hS.at (wr.heap.size) (0) (.int .i64 q.p.tm) (by simp)
          go_simp
          exact hK.out _ _ (Alters.refl _) rfl
        · intro u W K hS hF hK
          have f1 : u 1 = .int .i64 q.p.tm := hF 1 (by kernel_rfl)
          simp only [putsFrom, Act.put, Nat.reduceAdd, List.setIfInBounds_toArray, List.set_cons_zero, List.set_cons_succ, f1] at hK ⊢
          clear hF
          go_simp
          exact hK.out _ _ (Alters.refl _) rfl
        · intro u W K hS hF hK
          have f2 : u 2 = .bool true := hF 2 (by kernel_rfl)
          simp only [putsFrom, Act.put, Nat.reduceAdd, List.setIfInBounds_toArray, List.set_cons_zero, List.set_cons_succ, f2] at hK ⊢
          clear hF
          go_simp
          exact hK.out _ _ (Alters.refl _) rfl
        · intro u W K hS hF hK
          have f3 : u 3 = .bool true := hF 3 (by kernel_rfl)
          simp only [putsFrom, Act.put, Nat.reduceAdd, List.setIfInBounds_toArray, List.set_cons_zero, List.set_cons_succ, f3] at hK ⊢
          clear hF
          go_simp
          exact hK.out _ _ (Alters.refl _) rfl
        · intro u W K hS hF hK
          have f3 : u 3 = .bool true := hF 3 (by kernel_rfl)
          have f4 : u 4 = undef := hF 4 (by kernel_rfl)
          simp only [putsFrom, Act.put, Nat.reduceAdd, List.setIfInBounds_toArray, List.set_cons_zero, List.set_cons_succ, f3, f4] at hK ⊢
          clear hF
          go_simp
          exact hK.out _ _ (Alters.refl _) rfl
        · intro u W K hS hF hK
          have f3 : u 3 = .bool true := hF 3 (by kernel_rfl)
          have f5 : u 5 = undef := hF 5 (by kernel_rfl)
          simp only [putsFrom, Act.put, Nat.reduceAdd, List.setIfInBounds_toArray, List.set_cons_zero, List.set_cons_succ, f3, f5] at hK ⊢
          clear hF
          go_simp
          exact hK.out _ _ (Alters.refl _) rfl
        · intro u W K hS hF hK
          have f6 : u 6 = undef := hF 6 (by kernel_rfl)
          simp only [putsFrom, Act.put, Nat.reduceAdd, List.setIfInBounds_toArray, List.set_cons_zero, List.set_cons_succ, f6] at hK ⊢
          clear hF
          go_simp
          exact hK.out _ _ (Alters.refl _) rfl
        · intro u W K hS hF hK
          have f6 : u 6 = undef := hF 6 (by kernel_rfl)
          have f7 : u 7 = undef := hF 7 (by kernel_rfl)
          simp only [putsFrom, Act.put, Nat.reduceAdd, List.setIfInBounds_toArray, List.set_cons_zero, List.set_cons_succ, f6, f7] at hK ⊢
          clear hF
          go_simp
          exact hK.out _ _ (Alters.refl _) rfl
        · intro u W K hS hF hK
          have f6 : u 6 = undef := hF 6 (by kernel_rfl)
          simp only [putsFrom, Act.put, Nat.reduceAdd, List.setIfInBounds_toArray, List.set_cons_zero, List.set_cons_succ, f6] at hK ⊢
          clear hF
          go_simp
          exact hK.out _ _ (Alters.refl _) rfl
        · intro u W K hS hF hK
          have f6 : u 6 = undef := hF 6 (by kernel_rfl)
          simp only [putsFrom, Act.put, Nat.reduceAdd, List.setIfInBounds_toArray, List.set_cons_zero, List.set_cons_succ, f6] at hK ⊢
          clear hF
          go_simp
          exact hK.out _ _ (Alters.refl _) rfl
        · intro u W K hS hF hK
          have f6 : u 6 = undef := hF 6 (by kernel_rfl)
          have f10 : u 10 = undef := hF 10 (by kernel_rfl)
          simp only [putsFrom, Act.put, Nat.reduceAdd, List.setIfInBounds_toArray, List.set_cons_zero, List.set_cons_succ, f6, f10] at hK ⊢
          clear hF
          go_simp
          exact hK.out _ _ (Alters.refl _) rfl
        · intro u W K hS hF hK
          have f6 : u 6 = undef := hF 6 (by kernel_rfl)
          have f9 : u 9 = undef := hF 9 (by kernel_rfl)
          have f11 : u 11 = undef := hF 11 (by kernel_rfl)
          simp only [putsFrom, Act.put, Nat.reduceAdd, List.setIfInBounds_toArray, List.set_cons_zero, List.set_cons_succ, f6, f9, f11] at hK ⊢
          clear hF
          go_simp
          exact hK.out _ _ (Alters.refl _) rfl
        · intro u W K hS hF hK
          have f6 : u 6 = undef := hF 6 (by kernel_rfl)
          have f12 : u 12 = undef := hF 12 (by kernel_rfl)
          simp only [putsFrom, Act.put, Nat.reduceAdd, List.setIfInBounds_toArray, List.set_cons_zero, List.set_cons_succ, f6, f12] at hK ⊢
          clear hF
          go_simp
          exact hK.out _ _ (Alters.refl _) rfl
        · intro u W K hS hF hK
          have f6 : u 6 = undef := hF 6 (by kernel_rfl)
          have f13 : u 13 = undef := hF 13 (by kernel_rfl)
          simp only [putsFrom, Act.put, Nat.reduceAdd, List.setIfInBounds_toArray, List.set_cons_zero, List.set_cons_succ, f6, f13] at hK ⊢
          clear hF
          go_simp
          exact hK.out _ _ (Alters.refl _) rfl
        · intro u W K hS hF hK
          have f6 : u 6 = undef := hF 6 (by kernel_rfl)
          have f8 : u 8 = undef := hF 8 (by kernel_rfl)
          have f14 : u 14 = undef := hF 14 (by kernel_rfl)
          simp only [putsFrom, Act.put, Nat.reduceAdd, List.setIfInBounds_toArray, List.set_cons_zero, List.set_cons_succ, f6, f8, f14] at hK ⊢
          clear hF
          go_simp
          exact hK.out _ _ (Alters.refl _) rfl
        · intro u W K hS hF hK
          have f3 : u 3 = .bool true := hF 3 (by kernel_rfl)
          have f6 : u 6 = undef := hF 6 (by kernel_rfl)
          have f15 : u 15 = undef := hF 15 (by kernel_rfl)
          simp only [putsFrom, Act.put, Nat.reduceAdd, List.setIfInBounds_toArray, List.set_cons_zero, List.set_cons_succ, f3, f6, f15] at hK ⊢
          clear hF
          go_simp
          exact hK.out _ _ (Alters.refl _) rfl
        · intro u W K hS hF hK
          have f3 : u 3 = .bool true := hF 3 (by kernel_rfl)
          have f16 : u 16 = undef := hF 16 (by kernel_rfl)
          simp only [putsFrom, Act.put, Nat.reduceAdd, List.setIfInBounds_toArray, List.set_cons_zero, List.set_cons_succ, f3, f16] at hK ⊢
          clear hF
          go_simp
          exact hK.out _ _ (Alters.refl _) rfl
        · intro u W K hS hF hK
          have f17 : u 17 = .bool true := hF 17 (by kernel_rfl)
          simp only [putsFrom, Act.put, Nat.reduceAdd, List.setIfInBounds_toArray, List.set_cons_zero, List.set_cons_succ, f17] at hK ⊢
          clear hF
          go_simp
          exact hK.out _ _ (Alters.refl _) rfl
        · intro u W K hS hF hK
          have f18 : u 18 = .bool true := hF 18 (by kernel_rfl)
          simp only [putsFrom, Act.put, Nat.reduceAdd, List.setIfInBounds_toArray, List.set_cons_zero, List.set_cons_succ, f18] at hK ⊢
          clear hF
          go_simp
          exact hK.out _ _ (Alters.refl _) rfl
        · intro u W K hS hF hK
          have f18 : u 18 = .bool true := hF 18 (by kernel_rfl)
          have f19 : u 19 = undef := hF 19 (by kernel_rfl)
          simp only [putsFrom, Act.put, Nat.reduceAdd, List.setIfInBounds_toArray, List.set_cons_zero, List.set_cons_succ, f18, f19] at hK ⊢
          clear hF
          go_simp
          exact hK.out _ _ (Alters.refl _) rfl
        · intro u W K hS hF hK
          have f18 : u 18 = .bool true := hF 18 (by kernel_rfl)
          have f20 : u 20 = undef := hF 20 (by kernel_rfl)
          simp only [putsFrom, Act.put, Nat.reduceAdd, List.setIfInBounds_toArray, List.set_cons_zero, List.set_cons_succ, f18, f20] at hK ⊢
          clear hF
          go_simp
          exact hK.out _ _ (Alters.refl _) rfl
        · intro u W K hS hF hK
          have f18 : u 18 = .bool true := hF 18 (by kernel_rfl)
          have f21 : u 21 = undef := hF 21 (by kernel_rfl)
          simp only [putsFrom, Act.put, Nat.reduceAdd, List.setIfInBounds_toArray, List.set_cons_zero, List.set_cons_succ, f18, f21] at hK ⊢
          clear hF
          go_simp
          exact hK.out _ _ (Alters.refl _) rfl
        · intro u W hS hF
          have f18 : u 18 = .bool true := hF 18 (by simp)
          have f22 : u 22 = undef := hF 22 (by simp)
          simp only [putsFrom, Act.put, Nat.reduceAdd, List.setIfInBounds_toArray, List.set_cons_zero, List.set_cons_succ, f18, f22]
          clear hF f18 f22
          have HS := Go.Lib.hid hS
          clear hS
          go_simp
          go_wp2_with fail
          go_ret
          exact ⟨by rw [HE.out]; rfl, HS.out.quiet⟩
      · have c1 : decide (q.p.tm < 0) = false := by simpa using hn
        replace HT : Hid (∀ m r, k + 1 = m + 1 → L[m]? = some r → 0 ≤ r.p.tm) := Go.Lib.hid (fun m r e h => HT.out m r e h hn)
        rcases Nat.eq_zero_or_pos k with hk0 | hk0
        · have b6 : decide (0 < k) = false := by simp [hk0]
          have hs : wordAt L k = (propsOk q.p.props && wordAt L (k + 1)) := by
            have h1 : -1 < q.p.tm := by omega
            subst hk0
            rw [wordAt_zero hq]
            simp [h1]
          by_cases hp : propsOk q.p.props = true
          · have HN := Go.Lib.hid hp
            have HE : Hid (wordAt L (k + 1) = wordOk (pts L)) := Go.Lib.hid (by rw [← hE, hs, hp, Bool.true_and])
            clear hn hE hQ hc hq hT hk0 hs hp
            have hB : Blk (wr.alloc (.cells #[.int .i64 q.p.tm, .slice q.a q.p.props.length q.cap] 64)) wr.heap.size #[.int .i64 q.p.tm, .slice q.a q.p.props.length q.cap] 64 := Blk.new _ _ _
            have hq1 : Quiet wr (wr.alloc (.cells #[.int .i64 q.p.tm, .slice q.a q.p.props.length q.cap] 64)) := (Alters.refl _).alloc _
            go_upto_region 4 with (fail)
            clear d0 d1
            generalize wr.alloc _ = w1 at *
            refine wp_region_wants (by kernel_rfl) (by kernel_rfl) (by kernel_rfl) (by kernel_rfl) (CellsAt w [(⟨wr.heap.size, 0, none⟩, .int .i64 q.p.tm), (⟨wr.heap.size, 1, none⟩, .slice q.a q.p.props.length q.cap)]) (fun _ _ hq h => h.keep hq) [Want.is (.pointer (some ⟨wr.heap.size, 0, none⟩)), Want.is (.int .i64 q.p.tm), Want.is (.bool false), Want.is (.bool false), Want.is (.int .i64 (k : Int)), Want.is (.bool false), Want.is (.bool false), Want.is (undef), Want.is (undef), Want.is (undef), Want.is (undef), Want.is (undef), Want.is (undef), Want.is (undef), Want.is (undef), Want.is (undef), Want.is (.bool false), Want.is (.bool false), Want.is (.bool false), Want.is (.pointer (some ⟨wr.heap.size, 1, none⟩)), Want.is (.slice q.a q.p.props.length q.cap), Want.is (.bool true), Want.is (.bool false)] ((CellsAt.cons (a := ⟨wr.heap.size, 0, none⟩) (v := .int .i64 q.p.tm) (hB.cell 0 rfl) (CellsAt.cons (a := ⟨wr.heap.size, 1, none⟩) (v := .slice q.a q.p.props.length q.cap) (hB.cell 1 rfl) (CellsAt.nil (HQ.out.trans hq1)))).keep ((Alters.refl _).drew)) (by decide) ?_
            refine Steps.cons ?_ (Steps.cons ?_ (Steps.cons ?_ (Steps.cons ?_ (Steps.cons ?_ (Steps.cons ?_ (Steps.cons ?_ (Steps.cons ?_ (Steps.cons ?_ (Steps.cons ?_ (Steps.cons ?_ (Steps.cons ?_ (Steps.cons ?_ (Steps.cons ?_ (Steps.cons ?_ (Steps.cons ?_ (Steps.cons ?_ (Steps.cons ?_ (Steps.cons ?_ (Steps.cons ?_ (Steps.cons ?_ (Steps.cons ?_ (Steps.cons ?_ (Steps.last ?_)))))))))))))))))))))))
            · intro u W K hS hF hK
              simp only [putsFrom, Act.put, Nat.reduceAdd, List.setIfInBounds_toArray, List.set_cons_zero, List.set_cons_succ] at hK ⊢
              clear hF
              go_simp
              exact hK.out _ _ (Alters.refl _) rfl
            · intro u W K hS hF hK
              have f0 : u 0 = .pointer (some ⟨wr.heap.size, 0, none⟩) := hF 0 (by kernel_rfl)
              simp only [putsFrom, Act.put, Nat.reduceAdd, List.setIfInBounds_toArray, List.set_cons_zero, List.set_cons_succ, f0] at hK ⊢
              clear hF
              have x0 := hS.at (wr.heap.size) (0) (.int .i64 q.p.tm) (by simp)
              go_simp
              exact hK.out _ _ (Alters.refl _) rfl
            · intro u W K hS hF hK
              have f1 : u 1 = .int .i64 q.p.tm := hF 1 (by kernel_rfl)
              simp only [putsFrom, Act.put, Nat.reduceAdd, List.setIfInBounds_toArray, List.set_cons_zero, List.set_cons_succ, f1] at hK ⊢
              clear hF
              go_simp
              exact hK.out _ _ (Alters.refl _) rfl
            · intro u W K hS hF hK
              have f2 : u 2 = .bool false := hF 2 (by kernel_rfl)
              simp only [putsFrom, Act.put, Nat.reduceAdd, List.setIfInBounds_toArray, List.set_cons_zero, List.set_cons_succ, f2] at hK ⊢
              clear hF
              go_simp
              exact hK.out _ _ (Alters.refl _) rfl
            · intro u W K hS hF hK
              have f3 : u 3 = .bool false := hF 3 (by kernel_rfl)
              simp only [putsFrom, Act.put, Nat.reduceAdd, List.setIfInBounds_toArray, List.set_cons_zero, List.set_cons_succ, f3] at hK ⊢
              clear hF
              go_simp
              exact hK.out _ _ (Alters.refl _) rfl
            · intro u W K hS hF hK
              have f3 : u 3 = .bool false := hF 3 (by kernel_rfl)
              have f4 : u 4 = .int .i64 (k : Int) := hF 4 (by kernel_rfl)
              simp only [putsFrom, Act.put, Nat.reduceAdd, List.setIfInBounds_toArray, List.set_cons_zero, List.set_cons_succ, f3, f4] at hK ⊢
              clear hF
              go_simp
              exact hK.out _ _ (Alters.refl _) rfl
            · intro u W K hS hF hK
              have f3 : u 3 = .bool false := hF 3 (by kernel_rfl)
              have f5 : u 5 = .bool false := hF 5 (by kernel_rfl)
              simp only [putsFrom, Act.put, Nat.reduceAdd, List.setIfInBounds_toArray, List.set_cons_zero, List.set_cons_succ, f3, f5] at hK ⊢
              clear hF
              go_simp
              exact hK.out _ _ (Alters.refl _) rfl
            · intro u W K hS hF hK
              have f6 : u 6 = .bool false := hF 6 (by kernel_rfl)
              simp only [putsFrom, Act.put, Nat.reduceAdd, List.setIfInBounds_toArray, List.set_cons_zero, List.set_cons_succ, f6] at hK ⊢
              clear hF
              go_simp
              exact hK.out _ _ (Alters.refl _) rfl
            · intro u W K hS hF hK
              have f6 : u 6 = .bool false := hF 6 (by kernel_rfl)
              have f7 : u 7 = undef := hF 7 (by kernel_rfl)
              simp only [putsFrom, Act.put, Nat.reduceAdd, List.setIfInBounds_toArray, List.set_cons_zero, List.set_cons_succ, f6, f7] at hK ⊢
              clear hF
              go_simp
              exact hK.out _ _ (Alters.refl _) rfl
            · intro u W K hS hF hK
              have f6 : u 6 = .bool false := hF 6 (by kernel_rfl)
              simp only [putsFrom, Act.put, Nat.reduceAdd, List.setIfInBounds_toArray, List.set_cons_zero, List.set_cons_succ, f6] at hK ⊢
              clear hF
              go_simp
              exact hK.out _ _ (Alters.refl _) rfl
            · intro u W K hS hF hK
              have f6 : u 6 = .bool false := hF 6 (by kernel_rfl)
              simp only [putsFrom, Act.put, Nat.reduceAdd, List.setIfInBounds_toArray, List.set_cons_zero, List.set_cons_succ, f6] at hK ⊢
              clear hF
              go_simp
              exact hK.out _ _ (Alters.refl _) rfl
            · intro u W K hS hF hK
              have f6 : u 6 = .bool false := hF 6 (by kernel_rfl)
              have f10 : u 10 = undef := hF 10 (by kernel_rfl)
              simp only [putsFrom, Act.put, Nat.reduceAdd, List.setIfInBounds_toArray, List.set_cons_zero, List.set_cons_succ, f6, f10] at hK ⊢
              clear hF
              go_simp
              exact hK.out _ _ (Alters.refl _) rfl
            · intro u W K hS hF hK
              have f6 : u 6 = .bool false := hF 6 (by kernel_rfl)
              have f9 : u 9 = undef := hF 9 (by kernel_rfl)
              have f11 : u 11 = undef := hF 11 (by kernel_rfl)
              simp only [putsFrom, Act.put, Nat.reduceAdd, List.setIfInBounds_toArray, List.set_cons_zero, List.set_cons_succ, f6, f9, f11] at hK ⊢
              clear hF
              go_simp
              exact hK.out _ _ (Alters.refl _) rfl
            · intro u W K hS hF hK
              have f6 : u 6 = .bool false := hF 6 (by kernel_rfl)
              have f12 : u 12 = undef := hF 12 (by kernel_rfl)
              simp only [putsFrom, Act.put, Nat.reduceAdd, List.setIfInBounds_toArray, List.set_cons_zero, List.set_cons_succ, f6, f12] at hK ⊢
              clear hF
              go_simp
              exact hK.out _ _ (Alters.refl _) rfl
            · intro u W K hS hF hK
              have f6 : u 6 = .bool false := hF 6 (by kernel_rfl)
              have f13 : u 13 = undef := hF 13 (by kernel_rfl)
              simp only [putsFrom, Act.put, Nat.reduceAdd, List.setIfInBounds_toArray, List.set_cons_zero, List.set_cons_succ, f6, f13] at hK ⊢
              clear hF
              go_simp
              exact hK.out _ _ (Alters.refl _) rfl
            · intro u W K hS hF hK
              have f6 : u 6 = .bool false := hF 6 (by kernel_rfl)
              have f8 : u 8 = undef := hF 8 (by kernel_rfl)
              have f14 : u 14 = undef := hF 14 (by kernel_rfl)
              simp only [putsFrom, Act.put, Nat.reduceAdd, List.setIfInBounds_toArray, List.set_cons_zero, List.set_cons_succ, f6, f8, f14] at hK ⊢
              clear hF
              go_simp
              exact hK.out _ _ (Alters.refl _) rfl
            · intro u W K hS hF hK
              have f3 : u 3 = .bool false := hF 3 (by kernel_rfl)
              have f6 : u 6 = .bool false := hF 6 (by kernel_rfl)
              have f15 : u 15 = undef := hF 15 (by kernel_rfl)
              simp only [putsFrom, Act.put, Nat.reduceAdd, List.setIfInBounds_toArray, List.set_cons_zero, List.set_cons_succ, f3, f6, f15] at hK ⊢
              clear hF
              go_simp
              exact hK.out _ _ (Alters.refl _) rfl
            · intro u W K hS hF hK
              have f3 : u 3 = .bool false := hF 3 (by kernel_rfl)
              have f16 : u 16 = .bool false := hF 16 (by kernel_rfl)
              simp only [putsFrom, Act.put, Nat.reduceAdd, List.setIfInBounds_toArray, List.set_cons_zero, List.set_cons_succ, f3, f16] at hK ⊢
              clear hF
              go_simp
              exact hK.out _ _ (Alters.refl _) rfl
            · intro u W K hS hF hK
              have f17 : u 17 = .bool false := hF 17 (by kernel_rfl)
              simp only [putsFrom, Act.put, Nat.reduceAdd, List.setIfInBounds_toArray, List.set_cons_zero, List.set_cons_succ, f17] at hK ⊢
              clear hF
              go_simp
              exact hK.out _ _ (Alters.refl _) rfl
            · intro u W K hS hF hK
              have f18 : u 18 = .bool false := hF 18 (by kernel_rfl)
              simp only [putsFrom, Act.put, Nat.reduceAdd, List.setIfInBounds_toArray, List.set_cons_zero, List.set_cons_succ, f18] at hK ⊢
              clear hF
              go_simp
              exact hK.out _ _ (Alters.refl _) rfl
            · intro u W K hS hF hK
              have f18 : u 18 = .bool false := hF 18 (by kernel_rfl)
              have f19 : u 19 = .pointer (some ⟨wr.heap.size, 1, none⟩) := hF 19 (by kernel_rfl)
              simp only [putsFrom, Act.put, Nat.reduceAdd, List.setIfInBounds_toArray, List.set_cons_zero, List.set_cons_succ, f18, f19] at hK ⊢
              clear hF
              have x0 := hS.at (wr.heap.size) (1) (.slice q.a q.p.props.length q.cap) (by simp)
              go_simp
              exact hK.out _ _ (Alters.refl _) rfl
            · intro u W K hS hF hK
              have f18 : u 18 = .bool false := hF 18 (by kernel_rfl)
              have f20 : u 20 = .slice q.a q.p.props.length q.cap := hF 20 (by kernel_rfl)
              simp only [putsFrom, Act.put, Nat.reduceAdd, List.setIfInBounds_toArray, List.set_cons_zero, List.set_cons_succ, f18, f20] at hK ⊢
              clear hF
              go_simp
              refine (right82_walk q.a q.cap q.p.props W (HW.out.props q HM.out).1 ((HW.out.props q HM.out).2.quiet hS.quiet)).mono ?_
              rintro e W2 ⟨rfl, hq⟩
              exact hK.out _ _ hq (show Value.bool (propsOk q.p.props) = .bool true by rw [HN.out])
            · intro u W K hS hF hK
              have f18 : u 18 = .bool false := hF 18 (by kernel_rfl)
              have f21 : u 21 = .bool true := hF 21 (by kernel_rfl)
              simp only [putsFrom, Act.put, Nat.reduceAdd, List.setIfInBounds_toArray, List.set_cons_zero, List.set_cons_succ, f18, f21] at hK ⊢
              clear hF
              go_simp
              exact hK.out _ _ (Alters.refl _) rfl
            · intro u W hS hF
              have f18 : u 18 = .bool false := hF 18 (by simp)
              have f22 : u 22 = .bool false := hF 22 (by simp)
              simp only [putsFrom, Act.put, Nat.reduceAdd, List.setIfInBounds_toArray, List.set_cons_zero, List.set_cons_succ, f18, f22]
              clear hF f18 f22
              have HS := Go.Lib.hid hS
              clear hS
              go_simp
              go_wp2_with fail
              go_roundw
              case rel => exact ⟨k + 1, by omega, by go_num, by rw [← HE.out], HT.out, HS.out.quiet⟩
              case measure => simp [intOf]; omega
          · have HN : Hid (propsOk q.p.props = false) := Go.Lib.hid (by simpa using hp)
            have HE : Hid (wordOk (pts L) = false) := Go.Lib.hid (by rw [← hE, hs, HN.out, Bool.false_and])
            clear hn hE hQ hc hq hT hk0 hs hp HT
            have hB : Blk (wr.alloc (.cells #[.int .i64 q.p.tm, .slice q.a q.p.props.length q.cap] 64)) wr.heap.size #[.int .i64 q.p.tm, .slice q.a q.p.props.length q.cap] 64 := Blk.new _ _ _
            have hq1 : Quiet wr (wr.alloc (.cells #[.int .i64 q.p.tm, .slice q.a q.p.props.length q.cap] 64)) := (Alters.refl _).alloc _
            go_upto_region 4 with (fail)
            clear d0 d1
            generalize wr.alloc _ = w1 at *
            refine wp_region_wants (by kernel_rfl) (by kernel_rfl) (by kernel_rfl) (by kernel_rfl) (CellsAt w [(⟨wr.heap.size, 0, none⟩, .int .i64 q.p.tm), (⟨wr.heap.size, 1, none⟩, .slice q.a q.p.props.length q.cap)]) (fun _ _ hq h => h.keep hq) [Want.is (.pointer (some ⟨wr.heap.size, 0, none⟩)), Want.is (.int .i64 q.p.tm), Want.is (.bool false), Want.is (.bool false), Want.is (.int .i64 (k : Int)), Want.is (.bool false), Want.is (.bool false), Want.is (undef), Want.is (undef), Want.is (undef), Want.is (undef), Want.is (undef), Want.is (undef), Want.is (undef), Want.is (undef), Want.is (undef), Want.is (.bool false), Want.is (.bool false), Want.is (.bool false), Want.is (.pointer (some ⟨wr.heap.size, 1, none⟩)), Want.is (.slice q.a q.p.props.length q.cap), Want.is (.bool false), Want.is (.bool true)] ((CellsAt.cons (a := ⟨wr.heap.size, 0, none⟩) (v := .int .i64 q.p.tm) (hB.cell 0 rfl) (CellsAt.cons (a := ⟨wr.heap.size, 1, none⟩) (v := .slice q.a q.p.props.length q.cap) (hB.cell 1 rfl) (CellsAt.nil (HQ.out.trans hq1)))).keep ((Alters.refl _).drew)) (by decide) ?_
            refine Steps.cons ?_ (Steps.cons ?_ (Steps.cons ?_ (Steps.cons ?_ (Steps.cons ?_ (Steps.cons ?_ (Steps.cons ?_ (Steps.cons ?_ (Steps.cons ?_ (Steps.cons ?_ (Steps.cons ?_ (Steps.cons ?_ (Steps.cons ?_ (Steps.cons ?_ (Steps.cons ?_ (Steps.cons ?_ (Steps.cons ?_ (Steps.cons ?_ (Steps.cons ?_ (Steps.cons ?_ (Steps.cons ?_ (Steps.cons ?_ (Steps.cons ?_ (Steps.last ?_)))))))))))))))))))))))
            · intro u W K hS hF hK
              simp only [putsFrom, Act.put, Nat.reduceAdd, List.setIfInBounds_toArray, List.set_cons_zero, List.set_cons_succ] at hK ⊢
              clear hF
              go_simp
              exact hK.out _ _ (Alters.refl _) rfl
            · intro u W K hS hF hK
              have f0 : u 0 = .pointer (some ⟨wr.heap.size, 0, none⟩) := hF 0 (by kernel_rfl)
              simp only [putsFrom, Act.put, Nat.reduceAdd, List.setIfInBounds_toArray, List.set_cons_zero, List.set_cons_succ, f0] at hK ⊢
              clear hF
              have x0 := hS.at (wr.heap.size) (0) (.int .i64 q.p.tm) (by simp)
              go_simp
              exact hK.out _ _ (Alters.refl _) rfl
            · intro u W K hS hF hK
              have f1 : u 1 = .int .i64 q.p.tm := hF 1 (by kernel_rfl)
              simp only [putsFrom, Act.put, Nat.reduceAdd, List.setIfInBounds_toArray, List.set_cons_zero, List.set_cons_succ, f1] at hK ⊢
              clear hF
              go_simp
              exact hK.out _ _ (Alters.refl _) rfl
            · intro u W K hS hF hK
              have f2 : u 2 = .bool false := hF 2 (by kernel_rfl)
              simp only [putsFrom, Act.put, Nat.reduceAdd, List.setIfInBounds_toArray, List.set_cons_zero, List.set_cons_succ, f2] at hK ⊢
              clear hF
              go_simp
              exact hK.out _ _ (Alters.refl _) rfl
            · intro u W K hS hF hK
              have f3 : u 3 = .bool false := hF 3 (by kernel_rfl)
              simp only [putsFrom, Act.put, Nat.reduceAdd, List.setIfInBounds_toArray, List.set_cons_zero, List.set_cons_succ, f3] at hK ⊢
              clear hF
              go_simp
              exact hK.out _ _ (Alters.refl _) rfl
            · intro u W K hS hF hK
              have f3 : u 3 = .bool false := hF 3 (by kernel_rfl)
              have f4 : u 4 = .int .i64 (k : Int) := hF 4 (by kernel_rfl)
              simp only [putsFrom, Act.put, Nat.reduceAdd, List.setIfInBounds_toArray, List.set_cons_zero, List.set_cons_succ, f3, f4] at hK ⊢
              clear hF
              go_simp
              exact hK.out _ _ (Alters.refl _) rfl
            · intro u W K hS hF hK
              have f3 : u 3 = .bool false := hF 3 (by kernel_rfl)
              have f5 : u 5 = .bool false := hF 5 (by kernel_rfl)
              simp only [putsFrom, Act.put, Nat.reduceAdd, List.setIfInBounds_toArray, List.set_cons_zero, List.set_cons_succ, f3, f5] at hK ⊢
              clear hF
              go_simp
              exact hK.out _ _ (Alters.refl _) rfl
            · intro u W K hS hF hK
              have f6 : u 6 = .bool false := hF 6 (by kernel_rfl)
              simp only [putsFrom, Act.put, Nat.reduceAdd, List.setIfInBounds_toArray, List.set_cons_zero, List.set_cons_succ, f6] at hK ⊢
              clear hF
              go_simp
              exact hK.out _ _ (Alters.refl _) rfl
            · intro u W K hS hF hK
              have f6 : u 6 = .bool false := hF 6 (by kernel_rfl)
              have f7 : u 7 = undef := hF 7 (by kernel_rfl)
              simp only [putsFrom, Act.put, Nat.reduceAdd, List.setIfInBounds_toArray, List.set_cons_zero, List.set_cons_succ, f6, f7] at hK ⊢
              clear hF
              go_simp
              exact hK.out _ _ (Alters.refl _) rfl
            · intro u W K hS hF hK
              have f6 : u 6 = .bool false := hF 6 (by kernel_rfl)
              simp only [putsFrom, Act.put, Nat.reduceAdd, List.setIfInBounds_toArray, List.set_cons_zero, List.set_cons_succ, f6] at hK ⊢
              clear hF
              go_simp
              exact hK.out _ _ (Alters.refl _) rfl
            · intro u W K hS hF hK
              have f6 : u 6 = .bool false := hF 6 (by kernel_rfl)
              simp only [putsFrom, Act.put, Nat.reduceAdd, List.setIfInBounds_toArray, List.set_cons_zero, List.set_cons_succ, f6] at hK ⊢
              clear hF
              go_simp
              exact hK.out _ _ (Alters.refl _) rfl
            · intro u W K hS hF hK
              have f6 : u 6 = .bool false := hF 6 (by kernel_rfl)
              have f10 : u 10 = undef := hF 10 (by kernel_rfl)
              simp only [putsFrom, Act.put, Nat.reduceAdd, List.setIfInBounds_toArray, List.set_cons_zero, List.set_cons_succ, f6, f10] at hK ⊢
              clear hF
              go_simp
              exact hK.out _ _ (Alters.refl _) rfl
            · intro u W K hS hF hK
              have f6 : u 6 = .bool false := hF 6 (by kernel_rfl)
              have f9 : u 9 = undef := hF 9 (by kernel_rfl)
              have f11 : u 11 = undef := hF 11 (by kernel_rfl)
              simp only [putsFrom, Act.put, Nat.reduceAdd, List.setIfInBounds_toArray, List.set_cons_zero, List.set_cons_succ, f6, f9, f11] at hK ⊢
              clear hF
              go_simp
              exact hK.out _ _ (Alters.refl _) rfl
            · intro u W K hS hF hK
              have f6 : u 6 = .bool false := hF 6 (by kernel_rfl)
              have f12 : u 12 = undef := hF 12 (by kernel_rfl)
              simp only [putsFrom, Act.put, Nat.reduceAdd, List.setIfInBounds_toArray, List.set_cons_zero, List.set_cons_succ, f6, f12] at hK ⊢
              clear hF
              go_simp
              exact hK.out _ _ (Alters.refl _) rfl
            · intro u W K hS hF hK
              have f6 : u 6 = .bool false := hF 6 (by kernel_rfl)
              have f13 : u 13 = undef := hF 13 (by kernel_rfl)
              simp only [putsFrom, Act.put, Nat.reduceAdd, List.setIfInBounds_toArray, List.set_cons_zero, List.set_cons_succ, f6, f13] at hK ⊢
              clear hF
              go_simp
              exact hK.out _ _ (Alters.refl _) rfl
            · intro u W K hS hF hK
              have f6 : u 6 = .bool false := hF 6 (by kernel_rfl)
              have f8 : u 8 = undef := hF 8 (by kernel_rfl)
              have f14 : u 14 = undef := hF 14 (by kernel_rfl)
              simp only [putsFrom, Act.put, Nat.reduceAdd, List.setIfInBounds_toArray, List.set_cons_zero, List.set_cons_succ, f6, f8, f14] at hK ⊢
              clear hF
              go_simp
              exact hK.out _ _ (Alters.refl _) rfl
            · intro u W K hS hF hK
              have f3 : u 3 = .bool false := hF 3 (by kernel_rfl)
              have f6 : u 6 = .bool false := hF 6 (by kernel_rfl)
              have f15 : u 15 = undef := hF 15 (by kernel_rfl)
              simp only [putsFrom, Act.put, Nat.reduceAdd, List.setIfInBounds_toArray, List.set_cons_zero, List.set_cons_succ, f3, f6, f15] at hK ⊢
              clear hF
              go_simp
              exact hK.out _ _ (Alters.refl _) rfl
            · intro u W K hS hF hK
              have f3 : u 3 = .bool false := hF 3 (by kernel_rfl)
              have f16 : u 16 = .bool false := hF 16 (by kernel_rfl)
              simp only [putsFrom, Act.put, Nat.reduceAdd, List.setIfInBounds_toArray, List.set_cons_zero, List.set_cons_succ, f3, f16] at hK ⊢
              clear hF
              go_simp
              exact hK.out _ _ (Alters.refl _) rfl
            · intro u W K hS hF hK
              have f17 : u 17 = .bool false := hF 17 (by kernel_rfl)
              simp only [putsFrom, Act.put, Nat.reduceAdd, List.setIfInBounds_toArray, List.set_cons_zero, List.set_cons_succ, f17] at hK ⊢
              clear hF
              go_simp
              exact hK.out _ _ (Alters.refl _) rfl
            · intro u W K hS hF hK
              have f18 : u 18 = .bool false := hF 18 (by kernel_rfl)
              simp only [putsFrom, Act.put, Nat.reduceAdd, List.setIfInBounds_toArray, List.set_cons_zero, List.set_cons_succ, f18] at hK ⊢
              clear hF
              go_simp
              exact hK.out _ _ (Alters.refl _) rfl
            · intro u W K hS hF hK
              have f18 : u 18 = .bool false := hF 18 (by kernel_rfl)
              have f19 : u 19 = .pointer (some ⟨wr.heap.size, 1, none⟩) := hF 19 (by kernel_rfl)
              simp only [putsFrom, Act.put, Nat.reduceAdd, List.setIfInBounds_toArray, List.set_cons_zero, List.set_cons_succ, f18, f19] at hK ⊢
              clear hF
              have x0 := hS.at (wr.heap.size) (1) (.slice q.a q.p.props.length q.cap) (by simp)
              go_simp
              exact hK.out _ _ (Alters.refl _) rfl
            · intro u W K hS hF hK
              have f18 : u 18 = .bool false := hF 18 (by kernel_rfl)
              have f20 : u 20 = .slice q.a q.p.props.length q.cap := hF 20 (by kernel_rfl)
              simp only [putsFrom, Act.put, Nat.reduceAdd, List.setIfInBounds_toArray, List.set_cons_zero, List.set_cons_succ, f18, f20] at hK ⊢
              clear hF
              go_simp
              refine (right82_walk q.a q.cap q.p.props W (HW.out.props q HM.out).1 ((HW.out.props q HM.out).2.quiet hS.quiet)).mono ?_
              rintro e W2 ⟨rfl, hq⟩
              exact hK.out _ _ hq (show Value.bool (propsOk q.p.props) = .bool false by rw [HN.out])
            · intro u W K hS hF hK
              have f18 : u 18 = .bool false := hF 18 (by kernel_rfl)
              have f21 : u 21 = .bool false := hF 21 (by kernel_rfl)
              simp only [putsFrom, Act.put, Nat.reduceAdd, List.setIfInBounds_toArray, List.set_cons_zero, List.set_cons_succ, f18, f21] at hK ⊢
              clear hF
              go_simp
              exact hK.out _ _ (Alters.refl _) rfl
            · intro u W hS hF
              have f18 : u 18 = .bool false := hF 18 (by simp)
              have f22 : u 22 = .bool true := hF 22 (by simp)
              simp only [putsFrom, Act.put, Nat.reduceAdd, List.setIfInBounds_toArray, List.set_cons_zero, List.set_cons_succ, f18, f22]
              clear hF f18 f22
              have HS := Go.Lib.hid hS
              clear hS
              go_simp
              go_wp2_with fail
              go_ret
              exact ⟨by rw [HE.out]; rfl, HS.out.quiet⟩
        · obtain ⟨m, hm⟩ : ∃ m, k = m + 1 := ⟨k - 1, by omega⟩
          have hkm : (k : Int) - 1 = (m : Int) := by omega
          have b6 : decide (0 < k) = true := by simpa using hk0
          have hml : m < L.length := by omega
          have hwm : IntKind.i64.wrap (m : Int) = (m : Int) := by rw [IntKind.wrap_i64]; omega
          obtain ⟨r, hr⟩ : ∃ r, L[m]? = some r := ⟨_, List.getElem?_eq_getElem hml⟩
          obtain ⟨e0, e1⟩ := hc m r hr
          clear e1
          replace e0 := hQ.cell e0 (by simp)
          have hs := wordAt_step (by rw [← hm]; exact hq) hr
          rw [← hm, show m + 2 = k + 1 by omega] at hs
          by_cases ho : r.p.tm < q.p.tm
          · have c2 : decide (q.p.tm ≤ r.p.tm) = false := by simpa using ho
            rw [show decide (r.p.tm < q.p.tm) = true by simpa using ho, Bool.true_and] at hs
            by_cases hp : propsOk q.p.props = true
            · have HN := Go.Lib.hid hp
              have HE : Hid (wordAt L (k + 1) = wordOk (pts L)) := Go.Lib.hid (by rw [← hE, hs, hp, Bool.true_and])
              clear hn hE hQ hc hq hT hr hs ho hm hk0 hp
              have hB : Blk (wr.alloc (.cells #[.int .i64 q.p.tm, .slice q.a q.p.props.length q.cap] 64)) wr.heap.size #[.int .i64 q.p.tm, .slice q.a q.p.props.length q.cap] 64 := Blk.new _ _ _
              have hq1 : Quiet wr (wr.alloc (.cells #[.int .i64 q.p.tm, .slice q.a q.p.props.length q.cap] 64)) := (Alters.refl _).alloc _
              go_upto_region 4 with (fail)
              replace e0 := hq1.cell e0 (by simp)
              clear d0 d1
              generalize wr.alloc _ = w1 at *
              refine wp_region_wants (by kernel_rfl) (by kernel_rfl) (by kernel_rfl) (by kernel_rfl) (CellsAt w [(⟨wr.heap.size, 0, none⟩, .int .i64 q.p.tm), (⟨wr.heap.size, 1, none⟩, .slice q.a q.p.props.length q.cap), (⟨b, o + m * 2, none⟩, .int .i64 r.p.tm)]) (fun _ _ hq h => h.keep hq) [Want.is (.pointer (some ⟨wr.heap.size, 0, none⟩)), Want.is (.int .i64 q.p.tm), Want.is (.bool false), Want.is (.bool false), Want.is (.int .i64 (k : Int)), Want.is (.bool true), Want.is (.bool true), Want.is (.pointer (some ⟨wr.heap.size, 0, none⟩)), Want.is (.int .i64 q.p.tm), Want.is (.slice (some ⟨b, o, none⟩) L.length cap), Want.is (.int .i64 (k : Int)), Want.is (.int .i64 (m : Int)), Want.is (.pointer (some ⟨b, o + m * 2, none⟩)), Want.is (.pointer (some ⟨b, o + m * 2, none⟩)), Want.is (.int .i64 r.p.tm), Want.is (.bool false), Want.is (.bool false), Want.is (.bool false), Want.is (.bool false), Want.is (.pointer (some ⟨wr.heap.size, 1, none⟩)), Want.is (.slice q.a q.p.props.length q.cap), Want.is (.bool true), Want.is (.bool false)] ((CellsAt.cons (a := ⟨wr.heap.size, 0, none⟩) (v := .int .i64 q.p.tm) (hB.cell 0 rfl) (CellsAt.cons (a := ⟨wr.heap.size, 1, none⟩) (v := .slice q.a q.p.props.length q.cap) (hB.cell 1 rfl) (CellsAt.cons (a := ⟨b, o + m * 2, none⟩) (v := .int .i64 r.p.tm) (e0) (CellsAt.nil (HQ.out.trans hq1))))).keep ((Alters.refl _).drew)) (by decide) ?_
              refine Steps.cons ?_ (Steps.cons ?_ (Steps.cons ?_ (Steps.cons ?_ (Steps.cons ?_ (Steps.cons ?_ (Steps.cons ?_ (Steps.cons ?_ (Steps.cons ?_ (Steps.cons ?_ (Steps.cons ?_ (Steps.cons ?_ (Steps.cons ?_ (Steps.cons ?_ (Steps.cons ?_ (Steps.cons ?_ (Steps.cons ?_ (Steps.cons ?_ (Steps.cons ?_ (Steps.cons ?_ (Steps.cons ?_ (Steps.cons ?_ (Steps.cons ?_ (Steps.last ?_)))))))))))))))))))))))
              · intro u W K hS hF hK
                simp only [putsFrom, Act.put, Nat.reduceAdd, List.setIfInBounds_toArray, List.set_cons_zero, List.set_cons_succ] at hK ⊢
                clear hF
                go_simp
                exact hK.out _ _ (Alters.refl _) rfl
              · intro u W K hS hF hK
                have f0 : u 0 = .pointer (some ⟨wr.heap.size, 0, none⟩) := hF 0 (by kernel_rfl)
                simp only [putsFrom, Act.put, Nat.reduceAdd, List.setIfInBounds_toArray, List.set_cons_zero, List.set_cons_succ, f0] at hK ⊢
                clear hF
                have x0 := hS.at (wr.heap.size) (0) (.int .i64 q.p.tm) (by simp)
                go_simp
                exact hK.out _ _ (Alters.refl _) rfl
              · intro u W K hS hF hK
                have f1 : u 1 = .int .i64 q.p.tm := hF 1 (by kernel_rfl)
                simp only [putsFrom, Act.put, Nat.reduceAdd, List.setIfInBounds_toArray, List.set_cons_zero, List.set_cons_succ, f1] at hK ⊢
                clear hF
                go_simp
                exact hK.out _ _ (Alters.refl _) rfl
              · intro u W K hS hF hK
                have f2 : u 2 = .bool false := hF 2 (by kernel_rfl)
                simp only [putsFrom, Act.put, Nat.reduceAdd, List.setIfInBounds_toArray, List.set_cons_zero, List.set_cons_succ, f2] at hK ⊢
                clear hF
                go_simp
                exact hK.out _ _ (Alters.refl _) rfl
              · intro u W K hS hF hK
                have f3 : u 3 = .bool false := hF 3 (by kernel_rfl)
                simp only [putsFrom, Act.put, Nat.reduceAdd, List.setIfInBounds_toArray, List.set_cons_zero, List.set_cons_succ, f3] at hK ⊢
                clear hF
                go_simp
                exact hK.out _ _ (Alters.refl _) rfl
              · intro u W K hS hF hK
                have f3 : u 3 = .bool false := hF 3 (by kernel_rfl)
                have f4 : u 4 = .int .i64 (k : Int) := hF 4 (by kernel_rfl)
                simp only [putsFrom, Act.put, Nat.reduceAdd, List.setIfInBounds_toArray, List.set_cons_zero, List.set_cons_succ, f3, f4] at hK ⊢
                clear hF
                go_simp
                exact hK.out _ _ (Alters.refl _) rfl
              · intro u W K hS hF hK
                have f3 : u 3 = .bool false := hF 3 (by kernel_rfl)
                have f5 : u 5 = .bool true := hF 5 (by kernel_rfl)
                simp only [putsFrom, Act.put, Nat.reduceAdd, List.setIfInBounds_toArray, List.set_cons_zero, List.set_cons_succ, f3, f5] at hK ⊢
                clear hF
                go_simp
                exact hK.out _ _ (Alters.refl _) rfl
              · intro u W K hS hF hK
                have f6 : u 6 = .bool true := hF 6 (by kernel_rfl)
                simp only [putsFrom, Act.put, Nat.reduceAdd, List.setIfInBounds_toArray, List.set_cons_zero, List.set_cons_succ, f6] at hK ⊢
                clear hF
                go_simp
                exact hK.out _ _ (Alters.refl _) rfl
              · intro u W K hS hF hK
                have f6 : u 6 = .bool true := hF 6 (by kernel_rfl)
                have f7 : u 7 = .pointer (some ⟨wr.heap.size, 0, none⟩) := hF 7 (by kernel_rfl)
                simp only [putsFrom, Act.put, Nat.reduceAdd, List.setIfInBounds_toArray, List.set_cons_zero, List.set_cons_succ, f6, f7] at hK ⊢
                clear hF
                have x0 := hS.at (wr.heap.size) (0) (.int .i64 q.p.tm) (by simp)
                go_simp
                exact hK.out _ _ (Alters.refl _) rfl
              · intro u W K hS hF hK
                have f6 : u 6 = .bool true := hF 6 (by kernel_rfl)
                simp only [putsFrom, Act.put, Nat.reduceAdd, List.setIfInBounds_toArray, List.set_cons_zero, List.set_cons_succ, f6] at hK ⊢
                clear hF
                go_simp
                exact hK.out _ _ (Alters.refl _) rfl
              · intro u W K hS hF hK
                have f6 : u 6 = .bool true := hF 6 (by kernel_rfl)
                simp only [putsFrom, Act.put, Nat.reduceAdd, List.setIfInBounds_toArray, List.set_cons_zero, List.set_cons_succ, f6] at hK ⊢
                clear hF
                go_simp
                exact hK.out _ _ (Alters.refl _) rfl
              · intro u W K hS hF hK
                have f6 : u 6 = .bool true := hF 6 (by kernel_rfl)
                have f10 : u 10 = .int .i64 (k : Int) := hF 10 (by kernel_rfl)
                simp only [putsFrom, Act.put, Nat.reduceAdd, List.setIfInBounds_toArray, List.set_cons_zero, List.set_cons_succ, f6, f10] at hK ⊢
                clear hF
                go_simp
                exact hK.out _ _ (Alters.refl _) rfl
              · intro u W K hS hF hK
                have f6 : u 6 = .bool true := hF 6 (by kernel_rfl)
                have f9 : u 9 = .slice (some ⟨b, o, none⟩) L.length cap := hF 9 (by kernel_rfl)
                have f11 : u 11 = .int .i64 (m : Int) := hF 11 (by kernel_rfl)
                simp only [putsFrom, Act.put, Nat.reduceAdd, List.setIfInBounds_toArray, List.set_cons_zero, List.set_cons_succ, f6, f9, f11] at hK ⊢
                clear hF
                go_simp
                exact hK.out _ _ (Alters.refl _) rfl
              · intro u W K hS hF hK
                have f6 : u 6 = .bool true := hF 6 (by kernel_rfl)
                have f12 : u 12 = .pointer (some ⟨b, o + m * 2, none⟩) := hF 12 (by kernel_rfl)
                simp only [putsFrom, Act.put, Nat.reduceAdd, List.setIfInBounds_toArray, List.set_cons_zero, List.set_cons_succ, f6, f12] at hK ⊢
                clear hF
                go_simp
                exact hK.out _ _ (Alters.refl _) rfl
              · intro u W K hS hF hK
                have f6 : u 6 = .bool true := hF 6 (by kernel_rfl)
                have f13 : u 13 = .pointer (some ⟨b, o + m * 2, none⟩) := hF 13 (by kernel_rfl)
                simp only [putsFrom, Act.put, Nat.reduceAdd, List.setIfInBounds_toArray, List.set_cons_zero, List.set_cons_succ, f6, f13] at hK ⊢
                clear hF
                have x0 := hS.at (b) (o + m * 2) (.int .i64 r.p.tm) (by simp)
                go_simp
                exact hK.out _ _ (Alters.refl _) rfl
              · intro u W K hS hF hK
                have f6 : u 6 = .bool true := hF 6 (by kernel_rfl)
                have f8 : u 8 = .int .i64 q.p.tm := hF 8 (by kernel_rfl)
                have f14 : u 14 = .int .i64 r.p.tm := hF 14 (by kernel_rfl)
                simp only [putsFrom, Act.put, Nat.reduceAdd, List.setIfInBounds_toArray, List.set_cons_zero, List.set_cons_succ, f6, f8, f14] at hK ⊢
                clear hF
                go_simp
                exact hK.out _ _ (Alters.refl _) rfl
              · intro u W K hS hF hK
                have f3 : u 3 = .bool false := hF 3 (by kernel_rfl)
                have f6 : u 6 = .bool true := hF 6 (by kernel_rfl)
                have f15 : u 15 = .bool false := hF 15 (by kernel_rfl)
                simp only [putsFrom, Act.put, Nat.reduceAdd, List.setIfInBounds_toArray, List.set_cons_zero, List.set_cons_succ, f3, f6, f15] at hK ⊢
                clear hF
                go_simp
                exact hK.out _ _ (Alters.refl _) rfl
              · intro u W K hS hF hK
                have f3 : u 3 = .bool false := hF 3 (by kernel_rfl)
                have f16 : u 16 = .bool false := hF 16 (by kernel_rfl)
                simp only [putsFrom, Act.put, Nat.reduceAdd, List.setIfInBounds_toArray, List.set_cons_zero, List.set_cons_succ, f3, f16] at hK ⊢
                clear hF
                go_simp
                exact hK.out _ _ (Alters.refl _) rfl
              · intro u W K hS hF hK
                have f17 : u 17 = .bool false := hF 17 (by kernel_rfl)
                simp only [putsFrom, Act.put, Nat.reduceAdd, List.setIfInBounds_toArray, List.set_cons_zero, List.set_cons_succ, f17] at hK ⊢
                clear hF
                go_simp
                exact hK.out _ _ (Alters.refl _) rfl
              · intro u W K hS hF hK
                have f18 : u 18 = .bool false := hF 18 (by kernel_rfl)
                simp only [putsFrom, Act.put, Nat.reduceAdd, List.setIfInBounds_toArray, List.set_cons_zero, List.set_cons_succ, f18] at hK ⊢
                clear hF
                go_simp
                exact hK.out _ _ (Alters.refl _) rfl
              · intro u W K hS hF hK
                have f18 : u 18 = .bool false := hF 18 (by kernel_rfl)
                have f19 : u 19 = .pointer (some ⟨wr.heap.size, 1, none⟩) := hF 19 (by kernel_rfl)
                simp only [putsFrom, Act.put, Nat.reduceAdd, List.setIfInBounds_toArray, List.set_cons_zero, List.set_cons_succ, f18, f19] at hK ⊢
                clear hF
                have x0 := hS.at (wr.heap.size) (1) (.slice q.a q.p.props.length q.cap) (by simp)
                go_simp
                exact hK.out _ _ (Alters.refl _) rfl
              · intro u W K hS hF hK
                have f18 : u 18 = .bool false := hF 18 (by kernel_rfl)
                have f20 : u 20 = .slice q.a q.p.props.length q.cap := hF 20 (by kernel_rfl)
                simp only [putsFrom, Act.put, Nat.reduceAdd, List.setIfInBounds_toArray, List.set_cons_zero, List.set_cons_succ, f18, f20] at hK ⊢
                clear hF
                go_simp
                refine (right82_walk q.a q.cap q.p.props W (HW.out.props q HM.out).1 ((HW.out.props q HM.out).2.quiet hS.quiet)).mono ?_
                rintro e W2 ⟨rfl, hq⟩
                exact hK.out _ _ hq (show Value.bool (propsOk q.p.props) = .bool true by rw [HN.out])
              · intro u W K hS hF hK
                have f18 : u 18 = .bool false := hF 18 (by kernel_rfl)
                have f21 : u 21 = .bool true := hF 21 (by kernel_rfl)
                simp only [putsFrom, Act.put, Nat.reduceAdd, List.setIfInBounds_toArray, List.set_cons_zero, List.set_cons_succ, f18, f21] at hK ⊢
                clear hF
                go_simp
                exact hK.out _ _ (Alters.refl _) rfl
              · intro u W hS hF
                have f18 : u 18 = .bool false := hF 18 (by simp)
                have f22 : u 22 = .bool false := hF 22 (by simp)
                simp only [putsFrom, Act.put, Nat.reduceAdd, List.setIfInBounds_toArray, List.set_cons_zero, List.set_cons_succ, f18, f22]
                clear hF f18 f22
                have HS := Go.Lib.hid hS
                clear hS
                go_simp
                go_wp2_with fail
                go_roundw
                case rel => exact ⟨k + 1, by omega, by go_num, by rw [← HE.out], HT.out, HS.out.quiet⟩
                case measure => simp [intOf]; omega
            · have HN : Hid (propsOk q.p.props = false) := Go.Lib.hid (by simpa using hp)
              have HE : Hid (wordOk (pts L) = false) := Go.Lib.hid (by rw [← hE, hs, HN.out, Bool.false_and])
              clear hn hE hQ hc hq hT hr hs ho hm hk0 hp HT
              have hB : Blk (wr.alloc (.cells #[.int .i64 q.p.tm, .slice q.a q.p.props.length q.cap] 64)) wr.heap.size #[.int .i64 q.p.tm, .slice q.a q.p.props.length q.cap] 64 := Blk.new _ _ _
              have hq1 : Quiet wr (wr.alloc (.cells #[.int .i64 q.p.tm, .slice q.a q.p.props.length q.cap] 64)) := (Alters.refl _).alloc _
              go_upto_region 4 with (fail)
              replace e0 := hq1.cell e0 (by simp)
              clear d0 d1
              generalize wr.alloc _ = w1 at *
              refine wp_region_wants (by kernel_rfl) (by kernel_rfl) (by kernel_rfl) (by kernel_rfl) (CellsAt w [(⟨wr.heap.size, 0, none⟩, .int .i64 q.p.tm), (⟨wr.heap.size, 1, none⟩, .slice q.a q.p.props.length q.cap), (⟨b, o + m * 2, none⟩, .int .i64 r.p.tm)]) (fun _ _ hq h => h.keep hq) [Want.is (.pointer (some ⟨wr.heap.size, 0, none⟩)), Want.is (.int .i64 q.p.tm), Want.is (.bool false), Want.is (.bool false), Want.is (.int .i64 (k : Int)), Want.is (.bool true), Want.is (.bool true), Want.is (.pointer (some ⟨wr.heap.size, 0, none⟩)), Want.is (.int .i64 q.p.tm), Want.is (.slice (some ⟨b, o, none⟩) L.length cap), Want.is (.int .i64 (k : Int)), Want.is (.int .i64 (m : Int)), Want.is (.pointer (some ⟨b, o + m * 2, none⟩)), Want.is (.pointer (some ⟨b, o + m * 2, none⟩)), Want.is (.int .i64 r.p.tm), Want.is (.bool false), Want.is (.bool false), Want.is (.bool false), Want.is (.bool false), Want.is (.pointer (some ⟨wr.heap.size, 1, none⟩)), Want.is (.slice q.a q.p.props.length q.cap), Want.is (.bool false), Want.is (.bool true)] ((CellsAt.cons (a := ⟨wr.heap.size, 0, none⟩) (v := .int .i64 q.p.tm) (hB.cell 0 rfl) (CellsAt.cons (a := ⟨wr.heap.size, 1, none⟩) (v := .slice q.a q.p.props.length q.cap) (hB.cell 1 rfl) (CellsAt.cons (a := ⟨b, o + m * 2, none⟩) (v := .int .i64 r.p.tm) (e0) (CellsAt.nil (HQ.out.trans hq1))))).keep ((Alters.refl _).drew)) (by decide) ?_
              refine Steps.cons ?_ (Steps.cons ?_ (Steps.cons ?_ (Steps.cons ?_ (Steps.cons ?_ (Steps.cons ?_ (Steps.cons ?_ (Steps.cons ?_ (Steps.cons ?_ (Steps.cons ?_ (Steps.cons ?_ (Steps.cons ?_ (Steps.cons ?_ (Steps.cons ?_ (Steps.cons ?_ (Steps.cons ?_ (Steps.cons ?_ (Steps.cons ?_ (Steps.cons ?_ (Steps.cons ?_ (Steps.cons ?_ (Steps.cons ?_ (Steps.cons ?_ (Steps.last ?_)))))))))))))))))))))))
              · intro u W K hS hF hK
                simp only [putsFrom, Act.put, Nat.reduceAdd, List.setIfInBounds_toArray, List.set_cons_zero, List.set_cons_succ] at hK ⊢
                clear hF
                go_simp
                exact hK.out _ _ (Alters.refl _) rfl
              · intro u W K hS hF hK
                have f0 : u 0 = .pointer (some ⟨wr.heap.size, 0, none⟩) := hF 0 (by kernel_rfl)
                simp only [putsFrom, Act.put, Nat.reduceAdd, List.setIfInBounds_toArray, List.set_cons_zero, List.set_cons_succ, f0] at hK ⊢
                clear hF
                have x0 := hS.at (wr.heap.size) (0) (.int .i64 q.p.tm) (by simp)
                go_simp
                exact hK.out _ _ (Alters.refl _) rfl
              · intro u W K hS hF hK
                have f1 : u 1 = .int .i64 q.p.tm := hF 1 (by kernel_rfl)
                simp only [putsFrom, Act.put, Nat.reduceAdd, List.setIfInBounds_toArray, List.set_cons_zero, List.set_cons_succ, f1] at hK ⊢
                clear hF
                go_simp
                exact hK.out _ _ (Alters.refl _) rfl
              · intro u W K hS hF hK
                have f2 : u 2 = .bool false := hF 2 (by kernel_rfl)
                simp only [putsFrom, Act.put, Nat.reduceAdd, List.setIfInBounds_toArray, List.set_cons_zero, List.set_cons_succ, f2] at hK ⊢
                clear hF
                go_simp
                exact hK.out _ _ (Alters.refl _) rfl
              · intro u W K hS hF hK
                have f3 : u 3 = .bool false := hF 3 (by kernel_rfl)
                simp only [putsFrom, Act.put, Nat.reduceAdd, List.setIfInBounds_toArray, List.set_cons_zero, List.set_cons_succ, f3] at hK ⊢
                clear hF
                go_simp
                exact hK.out _ _ (Alters.refl _) rfl
              · intro u W K hS hF hK
                have f3 : u 3 = .bool false := hF 3 (by kernel_rfl)
                have f4 : u 4 = .int .i64 (k : Int) := hF 4 (by kernel_rfl)
                simp only [putsFrom, Act.put, Nat.reduceAdd, List.setIfInBounds_toArray, List.set_cons_zero, List.set_cons_succ, f3, f4] at hK ⊢
                clear hF
                go_simp
                exact hK.out _ _ (Alters.refl _) rfl
              · intro u W K hS hF hK
                have f3 : u 3 = .bool false := hF 3 (by kernel_rfl)
                have f5 : u 5 = .bool true := hF 5 (by kernel_rfl)
                simp only [putsFrom, Act.put, Nat.reduceAdd, List.setIfInBounds_toArray, List.set_cons_zero, List.set_cons_succ, f3, f5] at hK ⊢
                clear hF
                go_simp
                exact hK.out _ _ (Alters.refl _) rfl
              · intro u W K hS hF hK
                have f6 : u 6 = .bool true := hF 6 (by kernel_rfl)
                simp only [putsFrom, Act.put, Nat.reduceAdd, List.setIfInBounds_toArray, List.set_cons_zero, List.set_cons_succ, f6] at hK ⊢
                clear hF
                go_simp
                exact hK.out _ _ (Alters.refl _) rfl
              · intro u W K hS hF hK
                have f6 : u 6 = .bool true := hF 6 (by kernel_rfl)
                have f7 : u 7 = .pointer (some ⟨wr.heap.size, 0, none⟩) := hF 7 (by kernel_rfl)
                simp only [putsFrom, Act.put, Nat.reduceAdd, List.setIfInBounds_toArray, List.set_cons_zero, List.set_cons_succ, f6, f7] at hK ⊢
                clear hF
                have x0 := hS.at (wr.heap.size) (0) (.int .i64 q.p.tm) (by simp)
                go_simp
                exact hK.out _ _ (Alters.refl _) rfl
              · intro u W K hS hF hK
                have f6 : u 6 = .bool true := hF 6 (by kernel_rfl)
                simp only [putsFrom, Act.put, Nat.reduceAdd, List.setIfInBounds_toArray, List.set_cons_zero, List.set_cons_succ, f6] at hK ⊢
                clear hF
                go_simp
                exact hK.out _ _ (Alters.refl _) rfl
              · intro u W K hS hF hK
                have f6 : u 6 = .bool true := hF 6 (by kernel_rfl)
                simp only [putsFrom, Act.put, Nat.reduceAdd, List.setIfInBounds_toArray, List.set_cons_zero, List.set_cons_succ, f6] at hK ⊢
                clear hF
                go_simp
                exact hK.out _ _ (Alters.refl _) rfl
              · intro u W K hS hF hK
                have f6 : u 6 = .bool true := hF 6 (by kernel_rfl)
                have f10 : u 10 = .int .i64 (k : Int) := hF 10 (by kernel_rfl)
                simp only [putsFrom, Act.put, Nat.reduceAdd, List.setIfInBounds_toArray, List.set_cons_zero, List.set_cons_succ, f6, f10] at hK ⊢
                clear hF
                go_simp
                exact hK.out _ _ (Alters.refl _) rfl
              · intro u W K hS hF hK
                have f6 : u 6 = .bool true := hF 6 (by kernel_rfl)
                have f9 : u 9 = .slice (some ⟨b, o, none⟩) L.length cap := hF 9 (by kernel_rfl)
                have f11 : u 11 = .int .i64 (m : Int) := hF 11 (by kernel_rfl)
                simp only [putsFrom, Act.put, Nat.reduceAdd, List.setIfInBounds_toArray, List.set_cons_zero, List.set_cons_succ, f6, f9, f11] at hK ⊢
                clear hF
                go_simp
                exact hK.out _ _ (Alters.refl _) rfl
              · intro u W K hS hF hK
                have f6 : u 6 = .bool true := hF 6 (by kernel_rfl)
                have f12 : u 12 = .pointer (some ⟨b, o + m * 2, none⟩) := hF 12 (by kernel_rfl)
                simp only [putsFrom, Act.put, Nat.reduceAdd, List.setIfInBounds_toArray, List.set_cons_zero, List.set_cons_succ, f6, f12] at hK ⊢
                clear hF
                go_simp
                exact hK.out _ _ (Alters.refl _) rfl
              · intro u W K hS hF hK
                have f6 : u 6 = .bool true := hF 6 (by kernel_rfl)
                have f13 : u 13 = .pointer (some ⟨b, o + m * 2, none⟩) := hF 13 (by kernel_rfl)
                simp only [putsFrom, Act.put, Nat.reduceAdd, List.setIfInBounds_toArray, List.set_cons_zero, List.set_cons_succ, f6, f13] at hK ⊢
                clear hF
                have x0 := hS.at (b) (o + m * 2) (.int .i64 r.p.tm) (by simp)
                go_simp
                exact hK.out _ _ (Alters.refl _) rfl
              · intro u W K hS hF hK
                have f6 : u 6 = .bool true := hF 6 (by kernel_rfl)
                have f8 : u 8 = .int .i64 q.p.tm := hF 8 (by kernel_rfl)
                have f14 : u 14 = .int .i64 r.p.tm := hF 14 (by kernel_rfl)
                simp only [putsFrom, Act.put, Nat.reduceAdd, List.setIfInBounds_toArray, List.set_cons_zero, List.set_cons_succ, f6, f8, f14] at hK ⊢
                clear hF
                go_simp
                exact hK.out _ _ (Alters.refl _) rfl
              · intro u W K hS hF hK
                have f3 : u 3 = .bool false := hF 3 (by kernel_rfl)
                have f6 : u 6 = .bool true := hF 6 (by kernel_rfl)
                have f15 : u 15 = .bool false := hF 15 (by kernel_rfl)
                simp only [putsFrom, Act.put, Nat.reduceAdd, List.setIfInBounds_toArray, List.set_cons_zero, List.set_cons_succ, f3, f6, f15] at hK ⊢
                clear hF
                go_simp
                exact hK.out _ _ (Alters.refl _) rfl
              · intro u W K hS hF hK
                have f3 : u 3 = .bool false := hF 3 (by kernel_rfl)
                have f16 : u 16 = .bool false := hF 16 (by kernel_rfl)
                simp only [putsFrom, Act.put, Nat.reduceAdd, List.setIfInBounds_toArray, List.set_cons_zero, List.set_cons_succ, f3, f16] at hK ⊢
                clear hF
                go_simp
                exact hK.out _ _ (Alters.refl _) rfl
              · intro u W K hS hF hK
                have f17 : u 17 = .bool false := hF 17 (by kernel_rfl)
                simp only [putsFrom, Act.put, Nat.reduceAdd, List.setIfInBounds_toArray, List.set_cons_zero, List.set_cons_succ, f17] at hK ⊢
                clear hF
                go_simp
                exact hK.out _ _ (Alters.refl _) rfl
              · intro u W K hS hF hK
                have f18 : u 18 = .bool false := hF 18 (by kernel_rfl)
                simp only [putsFrom, Act.put, Nat.reduceAdd, List.setIfInBounds_toArray, List.set_cons_zero, List.set_cons_succ, f18] at hK ⊢
                clear hF
                go_simp
                exact hK.out _ _ (Alters.refl _) rfl
              · intro u W K hS hF hK
                have f18 : u 18 = .bool false := hF 18 (by kernel_rfl)
                have f19 : u 19 = .pointer (some ⟨wr.heap.size, 1, none⟩) := hF 19 (by kernel_rfl)
                simp only [putsFrom, Act.put, Nat.reduceAdd, List.setIfInBounds_toArray, List.set_cons_zero, List.set_cons_succ, f18, f19] at hK ⊢
                clear hF
                have x0 := hS.at (wr.heap.size) (1) (.slice q.a q.p.props.length q.cap) (by simp)
                go_simp
                exact hK.out _ _ (Alters.refl _) rfl
              · intro u W K hS hF hK
                have f18 : u 18 = .bool false := hF 18 (by kernel_rfl)
                have f20 : u 20 = .slice q.a q.p.props.length q.cap := hF 20 (by kernel_rfl)
                simp only [putsFrom, Act.put, Nat.reduceAdd, List.setIfInBounds_toArray, List.set_cons_zero, List.set_cons_succ, f18, f20] at hK ⊢
                clear hF
                go_simp
                refine (right82_walk q.a q.cap q.p.props W (HW.out.props q HM.out).1 ((HW.out.props q HM.out).2.quiet hS.quiet)).mono ?_
                rintro e W2 ⟨rfl, hq⟩
                exact hK.out _ _ hq (show Value.bool (propsOk q.p.props) = .bool false by rw [HN.out])
              · intro u W K hS hF hK
                have f18 : u 18 = .bool false := hF 18 (by kernel_rfl)
                have f21 : u 21 = .bool false := hF 21 (by kernel_rfl)
                simp only [putsFrom, Act.put, Nat.reduceAdd, List.setIfInBounds_toArray, List.set_cons_zero, List.set_cons_succ, f18, f21] at hK ⊢
                clear hF
                go_simp
                exact hK.out _ _ (Alters.refl _) rfl
              · intro u W hS hF
                have f18 : u 18 = .bool false := hF 18 (by simp)
                have f22 : u 22 = .bool true := hF 22 (by simp)
                simp only [putsFrom, Act.put, Nat.reduceAdd, List.setIfInBounds_toArray, List.set_cons_zero, List.set_cons_succ, f18, f22]
                clear hF f18 f22
                have HS := Go.Lib.hid hS
                clear hS
                go_simp
                go_wp2_with fail
                go_ret
                exact ⟨by rw [HE.out]; rfl, HS.out.quiet⟩
          · have c2 : decide (q.p.tm ≤ r.p.tm) = true := by simpa using ho
            have HE : Hid (wordOk (pts L) = false) := Go.Lib.hid (by rw [← hE, hs]; simp [ho])
            clear hn hE hQ hc hq hT hr hs ho hm hk0 HT
            have hB : Blk (wr.alloc (.cells #[.int .i64 q.p.tm, .slice q.a q.p.props.length q.cap] 64)) wr.heap.size #[.int .i64 q.p.tm, .slice q.a q.p.props.length q.cap] 64 := Blk.new _ _ _
            have hq1 : Quiet wr (wr.alloc (.cells #[.int .i64 q.p.tm, .slice q.a q.p.props.length q.cap] 64)) := (Alters.refl _).alloc _
            go_upto_region 4 with (fail)
            replace e0 := hq1.cell e0 (by simp)
            clear d0 d1
            generalize wr.alloc _ = w1 at *
            refine wp_region_wants (by kernel_rfl) (by kernel_rfl) (by kernel_rfl) (by kernel_rfl) (CellsAt w [(⟨wr.heap.size, 0, none⟩, .int .i64 q.p.tm), (⟨wr.heap.size, 1, none⟩, .slice q.a q.p.props.length q.cap), (⟨b, o + m * 2, none⟩, .int .i64 r.p.tm)]) (fun _ _ hq h => h.keep hq) [Want.is (.pointer (some ⟨wr.heap.size, 0, none⟩)), Want.is (.int .i64 q.p.tm), Want.is (.bool false), Want.is (.bool false), Want.is (.int .i64 (k : Int)), Want.is (.bool true), Want.is (.bool true), Want.is (.pointer (some ⟨wr.heap.size, 0, none⟩)), Want.is (.int .i64 q.p.tm), Want.is (.slice (some ⟨b, o, none⟩) L.length cap), Want.is (.int .i64 (k : Int)), Want.is (.int .i64 (m : Int)), Want.is (.pointer (some ⟨b, o + m * 2, none⟩)), Want.is (.pointer (some ⟨b, o + m * 2, none⟩)), Want.is (.int .i64 r.p.tm), Want.is (.bool true), Want.is (.bool true), Want.is (.bool true), Want.is (.bool true), Want.is (undef), Want.is (undef), Want.is (undef), Want.is (undef)] ((CellsAt.cons (a := ⟨wr.heap.size, 0, none⟩) (v := .int .i64 q.p.tm) (hB.cell 0 rfl) (CellsAt.cons (a := ⟨wr.heap.size, 1, none⟩) (v := .slice q.a q.p.props.length q.cap) (hB.cell 1 rfl) (CellsAt.cons (a := ⟨b, o + m * 2, none⟩) (v := .int .i64 r.p.tm) (e0) (CellsAt.nil (HQ.out.trans hq1))))).keep ((Alters.refl _).drew)) (by decide) ?_
            refine Steps.cons ?_ (Steps.cons ?_ (Steps.cons ?_ (Steps.cons ?_ (Steps.cons ?_ (Steps.cons ?_ (Steps.cons ?_ (Steps.cons ?_ (Steps.cons ?_ (Steps.cons ?_ (Steps.cons ?_ (Steps.cons ?_ (Steps.cons ?_ (Steps.cons ?_ (Steps.cons ?_ (Steps.cons ?_ (Steps.cons ?_ (Steps.cons ?_ (Steps.cons ?_ (Steps.cons ?_ (Steps.cons ?_ (Steps.cons ?_ (Steps.cons ?_ (Steps.last ?_)))))))))))))))))))))))
            · intro u W K hS hF hK
              simp only [putsFrom, Act.put, Nat.reduceAdd, List.setIfInBounds_toArray, List.set_cons_zero, List.set_cons_succ] at hK ⊢
              clear hF
              go_simp
              exact hK.out _ _ (Alters.refl _) rfl
            · intro u W K hS hF hK
              have f0 : u 0 = .pointer (some ⟨wr.heap.size, 0, none⟩) := hF 0 (by kernel_rfl)
              simp only [putsFrom, Act.put, Nat.reduceAdd, List.setIfInBounds_toArray, List.set_cons_zero, List.set_cons_succ, f0] at hK ⊢
              clear hF
              have x0 := hS.at (wr.heap.size) (0) (.int .i64 q.p.tm) (by simp)
              go_simp
              exact hK.out _ _ (Alters.refl _) rfl
            · intro u W K hS hF hK
              have f1 : u 1 = .int .i64 q.p.tm := hF 1 (by kernel_rfl)
              simp only [putsFrom, Act.put, Nat.reduceAdd, List.setIfInBounds_toArray, List.set_cons_zero, List.set_cons_succ, f1] at hK ⊢
              clear hF
              go_simp
              exact hK.out _ _ (Alters.refl _) rfl
            · intro u W K hS hF hK
              have f2 : u 2 = .bool false := hF 2 (by kernel_rfl)
              simp only [putsFrom, Act.put, Nat.reduceAdd, List.setIfInBounds_toArray, List.set_cons_zero, List.set_cons_succ, f2] at hK ⊢
              clear hF
              go_simp
              exact hK.out _ _ (Alters.refl _) rfl
            · intro u W K hS hF hK
              have f3 : u 3 = .bool false := hF 3 (by kernel_rfl)
              simp only [putsFrom, Act.put, Nat.reduceAdd, List.setIfInBounds_toArray, List.set_cons_zero, List.set_cons_succ, f3] at hK ⊢
              clear hF
              go_simp
              exact hK.out _ _ (Alters.refl _) rfl
            · intro u W K hS hF hK
              have f3 : u 3 = .bool false := hF 3 (by kernel_rfl)
              have f4 : u 4 = .int .i64 (k : Int) := hF 4 (by kernel_rfl)
              simp only [putsFrom, Act.put, Nat.reduceAdd, List.setIfInBounds_toArray, List.set_cons_zero, List.set_cons_succ, f3, f4] at hK ⊢
              clear hF
              go_simp
              exact hK.out _ _ (Alters.refl _) rfl
            · intro u W K hS hF hK
              have f3 : u 3 = .bool false := hF 3 (by kernel_rfl)
              have f5 : u 5 = .bool true := hF 5 (by kernel_rfl)
              simp only [putsFrom, Act.put, Nat.reduceAdd, List.setIfInBounds_toArray, List.set_cons_zero, List.set_cons_succ, f3, f5] at hK ⊢
              clear hF
              go_simp
              exact hK.out _ _ (Alters.refl _) rfl
            · intro u W K hS hF hK
              have f6 : u 6 = .bool true := hF 6 (by kernel_rfl)
              simp only [putsFrom, Act.put, Nat.reduceAdd, List.setIfInBounds_toArray, List.set_cons_zero, List.set_cons_succ, f6] at hK ⊢
              clear hF
              go_simp
              exact hK.out _ _ (Alters.refl _) rfl
            · intro u W K hS hF hK
              have f6 : u 6 = .bool true := hF 6 (by kernel_rfl)
              have f7 : u 7 = .pointer (some ⟨wr.heap.size, 0, none⟩) := hF 7 (by kernel_rfl)
              simp only [putsFrom, Act.put, Nat.reduceAdd, List.setIfInBounds_toArray, List.set_cons_zero, List.set_cons_succ, f6, f7] at hK ⊢
              clear hF
              have x0 := hS.at (wr.heap.size) (0) (.int .i64 q.p.tm) (by simp)
              go_simp
              exact hK.out _ _ (Alters.refl _) rfl
            · intro u W K hS hF hK
              have f6 : u 6 = .bool true := hF 6 (by kernel_rfl)
              simp only [putsFrom, Act.put, Nat.reduceAdd, List.setIfInBounds_toArray, List.set_cons_zero, List.set_cons_succ, f6] at hK ⊢
              clear hF
              go_simp
              exact hK.out _ _ (Alters.refl _) rfl
            · intro u W K hS hF hK
              have f6 : u 6 = .bool true := hF 6 (by kernel_rfl)
              simp only [putsFrom, Act.put, Nat.reduceAdd, List.setIfInBounds_toArray, List.set_cons_zero, List.set_cons_succ, f6] at hK ⊢
              clear hF
              go_simp
              exact hK.out _ _ (Alters.refl _) rfl
            · intro u W K hS hF hK
              have f6 : u 6 = .bool true := hF 6 (by kernel_rfl)
              have f10 : u 10 = .int .i64 (k : Int) := hF 10 (by kernel_rfl)
              simp only [putsFrom, Act.put, Nat.reduceAdd, List.setIfInBounds_toArray, List.set_cons_zero, List.set_cons_succ, f6, f10] at hK ⊢
              clear hF
              go_simp
              exact hK.out _ _ (Alters.refl _) rfl
            · intro u W K hS hF hK
              have f6 : u 6 = .bool true := hF 6 (by kernel_rfl)
              have f9 : u 9 = .slice (some ⟨b, o, none⟩) L.length cap := hF 9 (by kernel_rfl)
              have f11 : u 11 = .int .i64 (m : Int) := hF 11 (by kernel_rfl)
              simp only [putsFrom, Act.put, Nat.reduceAdd, List.setIfInBounds_toArray, List.set_cons_zero, List.set_cons_succ, f6, f9, f11] at hK ⊢
              clear hF
              go_simp
              exact hK.out _ _ (Alters.refl _) rfl
            · intro u W K hS hF hK
              have f6 : u 6 = .bool true := hF 6 (by kernel_rfl)
              have f12 : u 12 = .pointer (some ⟨b, o + m * 2, none⟩) := hF 12 (by kernel_rfl)
              simp only [putsFrom, Act.put, Nat.reduceAdd, List.setIfInBounds_toArray, List.set_cons_zero, List.set_cons_succ, f6, f12] at hK ⊢
              clear hF
              go_simp
              exact hK.out _ _ (Alters.refl _) rfl
            · intro u W K hS hF hK
              have f6 : u 6 = .bool true := hF 6 (by kernel_rfl)
              have f13 : u 13 = .pointer (some ⟨b, o + m * 2, none⟩) := hF 13 (by kernel_rfl)
              simp only [putsFrom, Act.put, Nat.reduceAdd, List.setIfInBounds_toArray, List.set_cons_zero, List.set_cons_succ, f6, f13] at hK ⊢
              clear hF
              have x0 := hS.at (b) (o + m * 2) (.int .i64 r.p.tm) (by simp)
              go_simp
              exact hK.out _ _ (Alters.refl _) rfl
            · intro u W K hS hF hK
              have f6 : u 6 = .bool true := hF 6 (by kernel_rfl)
              have f8 : u 8 = .int .i64 q.p.tm := hF 8 (by kernel_rfl)
              have f14 : u 14 = .int .i64 r.p.tm := hF 14 (by kernel_rfl)
              simp only [putsFrom, Act.put, Nat.reduceAdd, List.setIfInBounds_toArray, List.set_cons_zero, List.set_cons_succ, f6, f8, f14] at hK ⊢
              clear hF
              go_simp
              exact hK.out _ _ (Alters.refl _) rfl
            · intro u W K hS hF hK
              have f3 : u 3 = .bool false := hF 3 (by kernel_rfl)
              have f6 : u 6 = .bool true := hF 6 (by kernel_rfl)
              have f15 : u 15 = .bool true := hF 15 (by kernel_rfl)
              simp only [putsFrom, Act.put, Nat.reduceAdd, List.setIfInBounds_toArray, List.set_cons_zero, List.set_cons_succ, f3, f6, f15] at hK ⊢
              clear hF
              go_simp
              exact hK.out _ _ (Alters.refl _) rfl
            · intro u W K hS hF hK
              have f3 : u 3 = .bool false := hF 3 (by kernel_rfl)
              have f16 : u 16 = .bool true := hF 16 (by kernel_rfl)
              simp only [putsFrom, Act.put, Nat.reduceAdd, List.setIfInBounds_toArray, List.set_cons_zero, List.set_cons_succ, f3, f16] at hK ⊢
              clear hF
              go_simp
              exact hK.out _ _ (Alters.refl _) rfl
            · intro u W K hS hF hK
              have f17 : u 17 = .bool true := hF 17 (by kernel_rfl)
              simp only [putsFrom, Act.put, Nat.reduceAdd, List.setIfInBounds_toArray, List.set_cons_zero, List.set_cons_succ, f17] at hK ⊢
              clear hF
              go_simp
              exact hK.out _ _ (Alters.refl _) rfl
            · intro u W K hS hF hK
              have f18 : u 18 = .bool true := hF 18 (by kernel_rfl)
              simp only [putsFrom, Act.put, Nat.reduceAdd, List.setIfInBounds_toArray, List.set_cons_zero, List.set_cons_succ, f18] at hK ⊢
              clear hF
              go_simp
              exact hK.out _ _ (Alters.refl _) rfl
            · intro u W K hS hF hK
              have f18 : u 18 = .bool true := hF 18 (by kernel_rfl)
              have f19 : u 19 = undef := hF 19 (by kernel_rfl)
              simp only [putsFrom, Act.put, Nat.reduceAdd, List.setIfInBounds_toArray, List.set_cons_zero, List.set_cons_succ, f18, f19] at hK ⊢
              clear hF
              go_simp
              exact hK.out _ _ (Alters.refl _) rfl
            · intro u W K hS hF hK
              have f18 : u 18 = .bool true := hF 18 (by kernel_rfl)
              have f20 : u 20 = undef := hF 20 (by kernel_rfl)
              simp only [putsFrom, Act.put, Nat.reduceAdd, List.setIfInBounds_toArray, List.set_cons_zero, List.set_cons_succ, f18, f20] at hK ⊢
              clear hF
              go_simp
              exact hK.out _ _ (Alters.refl _) rfl
            · intro u W K hS hF hK
              have f18 : u 18 = .bool true := hF 18 (by kernel_rfl)
              have f21 : u 21 = undef := hF 21 (by kernel_rfl)
              simp only [putsFrom, Act.put, Nat.reduceAdd, List.setIfInBounds_toArray, List.set_cons_zero, List.set_cons_succ, f18, f21] at hK ⊢
              clear hF
              go_simp
              exact hK.out _ _ (Alters.refl _) rfl
            · intro u W hS hF
              have f18 : u 18 = .bool true := hF 18 (by simp)
              have f22 : u 22 = undef := hF 22 (by simp)
              simp only [putsFrom, Act.put, Nat.reduceAdd, List.setIfInBounds_toArray, List.set_cons_zero, List.set_cons_succ, f18, f22]
              clear hF f18 f22
              have HS := Go.Lib.hid hS
              clear hS
              go_simp
              go_wp2_with fail
              go_ret
              exact ⟨by rw [HE.out]; rfl, HS.out.quiet⟩
    · obtain rfl : k = L.length := by omega
      have HE : Hid (wordOk (pts L) = true) := Go.Lib.hid (by rw [← hE, wordAt_end])
      clear hE hQ hT
      go_wp2
      go_ret
      exact ⟨by rw [HE.out]; rfl, HQ.out⟩

end Go.Proofs.YtnpcakakjhiboaaDoor
