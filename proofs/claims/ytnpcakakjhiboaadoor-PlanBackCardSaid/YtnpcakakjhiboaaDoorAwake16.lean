/- The law on plans is awake (54): its example holds. No condition. -/
import Derived.Test.YtnpcakakjhiboaaDoorPlan56
import Derived.Test.YtnpcakakjhiboaaDoorClone16
import Derived.Test.YtnpcakakjhiboaaDoorLawAt
namespace Go.Proofs.YtnpcakakjhiboaaDoor
open Go Go.RowKit Go.Lo Go.WideShapes

/-- The document's example. -/
def exP : Fm := exTwo 5 0 0 (exName 97) (exOne 9 0 3 (exTwo 5 0 0 (exName 97) (exName 98)))
theorem snd_name (b : UInt8) (h : isName ⟨#[b]⟩ = true) : sound (exName b) := sound_mk (wrong_name b h) (by simp)
theorem sound_exP : sound exP := sound_two (.inl rfl) (snd_name 97 isName_a) (sound_one9 (sound_two (.inl rfl) (snd_name 97 isName_a) (snd_name 98 isName_b)) (by decide) (by decide))
theorem made_exP : made exP = exP := by kernel_rfl
theorem exP_size : exP.size ≤ 1000 := by simp [exP, exTwo, exOne, exName, Tr.size, Tr.sizeL]
theorem exP_num : allNum exP := by
  have h3 : I64 3 := by unfold I64; omega
  have hn : ∀ b, allNum (exName b) := fun b => allNum_nd.2 ⟨⟨i64_0, i64_0, i64_0⟩, by simp⟩
  exact allNum_nd.2 ⟨⟨i64_0, i64_0, i64_0⟩, by
    simp only [List.mem_cons, List.not_mem_nil, or_false, forall_eq_or_imp, forall_eq]
    exact ⟨hn 97, allNum_nd.2 ⟨⟨i64_0, i64_0, h3⟩, by
      simp only [List.mem_cons, List.not_mem_nil, or_false, forall_eq]
      exact allNum_nd.2 ⟨⟨i64_0, i64_0, i64_0⟩, by
        simp only [List.mem_cons, List.not_mem_nil, or_false, forall_eq_or_imp, forall_eq]
        exact ⟨hn 97, hn 98⟩⟩⟩⟩⟩
def exS : List Stp := [⟨{ z0 with op := 3, nm := ⟨#[97]⟩ }, -1, -1⟩, ⟨{ z0 with op := 3, nm := ⟨#[98]⟩ }, -1, -1⟩, ⟨{ z0 with op := 5 }, 0, 1⟩, ⟨{ z0 with op := 9, hi := 3 }, 2, -1⟩, ⟨{ z0 with op := 5 }, 0, 3⟩]
theorem plan_exP : planOf exP = exS := by
  unfold planOf
  rw [if_pos ((first_zero _).2 sound_exP), normOf_sound sound_exP, made_exP]
  kernel_rfl

set_option maxRecDepth 100000 in
set_option maxHeartbeats 4000000 in
theorem awake16_walk (w : World) (hS : Shapes w) : Calls Tryd.prog 54 #[] w (Said (.bool true) w) := by
  have HL := Go.Lib.hid ((LawAt.zero w hS).span 0 0)
  have HPOS := Go.Lib.hid hS.lt
  clear hS
  go_enter Tryd.func54, Tryd.ntmps54
  go_upto_region 2 with (fail)
  generalize w.alloc _ = w1 at *
  refine wp_region_wants (by kernel_rfl) (by kernel_rfl) (by kernel_rfl) (by kernel_rfl) (LawAt w [] [(w.heap.size, 0, 0)]) (fun _ _ hq h => h.keep hq) [Want.is (.agg #[.int .i64 (0), .int .i64 (0)]), Want.fm AllD (exName 97), Want.is (.agg #[.int .i64 0, .int .i64 3]), Want.is (.agg #[.int .i64 (0), .int .i64 (0)]), Want.fm AllD (exName 97), Want.fm AllD (exName 98), Want.fm AllD (exTwo 5 0 0 (exName 97) (exName 98)), Want.fm AllD (exOne 9 0 3 (exTwo 5 0 0 (exName 97) (exName 98))), Want.fm AllD exP, Want.box w.heap.size #[.int .i64 0, .string ⟨#[]⟩, .int .i64 0, .int .i64 0, .int .i64 0, .int .i64 0, .slice none 0 0] 28] (HL.out.keep ((Alters.refl _).drew)) (by decide) ?_
  refine Steps.cons ?_ (Steps.cons ?_ (Steps.cons ?_ (Steps.cons ?_ (Steps.cons ?_ (Steps.cons ?_ (Steps.cons ?_ (Steps.cons ?_ (Steps.cons ?_ (Steps.cons ?_ (Steps.last ?_))))))))))
  · intro u W K hS hF hK
    simp only [putsFrom, Act.put, Nat.reduceAdd, List.setIfInBounds_toArray, List.set_cons_zero, List.set_cons_succ] at hK ⊢
    clear hF
    obtain ⟨x0, x1⟩ := hS.two (w.heap.size) (0) (0) (by simp)
    go_simp
    exact hK.out _ _ (Alters.refl _) rfl
  · intro u W K hS hF hK
    simp only [putsFrom, Act.put, Nat.reduceAdd, List.setIfInBounds_toArray, List.set_cons_zero, List.set_cons_succ] at hK ⊢
    clear hF
    go_simp
    refine (name_v16 AllD ⟨#[97]⟩ W).mono ?_
    rintro e W2 ⟨v, rfl, hm, hq⟩
    exact hK.out _ _ hq hm
  · intro u W K hS hF hK
    simp only [putsFrom, Act.put, Nat.reduceAdd, List.setIfInBounds_toArray, List.set_cons_zero, List.set_cons_succ] at hK ⊢
    clear hF
    go_simp
    exact hK.out _ _ (Alters.refl _) rfl
  · intro u W K hS hF hK
    simp only [putsFrom, Act.put, Nat.reduceAdd, List.setIfInBounds_toArray, List.set_cons_zero, List.set_cons_succ] at hK ⊢
    clear hF
    obtain ⟨x0, x1⟩ := hS.two (w.heap.size) (0) (0) (by simp)
    go_simp
    exact hK.out _ _ (Alters.refl _) rfl
  · intro u W K hS hF hK
    simp only [putsFrom, Act.put, Nat.reduceAdd, List.setIfInBounds_toArray, List.set_cons_zero, List.set_cons_succ] at hK ⊢
    clear hF
    go_simp
    refine (name_v16 AllD ⟨#[97]⟩ W).mono ?_
    rintro e W2 ⟨v, rfl, hm, hq⟩
    exact hK.out _ _ hq hm
  · intro u W K hS hF hK
    simp only [putsFrom, Act.put, Nat.reduceAdd, List.setIfInBounds_toArray, List.set_cons_zero, List.set_cons_succ] at hK ⊢
    clear hF
    go_simp
    refine (name_v16 AllD ⟨#[98]⟩ W).mono ?_
    rintro e W2 ⟨v, rfl, hm, hq⟩
    exact hK.out _ _ hq hm
  · intro u W K hS hF hK
    have f3 : u 3 = .agg #[.int .i64 (0), .int .i64 (0)] := hF 3 (by kernel_rfl)
    have f4 : MadeIn AllD (exName 97) (u 4) W := hF 4 (by kernel_rfl)
    have f5 : MadeIn AllD (exName 98) (u 5) W := hF 5 (by kernel_rfl)
    simp only [putsFrom, Act.put, Nat.reduceAdd, List.setIfInBounds_toArray, List.set_cons_zero, List.set_cons_succ, f3] at hK ⊢
    clear hF
    go_simp
    refine (two_v16 (D := AllD) (f := exName 97) (g := exName 98) 5 0 0 allD f4 f5).mono ?_
    rintro e W2 ⟨v, rfl, hm, hq⟩
    exact hK.out _ _ hq hm
  · intro u W K hS hF hK
    have f2 : u 2 = .agg #[.int .i64 0, .int .i64 3] := hF 2 (by kernel_rfl)
    have f6 : MadeIn AllD (exTwo 5 0 0 (exName 97) (exName 98)) (u 6) W := hF 6 (by kernel_rfl)
    simp only [putsFrom, Act.put, Nat.reduceAdd, List.setIfInBounds_toArray, List.set_cons_zero, List.set_cons_succ, f2] at hK ⊢
    clear hF
    go_simp
    refine (one_v16 (D := AllD) (f := exTwo 5 0 0 (exName 97) (exName 98)) 9 0 3 allD f6).mono ?_
    rintro e W2 ⟨v, rfl, hm, hq⟩
    exact hK.out _ _ hq hm
  · intro u W K hS hF hK
    have f0 : u 0 = .agg #[.int .i64 (0), .int .i64 (0)] := hF 0 (by kernel_rfl)
    have f1 : MadeIn AllD (exName 97) (u 1) W := hF 1 (by kernel_rfl)
    have f7 : MadeIn AllD (exOne 9 0 3 (exTwo 5 0 0 (exName 97) (exName 98))) (u 7) W := hF 7 (by kernel_rfl)
    simp only [putsFrom, Act.put, Nat.reduceAdd, List.setIfInBounds_toArray, List.set_cons_zero, List.set_cons_succ, f0] at hK ⊢
    clear hF
    go_simp
    refine (two_v16 (D := AllD) (f := exName 97) (g := exOne 9 0 3 (exTwo 5 0 0 (exName 97) (exName 98))) 5 0 0 allD f1 f7).mono ?_
    rintro e W2 ⟨v, rfl, hm, hq⟩
    exact hK.out _ _ hq hm
  · intro u W K hS hF hK
    simp only [putsFrom, Act.put, Nat.reduceAdd, List.setIfInBounds_toArray, List.set_cons_zero, List.set_cons_succ] at hK ⊢
    clear hF
    go_simp
    exact hK.out _ _ ((Alters.refl _).alloc _) ⟨_, rfl, hS.quiet.size, Blk.new _ _ _⟩
  · intro u W hS hF
    have f8 : MadeIn AllD exP (u 8) W := hF 8 (by simp)
    have f9 : ∃ b, u 9 = .pointer (some ⟨b, 0, none⟩) ∧ w.heap.size ≤ b ∧ Blk W b #[.int .i64 0, .string ⟨#[]⟩, .int .i64 0, .int .i64 0, .int .i64 0, .int .i64 0, .slice none 0 0] 28 := hF 9 (by simp)
    simp only [putsFrom, Act.put, Nat.reduceAdd, List.setIfInBounds_toArray, List.set_cons_zero, List.set_cons_succ]
    clear hF 
    have HS := Go.Lib.hid hS
    clear hS
    obtain ⟨t2, e9, hp, hi9⟩ := f8
    obtain ⟨bt, eb9, hb0, hb9⟩ := f9
    simp only [e9, eb9]
    clear e9 eb9
    unfold Ft.val
    obtain ⟨r0, r1, r2, r3, r4, r5, r6⟩ := seven_cells hb9
    have fr := fun i => hb9.free i
    have hst := HS.out.store HPOS.out hb0 hb9 hi9 (ops_of hp sound_exP) (by simp)
    have HP2 : Hid (Ft.pl t2 = exP) := hp
    clear HL
    have HL := Go.Lib.hid hst
    clear hst HS hi9 hp
    go_simp
    clear r0 r1 r2 r3 r4 r5 r6 fr hb0 hb9
    generalize World.setCell _ ⟨bt, 6, none⟩ _ = w2 at *
    obtain ⟨x0, x1, x2, x3, x4, x5, x6⟩ := HL.out.seven bt 28 t2 (by simp)
    have HC := Go.Lib.hid (plan56_walk t2 w2 (HL.out.inn bt 28 t2 (by simp)) HL.out.shapes (by rw [size_of HP2.out]; exact exP_size) (by rw [HP2.out]; exact exP_num))
    rw [HP2.out, plan_exP] at HC
    unfold Ft.val at HC
    go_wp2_with fail
    refine HC.out.mono ?_
    rintro e w3 ⟨v, rfl, hrow, hq⟩
    clear x0 x1 x2 x3 x4 x5 x6 HC
    replace HL := Go.Lib.hid (HL.out.keep hq)
    clear hq
    have hrow5 : w3.ownsRow w2.heap.size 70 8 v (4 + 1) (exS.flatMap Stp.cells) := hrow
    obtain ⟨g, c, rfl⟩ := ownsRow_succ hrow5
    clear hrow5
    have c1 := hrow.cells (g := g) rfl 1 (.string ⟨#[97]⟩) rfl
    have c6 := hrow.cells (g := g) rfl 6 (.int .i64 (-1)) rfl
    have c16 := hrow.cells (g := g) rfl 16 (.int .i64 5) rfl
    have c22 := hrow.cells (g := g) rfl 22 (.int .i64 0) rfl
    have c23 := hrow.cells (g := g) rfl 23 (.int .i64 1) rfl
    have c30 := hrow.cells (g := g) rfl 30 (.int .i64 2) rfl
    have c31 := hrow.cells (g := g) rfl 31 (.int .i64 (-1)) rfl
    have c38 := hrow.cells (g := g) rfl 38 (.int .i64 0) rfl
    have c39 := hrow.cells (g := g) rfl 39 (.int .i64 3) rfl
    simp only [add_plain, Nat.zero_add] at c1 c6 c16 c22 c23 c30 c31 c38 c39
    clear hrow
    go_wp2_with fail
    go_ret
    exact ⟨rfl, HL.out.quiet⟩
end Go.Proofs.YtnpcakakjhiboaaDoor
