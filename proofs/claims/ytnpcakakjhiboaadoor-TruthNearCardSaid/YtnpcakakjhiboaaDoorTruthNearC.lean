/- TruthNear: the given card. No condition. -/
import Derived.Test.YtnpcakakjhiboaaDoorTruthNear
import Derived.Test.YtnpcakakjhiboaaDoorWord
import Derived.Test.YtnpcakakjhiboaaDoorLawKit
import Derived.Test.YtnpcakakjhiboaaDoorCards
import Derived.Test.YtnpcakakjhiboaaDoorTie
import Derived.SevenTiedAt
namespace Go.Proofs.YtnpcakakjhiboaaDoor
open Go Go.RowKit Go.Lo Go.ChangeShapes Go.WideShapes Go.ChangeAt

set_option maxRecDepth 100000 in
theorem truthNear_run {H : Type} {enc : TypeId × Value → H} (W : World) (v0 v1 v2 : Value) (d0 d1 d2 : DataW H) (p0 p1 p2 : List MemPlace)
    (k0 : Value.okWide Tryd.prog W .any 0 28 v0) (h0 : DataW.Trod enc Tryd.prog W 0 (fun _ => true) true 28 v0 d0 p0)
    (k1 : Value.okWide Tryd.prog W .any 0 45 v1) (h1 : DataW.Trod enc Tryd.prog W 0 (fun _ => true) true 45 v1 d1 p1)
    (k2 : Value.okWide Tryd.prog W .any 0 5 v2) (h2 : DataW.Trod enc Tryd.prog W 0 (fun _ => true) true 5 v2 d2 p2) (hS : Shapes W) :
    Calls Tryd.prog 13 #[v0, v1, v2] W fun e w' => e = .returned (.bool true) ∧ Below W.heap.size W w' := by
  obtain ⟨t0, rfl, hi0, hw0⟩ := open_F k0 h0
  obtain ⟨a1, c1, L1, rfl, hw1⟩ := open_word k1 h1
  obtain ⟨n2, rfl, wn2⟩ := open_i Tryd.underlying5 k2 h2
  exact (truthNear_walk t0 a1 c1 L1 n2 W (hi0.mono (fun _ _ _ => trivial)) hw0 hw1 (wn2) hS).mono fun _ _ h => ⟨h.1, h.2.below (Nat.le_refl _) (by simp)⟩

set_option maxRecDepth 100000 in
theorem truthNear_lifted (os : Os) (started : os.Started) (H : Type) (enc : TypeId × Value → H) :
    ReturnsInHanded {} Tryd.checked os 13 .any (fun w args => (Rows.truthNearSpec.pre enc Tryd.prog Tryd.f13 [] false w args ∧ laidMetH Tryd.prog laidS w) ∧ sizedMet enc Tryd.prog Tryd.f13 (OpenSpec.ofChange Rows.truthNearSpec) false w args)
      (Rows.truthNearSpec.post enc Tryd.prog Tryd.f13 false true false false) := by
  refine returnsInHanded_of_change_and (C := Tryd.checked) (X := fun w _ => laidMetH Tryd.prog laidS w) (fun _ _ _ hh h => h.of_heap hh) own started (by kernel_rfl) Tryd.func13
    (ChangeSpec.witness_shaped (enc := enc) (C := Tryd.checked) (os := os) (X := fun w _ => laidMetH Tryd.prog laidS w) false (World.doorLaid Tryd.prog 35 os) #[.agg #[.int .i64 0, .string ⟨#[]⟩, .int .i64 0, .int .i64 0, .int .i64 0, .int .i64 0, .slice none 0 0], .slice none 0 0, .int .u8 0] 8 rfl (World.shaped_of_RefB (by kernel_rfl) (by kernel_rfl)) (by kernel_rfl) (by kernel_rfl) (by kernel_rfl) (door_met os _)) ?_
  intro W base args ds gs before hval0 hW _ _ hL _
  have hval : ∀ (j : Nat) t v, Tryd.f13.params[j]? = some t → args[j]? = some v → Value.okWide Tryd.prog W .any base t v := hval0
  have hW' := hW
  obtain ⟨p, q, hA0, hV, rfl, hfz, hnd⟩ := hW
  have hA : DataW.TrodAll enc Tryd.prog W 0 (fun _ => true) true Tryd.f13.params.toList args.toList ds p := hA0
  rw [Tryd.params13] at hA hval
  obtain ⟨v0, vs0, d0, ds0, p0, q0, hargs, rfl, rfl, h0, r0⟩ := trodAll_cons hA
  obtain ⟨v1, vs1, d1, ds1, p1, q1, rfl, rfl, rfl, h1, r1⟩ := trodAll_cons r0
  obtain ⟨v2, vs2, d2, ds2, p2, q2, rfl, rfl, rfl, h2, r2⟩ := trodAll_cons r1
  obtain ⟨rfl, rfl, rfl⟩ := trodAll_nil r2
  obtain rfl : args = #[v0, v1, v2] := by cases args; simp_all
  obtain ⟨rfl, rfl⟩ := trodVars_none hV
  have lt0 : ∀ x ∈ p0, x.block < W.heap.size := by obtain ⟨m, hm⟩ := h0; exact DataW.trod_lt m _ _ _ hm
  have lt1 : ∀ x ∈ p1, x.block < W.heap.size := by obtain ⟨m, hm⟩ := h1; exact DataW.trod_lt m _ _ _ hm
  have lt2 : ∀ x ∈ p2, x.block < W.heap.size := by obtain ⟨m, hm⟩ := h2; exact DataW.trod_lt m _ _ _ hm
  clear hA0 hval0
  refine (truthNear_run W v0 v1 v2 d0 d1 d2 p0 p1 p2 (hval 0 28 v0 rfl rfl) h0 (hval 1 45 v1 rfl rfl) h1 (hval 2 5 v2 rfl rfl) h2 (of_laid hL)).mono fun e W' ⟨he, bel⟩ => ?_
  subst he
  exact ⟨_, rfl, _, _, _, [], _, [], hW', trodAll_mk1 (shut_bool Tryd.underlying4 _), (trodAll_cons_mk (Below.trod laidOut (by kernel_rfl) (of_decide_eq_true (by kernel_rfl)) h0 bel lt0) (trodAll_cons_mk (Below.trod laidOut (by kernel_rfl) (of_decide_eq_true (by kernel_rfl)) h1 bel lt1) (trodAll_cons_mk (Below.trod laidOut (by kernel_rfl) (of_decide_eq_true (by kernel_rfl)) h2 bel lt2) trodAll_mk0))), rfl, bel.frame _, fun h => by cases h⟩

set_option maxRecDepth 100000 in
set_option maxHeartbeats 4000000 in
theorem truthNear_closed : joinedFacts Tryd.pinned.checked.prog 13 Tryd.f13 Rows.truthNearSpec Rows.truthNearRow = true := by
  unfold joinedFacts
  repeat' with_reducible apply band
  all_goals first | with_reducible exact may_enter | (rw [lifts_final]; as_aux_lemma => kernel_rfl) | (rw [make_is]; as_aux_lemma => kernel_rfl) | (as_aux_lemma => kernel_rfl)

theorem truthNear_named : Tryd.pinned.checked.prog.funcNamed Rows.truthNearRow.func = some 13 := by kernel_rfl
theorem truthNear_wf : Rows.truthNearRow.wfByText (OpenSpec.ofChange Rows.truthNearSpec) = true := by kernel_rfl
set_option maxRecDepth 100000 in
theorem truthNear_goes : false = Rows.truthNearRow.goesBy Tryd.pinned.checked.prog := by kernel_rfl

theorem truthNear_holds : Rows.TruthNearSaid :=
  OpenClaim.holds_of_wide 13 Tryd.f13 rfl rfl rfl rfl rfl rfl rfl ⟨rfl, rfl, rfl, rfl, rfl⟩ rfl rfl rfl rfl rfl truthNear_named Tryd.func13 truthNear_closed
    (of_decide_eq_true (by kernel_rfl)) (by unfold Func.isWrapper; first | (rw [if_pos (by decide +kernel)]; kernel_rfl) | (rw [if_neg (by decide +kernel)]; exact ⟨rfl, rfl⟩))
    (fun os started H enc _ => truthNear_lifted os started H enc)

/-- The given statement. -/
theorem truthNear_card : Rows.TruthNearCardSaid :=
  Claim7.holds_tied_plain_at .later [] [.data] true (true, "651ec7f9e81b854d6bfd970204af6a82e2d60a2a5c2c1c5fd84b194759b77512") false
    truthNear_holds (fun _ h => by cases h) truthNear_wf (fun _ h => by cases h) truthNear_row_tie rfl ⟨rfl, rfl⟩ main_is rfl
    (fun f fn hf hfn => by
      obtain rfl : f = 13 := Option.some.inj (truthNear_named.symm.trans hf) |>.symm
      obtain rfl : fn = Tryd.f13 := (Option.some.inj (Tryd.func13.symm.trans hfn)).symm
      exact ⟨no_looks, fun j t ht => by
        rw [Tryd.params13] at ht
        have hm : t ∈ ([28, 45, 5] : List TypeId) := by simpa using Array.mem_of_getElem? ht
        have hm2 : t ∈ [3, 5, 25, 28, 45] := (by decide : ∀ x, x ∈ ([28, 45, 5] : List TypeId) → x ∈ [3, 5, 25, 28, 45]) t hm
        exact (show Tryd.prog.wantsStandIn t = false by simpa using List.all_eq_true.1 no_stand t hm2)⟩)
    truthNear_goes
#print axioms truthNear_card
end Go.Proofs.YtnpcakakjhiboaaDoor
