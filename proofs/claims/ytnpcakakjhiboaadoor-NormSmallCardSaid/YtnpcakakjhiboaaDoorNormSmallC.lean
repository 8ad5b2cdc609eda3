/- NormSmall: the given card. No condition. -/
import Derived.Test.YtnpcakakjhiboaaDoorNormSmall
import Derived.Test.YtnpcakakjhiboaaDoorLawKit
import Derived.Test.YtnpcakakjhiboaaDoorCards
import Derived.Test.YtnpcakakjhiboaaDoorTie
import Derived.SevenTiedAt
namespace Go.Proofs.YtnpcakakjhiboaaDoor
open Go Go.RowKit Go.Lo Go.ChangeShapes Go.WideShapes Go.ChangeAt

set_option maxRecDepth 100000 in
theorem normSmall_run {H : Type} {enc : TypeId × Value → H} (W : World) (v0 : Value) (d0 : DataW H) (p0 : List MemPlace)
    (k0 : Value.okWide Tryd.prog W .any 0 28 v0) (h0 : DataW.Trod enc Tryd.prog W 0 (fun _ => true) true 28 v0 d0 p0) (hS : Shapes W) :
    Calls Tryd.prog 7 #[v0] W fun e w' => e = .returned (.bool true) ∧ Below W.heap.size W w' := by
  obtain ⟨t0, rfl, hi0, hw0⟩ := open_F k0 h0
  exact (normSmall_walk t0 W (hi0.mono (fun _ _ _ => trivial)) hw0 hS).mono fun _ _ h => ⟨h.1, h.2.below (Nat.le_refl _) (by simp)⟩

set_option maxRecDepth 100000 in
theorem normSmall_lifted (os : Os) (started : os.Started) (H : Type) (enc : TypeId × Value → H) :
    ReturnsInHanded {} Tryd.checked os 7 .any (fun w args => (Rows.normSmallSpec.pre enc Tryd.prog Tryd.f7 [] false w args ∧ laidMetH Tryd.prog laidS w) ∧ sizedMet enc Tryd.prog Tryd.f7 (OpenSpec.ofChange Rows.normSmallSpec) false w args)
      (Rows.normSmallSpec.post enc Tryd.prog Tryd.f7 false true false false) := by
  refine returnsInHanded_of_change_and (C := Tryd.checked) (X := fun w _ => laidMetH Tryd.prog laidS w) (fun _ _ _ hh h => h.of_heap hh) own started (by kernel_rfl) Tryd.func7
    (ChangeSpec.witness_shaped (enc := enc) (C := Tryd.checked) (os := os) (X := fun w _ => laidMetH Tryd.prog laidS w) false (World.doorLaid Tryd.prog 35 os) #[.agg #[.int .i64 0, .string ⟨#[]⟩, .int .i64 0, .int .i64 0, .int .i64 0, .int .i64 0, .slice none 0 0]] 8 rfl (World.shaped_of_RefB (by kernel_rfl) (by kernel_rfl)) (by kernel_rfl) (by kernel_rfl) (by kernel_rfl) (door_met os _)) ?_
  intro W base args ds gs before hval0 hW _ _ hL _
  have hval : ∀ (j : Nat) t v, Tryd.f7.params[j]? = some t → args[j]? = some v → Value.okWide Tryd.prog W .any base t v := hval0
  have hW' := hW
  obtain ⟨p, q, hA0, hV, rfl, hfz, hnd⟩ := hW
  have hA : DataW.TrodAll enc Tryd.prog W 0 (fun _ => true) true Tryd.f7.params.toList args.toList ds p := hA0
  rw [Tryd.params7] at hA hval
  obtain ⟨v0, vs0, d0, ds0, p0, q0, hargs, rfl, rfl, h0, r0⟩ := trodAll_cons hA
  obtain ⟨rfl, rfl, rfl⟩ := trodAll_nil r0
  obtain rfl : args = #[v0] := by cases args; simp_all
  obtain ⟨rfl, rfl⟩ := trodVars_none hV
  have lt0 : ∀ x ∈ p0, x.block < W.heap.size := by obtain ⟨m, hm⟩ := h0; exact DataW.trod_lt m _ _ _ hm
  clear hA0 hval0
  refine (normSmall_run W v0 d0 p0 (hval 0 28 v0 rfl rfl) h0 (of_laid hL)).mono fun e W' ⟨he, bel⟩ => ?_
  subst he
  exact ⟨_, rfl, _, _, _, [], _, [], hW', trodAll_mk1 (shut_bool Tryd.underlying4 _), (trodAll_cons_mk (Below.trod laidOut (by kernel_rfl) (of_decide_eq_true (by kernel_rfl)) h0 bel lt0) trodAll_mk0), rfl, bel.frame _, fun h => by cases h⟩

set_option maxRecDepth 100000 in
set_option maxHeartbeats 4000000 in
theorem normSmall_closed : joinedFacts Tryd.pinned.checked.prog 7 Tryd.f7 Rows.normSmallSpec Rows.normSmallRow = true := by
  unfold joinedFacts
  repeat' with_reducible apply band
  all_goals first | with_reducible exact may_enter | (rw [lifts_final]; as_aux_lemma => kernel_rfl) | (rw [make_is]; as_aux_lemma => kernel_rfl) | (as_aux_lemma => kernel_rfl)

theorem normSmall_named : Tryd.pinned.checked.prog.funcNamed Rows.normSmallRow.func = some 7 := by kernel_rfl
theorem normSmall_wf : Rows.normSmallRow.wfByText (OpenSpec.ofChange Rows.normSmallSpec) = true := by kernel_rfl
set_option maxRecDepth 100000 in
theorem normSmall_goes : false = Rows.normSmallRow.goesBy Tryd.pinned.checked.prog := by kernel_rfl

theorem normSmall_holds : Rows.NormSmallSaid :=
  OpenClaim.holds_of_wide 7 Tryd.f7 rfl rfl rfl rfl rfl rfl rfl ⟨rfl, rfl, rfl, rfl, rfl⟩ rfl rfl rfl rfl rfl normSmall_named Tryd.func7 normSmall_closed
    (of_decide_eq_true (by kernel_rfl)) (by unfold Func.isWrapper; first | (rw [if_pos (by decide +kernel)]; kernel_rfl) | (rw [if_neg (by decide +kernel)]; exact ⟨rfl, rfl⟩))
    (fun os started H enc _ => normSmall_lifted os started H enc)

/-- The given statement. -/
theorem normSmall_card : Rows.NormSmallCardSaid :=
  Claim7.holds_tied_plain_at .later [] [.data] true (true, "651ec7f9e81b854d6bfd970204af6a82e2d60a2a5c2c1c5fd84b194759b77512") false
    normSmall_holds (fun _ h => by cases h) normSmall_wf (fun _ h => by cases h) normSmall_row_tie rfl ⟨rfl, rfl⟩ main_is rfl
    (fun f fn hf hfn => by
      obtain rfl : f = 7 := Option.some.inj (normSmall_named.symm.trans hf) |>.symm
      obtain rfl : fn = Tryd.f7 := (Option.some.inj (Tryd.func7.symm.trans hfn)).symm
      exact ⟨no_looks, fun j t ht => by
        rw [Tryd.params7] at ht
        have hm : t ∈ ([28] : List TypeId) := by simpa using Array.mem_of_getElem? ht
        have hm2 : t ∈ [3, 5, 25, 28, 45] := (by decide : ∀ x, x ∈ ([28] : List TypeId) → x ∈ [3, 5, 25, 28, 45]) t hm
        exact (show Tryd.prog.wantsStandIn t = false by simpa using List.all_eq_true.1 no_stand t hm2)⟩)
    normSmall_goes
#print axioms normSmall_card
end Go.Proofs.YtnpcakakjhiboaaDoor
