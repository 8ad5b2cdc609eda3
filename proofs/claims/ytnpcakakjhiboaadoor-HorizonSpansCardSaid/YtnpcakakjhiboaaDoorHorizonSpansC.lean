/- HorizonSpans: the given card. No condition. -/
import Derived.Test.YtnpcakakjhiboaaDoorHorizonSpans
import Derived.Test.YtnpcakakjhiboaaDoorLawKit
import Derived.Test.YtnpcakakjhiboaaDoorCards
import Derived.Test.YtnpcakakjhiboaaDoorTie
import Derived.SevenTiedAt
namespace Go.Proofs.YtnpcakakjhiboaaDoor
open Go Go.RowKit Go.Lo Go.ChangeShapes Go.WideShapes Go.ChangeAt

set_option maxRecDepth 100000 in
theorem horizonSpans_run {H : Type} {enc : TypeId × Value → H} (W : World) (v0 v1 : Value) (d0 d1 : DataW H) (p0 p1 : List MemPlace)
    (k0 : Value.okWide Tryd.prog W .any 0 25 v0) (h0 : DataW.Trod enc Tryd.prog W 0 (fun _ => true) true 25 v0 d0 p0)
    (k1 : Value.okWide Tryd.prog W .any 0 28 v1) (h1 : DataW.Trod enc Tryd.prog W 0 (fun _ => true) true 28 v1 d1 p1) (hS : Shapes W) :
    Calls Tryd.prog 21 #[v0, v1] W fun e w' => e = .returned (.bool true) ∧ Below W.heap.size W w' := by
  obtain ⟨lo0, hi0, rfl, wl0, wh0⟩ := open_span k0 h0
  obtain ⟨t1, rfl, hi1, hw1⟩ := open_F k1 h1
  exact (horizonSpans_walk lo0 hi0 t1 W wl0 wh0 (hi1.mono (fun _ _ _ => trivial)) hw1 hS).mono fun _ _ h => ⟨h.1, h.2.below (Nat.le_refl _) (by simp)⟩

set_option maxRecDepth 100000 in
theorem horizonSpans_lifted (os : Os) (started : os.Started) (H : Type) (enc : TypeId × Value → H) :
    ReturnsInHanded {} Tryd.checked os 21 .any (fun w args => (Rows.horizonSpansSpec.pre enc Tryd.prog Tryd.f21 [] false w args ∧ laidMetH Tryd.prog laidS w) ∧ sizedMet enc Tryd.prog Tryd.f21 (OpenSpec.ofChange Rows.horizonSpansSpec) false w args)
      (Rows.horizonSpansSpec.post enc Tryd.prog Tryd.f21 false true false false) := by
  refine returnsInHanded_of_change_and (C := Tryd.checked) (X := fun w _ => laidMetH Tryd.prog laidS w) (fun _ _ _ hh h => h.of_heap hh) own started (by kernel_rfl) Tryd.func21
    (ChangeSpec.witness_shaped (enc := enc) (C := Tryd.checked) (os := os) (X := fun w _ => laidMetH Tryd.prog laidS w) false (World.doorLaid Tryd.prog 35 os) #[.agg #[.int .i64 0, .int .i64 0], .agg #[.int .i64 0, .string ⟨#[]⟩, .int .i64 0, .int .i64 0, .int .i64 0, .int .i64 0, .slice none 0 0]] 8 rfl (World.shaped_of_RefB (by kernel_rfl) (by kernel_rfl)) (by kernel_rfl) (by kernel_rfl) (by kernel_rfl) (door_met os _)) ?_
  intro W base args ds gs before hval0 hW _ _ hL _
  have hval : ∀ (j : Nat) t v, Tryd.f21.params[j]? = some t → args[j]? = some v → Value.okWide Tryd.prog W .any base t v := hval0
  have hW' := hW
  obtain ⟨p, q, hA0, hV, rfl, hfz, hnd⟩ := hW
  have hA : DataW.TrodAll enc Tryd.prog W 0 (fun _ => true) true Tryd.f21.params.toList args.toList ds p := hA0
  rw [Tryd.params21] at hA hval
  obtain ⟨v0, vs0, d0, ds0, p0, q0, hargs, rfl, rfl, h0, r0⟩ := trodAll_cons hA
  obtain ⟨v1, vs1, d1, ds1, p1, q1, rfl, rfl, rfl, h1, r1⟩ := trodAll_cons r0
  obtain ⟨rfl, rfl, rfl⟩ := trodAll_nil r1
  obtain rfl : args = #[v0, v1] := by cases args; simp_all
  obtain ⟨rfl, rfl⟩ := trodVars_none hV
  have lt0 : ∀ x ∈ p0, x.block < W.heap.size := by obtain ⟨m, hm⟩ := h0; exact DataW.trod_lt m _ _ _ hm
  have lt1 : ∀ x ∈ p1, x.block < W.heap.size := by obtain ⟨m, hm⟩ := h1; exact DataW.trod_lt m _ _ _ hm
  clear hA0 hval0
  refine (horizonSpans_run W v0 v1 d0 d1 p0 p1 (hval 0 25 v0 rfl rfl) h0 (hval 1 28 v1 rfl rfl) h1 (of_laid hL)).mono fun e W' ⟨he, bel⟩ => ?_
  subst he
  exact ⟨_, rfl, _, _, _, [], _, [], hW', trodAll_mk1 (shut_bool Tryd.underlying4 _), (trodAll_cons_mk (Below.trod laidOut (by kernel_rfl) (of_decide_eq_true (by kernel_rfl)) h0 bel lt0) (trodAll_cons_mk (Below.trod laidOut (by kernel_rfl) (of_decide_eq_true (by kernel_rfl)) h1 bel lt1) trodAll_mk0)), rfl, bel.frame _, fun h => by cases h⟩

set_option maxRecDepth 100000 in
set_option maxHeartbeats 4000000 in
theorem horizonSpans_closed : joinedFacts Tryd.pinned.checked.prog 21 Tryd.f21 Rows.horizonSpansSpec Rows.horizonSpansRow = true := by
  unfold joinedFacts
  repeat' with_reducible apply band
  all_goals first | with_reducible exact may_enter | (rw [lifts_final]; as_aux_lemma => kernel_rfl) | (rw [make_is]; as_aux_lemma => kernel_rfl) | (as_aux_lemma => kernel_rfl)

theorem horizonSpans_named : Tryd.pinned.checked.prog.funcNamed Rows.horizonSpansRow.func = some 21 := by kernel_rfl
theorem horizonSpans_wf : Rows.horizonSpansRow.wfByText (OpenSpec.ofChange Rows.horizonSpansSpec) = true := by kernel_rfl
set_option maxRecDepth 100000 in
theorem horizonSpans_goes : false = Rows.horizonSpansRow.goesBy Tryd.pinned.checked.prog := by kernel_rfl

theorem horizonSpans_holds : Rows.HorizonSpansSaid :=
  OpenClaim.holds_of_wide 21 Tryd.f21 rfl rfl rfl rfl rfl rfl rfl ⟨rfl, rfl, rfl, rfl, rfl⟩ rfl rfl rfl rfl rfl horizonSpans_named Tryd.func21 horizonSpans_closed
    (of_decide_eq_true (by kernel_rfl)) (by unfold Func.isWrapper; first | (rw [if_pos (by decide +kernel)]; kernel_rfl) | (rw [if_neg (by decide +kernel)]; exact ⟨rfl, rfl⟩))
    (fun os started H enc _ => horizonSpans_lifted os started H enc)

/-- The given statement. -/
theorem horizonSpans_card : Rows.HorizonSpansCardSaid :=
  Claim7.holds_tied_plain_at .later [] [.data] true (true, "651ec7f9e81b854d6bfd970204af6a82e2d60a2a5c2c1c5fd84b194759b77512") false
    horizonSpans_holds (fun _ h => by cases h) horizonSpans_wf (fun _ h => by cases h) horizonSpans_row_tie rfl ⟨rfl, rfl⟩ main_is rfl
    (fun f fn hf hfn => by
      obtain rfl : f = 21 := Option.some.inj (horizonSpans_named.symm.trans hf) |>.symm
      obtain rfl : fn = Tryd.f21 := (Option.some.inj (Tryd.func21.symm.trans hfn)).symm
      exact ⟨no_looks, fun j t ht => by
        rw [Tryd.params21] at ht
        have hm : t ∈ ([25, 28] : List TypeId) := by simpa using Array.mem_of_getElem? ht
        have hm2 : t ∈ [3, 5, 25, 28, 45] := (by decide : ∀ x, x ∈ ([25, 28] : List TypeId) → x ∈ [3, 5, 25, 28, 45]) t hm
        exact (show Tryd.prog.wantsStandIn t = false by simpa using List.all_eq_true.1 no_stand t hm2)⟩)
    horizonSpans_goes
#print axioms horizonSpans_card
end Go.Proofs.YtnpcakakjhiboaaDoor
