/- The walk of Next: the visits go on till a source is served. No condition. -/
import Derived.Test.YtoebhifnfomkhaaWalk
namespace Go.Proofs.Ytoebhifnfomkhaa
open Go.RowKit Go.Lo

/-- How it stands at the label. -/
def AtVisit (bd bg bl : Nat) (z : Nat → Int) (d0 : D) (w0 : World) (d : D) (w : World) : Prop :=
  IsDrr w bd bg bl d ∧ d.Ok ∧ d.n = d0.n ∧ (∀ d' k, Runs z d d' k → Runs z d0 d' k) ∧ Alters (fun k => k = bd ∨ k = bl) w0 w

def Served (bd bg bl : Nat) (z : Nat → Int) (d0 : D) (w0 : World) (e : Ending) (w : World) : Prop :=
  ∃ (d' : D) (k : Nat), Runs z d0 d' k ∧ e = .returned (.int .i64 k) ∧ IsDrr w bd bg bl d' ∧ Alters (fun k => k = bd ∨ k = bl) w0 w

theorem IsDrr.store {w : World} {bd bg bl : Nat} {d : D} (h : IsDrr w bd bg bl d) (v : Int) : IsDrr (w.setCell ⟨bl, d.p, none⟩ (.int .i64 v)) bd bg bl ⟨d.n, d.g, put d.f d.p v, d.p, d.b⟩ :=
  ⟨h.own.set_other h.ld.symm _, h.gain.set_other h.gl _, by have := h.left.set d.p (.int .i64 v); rw [ints_put] at this; exact this, h.gd, h.ld, h.gl⟩

theorem IsDrr.begin {w : World} {bd bg bl : Nat} {d : D} (h : IsDrr w bd bg bl d) : IsDrr (w.setCell ⟨bd, 3, none⟩ (.bool true)) bd bg bl ⟨d.n, d.g, d.f, d.p, true⟩ :=
  ⟨h.own.set 3 _, h.gain.set_other h.gd _, h.left.set_other h.ld _, h.gd, h.ld, h.gl⟩

set_option maxRecDepth 100000 in
set_option maxHeartbeats 4000000 in
theorem next_walk (bd bg bl bc oc cap j : Nat) (z : Nat → Int) (d0 : D) (w : World) (h : IsDrr w bd bg bl d0) (ok : d0.Ok) (hj : j < d0.n) (hz : 0 < z j)
    (hc : ∀ i, i < d0.n → w.cell? ⟨bc, oc + i, none⟩ = some (.int .i64 (z i))) (n1 : bc ≠ bd) (n2 : bc ≠ bl) (n3 : bc < w.heap.size) :
    Calls Try.prog 11 #[.pointer (some ⟨bd, 0, none⟩), .slice (some ⟨bc, oc, none⟩) d0.n cap] w (Served bd bg bl z d0 w) := by
  obtain ⟨h0, -, -, -⟩ := h.cells
  have HI := Go.Lib.hid h
  have HC := Go.Lib.hid hc
  have n8 := ok.n8
  have HO := Go.Lib.hid ok
  have hW := waits_walk (some ⟨bc, oc, none⟩) d0.n cap z w (by unfold maxLen; omega) (fun _ => ⟨bc, oc, rfl, n3, hc⟩)
  have HW := Go.Lib.hid hW
  clear h hc ok hW
  go_enter Try.func11, Try.ntmps11
  go_wp2
  refine wp_scope_ghost 0 (fun d a' w' => AtVisit bd bg bl z d0 w d w' ∧ ∃ u : Nat → Value, a' = { tmps := #[.pointer (some ⟨bd, 0, none⟩), .slice (some ⟨bc, oc, none⟩) d0.n cap, undef, undef, .int .i64 0, u 5, u 6, u 7, u 8, u 9, u 10, u 11, u 12, u 13, u 14, u 15, u 16, u 17, u 18, u 19, u 20, u 21, u 22, u 23, u 24, u 25, u 26, u 27, u 28, u 29, u 30, u 31, u 32, u 33, u 34, u 35, u 36, u 37, u 38, u 39, u 40, u 41, u 42, u 43, u 44, u 45, u 46, u 47, u 48, u 49, u 50, u 51, u 52, u 53, u 54, u 55, u 56, u 57, u 58, u 59, u 60, u 61, u 62, u 63, u 64, u 65, u 66, u 67, u 68, u 69, u 70, u 71, u 72, u 73, u 74, u 75, u 76, u 77, u 78, u 79, u 80, u 81, u 82, u 83, u 84, u 85, u 86, u 87, u 88, u 89, u 90, u 91, u 92, u 93, u 94, u 95, u 96, u 97, u 98, u 99, u 100, u 101, u 102, u 103, u 104], defers := [] }) (left j) rfl ?_ ?_
  · intro hpass
    have HP := Go.Lib.hid hpass
    clear hpass
    go_wp2_with (go_at_call 16; refine HW.out.mono ?_; rintro e w' ⟨⟨hx, rfl⟩ | ⟨hx, rfl⟩, rfl⟩)
    · go_step3
      rename_i hK
      refine hK _ _ (HP.out d0 _ _ ⟨⟨HI.out, HO.out, rfl, fun _ _ h => h, Alters.refl _⟩, ?_⟩)
      exact ⟨fun i => List.getD [undef, undef, undef, undef, undef, _, _, _, _, _, _, _, _, _, _, _, _, _, _, _, _, _, _, _, _, _, _, _, _, _, _, _, _, _, _, _, _, _, _, _, _, _, _, _, _, _, _, _, _, _, _, _, _, _, _, _, _, _, _, _, _, _, _, _, _, _, _, _, _, _, _, _, _, _, _, _, _, _, _, _, _, _, _, _, _, _, _, _, _, _, _, _, _, _, _, _, _, _, _, _, _, _, _, _, _] i undef, rfl⟩
    · exact absurd (hx j hj) (by omega)
  · rintro d a' w' ⟨⟨hI, ok, e1, hR, hA⟩, u, rfl⟩
    obtain ⟨h0, h1, h2, h3⟩ := hI.cells
    obtain ⟨n, g, f, p, b⟩ := d
    simp only at h0 h1 h2 h3 e1
    subst e1
    have p1 := ok.p1
    simp only at p1
    have hz' := (hA.cell (HC.out p p1) (by simp [n1, n2]))
    have HP := Go.Lib.hid ok
    have HA := Go.Lib.hid hA
    have HR := Go.Lib.hid hR
    have HJ := Go.Lib.hid hI
    clear ok hA hR hI
    have fl := fun i => HJ.out.left.free i
    have fd := fun i => HJ.out.own.free i
    have hcl : w'.cell? ⟨bl, p, none⟩ = some (.int .i64 (f p)) := HJ.out.left.cell p (ints_at _ _ _ p1)
    have hcg : w'.cell? ⟨bg, p, none⟩ = some (.int .i64 (g p)) := HJ.out.gain.cell p (ints_at _ _ _ p1)
    have g1 : 1 ≤ g p := HP.out.g1 p p1
    have g2 : g p ≤ 1024 := HP.out.g2 p p1
    have f0 : 0 ≤ f p := HP.out.f0 p p1
    have f1 : f p ≤ 2000 := by have h9 : f p ≤ 63 + (if p = p ∧ b = true then g p else 0) := HP.out.f1 p p1; split at h9 <;> omega
    by_cases hx : z p ≤ 0
    · have hne : p ≠ j := fun e => by subst e; omega
      have hc0 : Hid (cl (z p) ≤ 0) := by show cl (z p) ≤ 0; unfold cl; split <;> omega
      go_wp2
      go_region
      go_wp2_with fail
      refine (pass_walk bd bg bl ⟨d0.n, g, put f p 0, p, b⟩ _ (HJ.out.store 0).drew HP.out.zero).mono ?_
      rintro e w3 ⟨rfl, hI', hA'⟩
      go_wp2_with fail
      go_step3
      refine ⟨rfl, _, ⟨⟨hI', HP.out.skipped, rfl, fun d' k h => HR.out d' k (Runs.skip _ _ _ hc0.out h), (HA.out.trans (((Alters.refl _).set (by simp) _).drew)).trans (hA'.mono (by intro k _ e; exact .inl e))⟩, ?_⟩, left_skip j _ HP.out hj hne⟩
      exact ⟨fun i => List.getD [undef, undef, undef, undef, undef, _, _, _, _, _, _, _, _, _, _, _, _, _, _, _, _, _, _, _, _, _, _, _, _, _, _, _, _, _, _, _, _, _, _, _, _, _, _, _, _, _, _, _, _, _, _, _, _, _, _, _, _, _, _, _, _, _, _, _, _, _, _, _, _, _, _, _, _, _, _, _, _, _, _, _, _, _, _, _, _, _, _, _, _, _, _, _, _, _, _, _, _, _, _, _, _, _, _, _, _] i undef, rfl⟩
    · have hx' : 0 < z p := by omega
      have ne1 : ¬ bl = bd := HJ.out.ld
      have ne2 : ¬ bd = bl := fun e => ne1 e.symm
      have ne3 : ¬ bg = bd := HJ.out.gd
      have ne4 : ¬ bg = bl := HJ.out.gl
      rcases Int.lt_or_le 64 (z p) with h64 | h64
      rotate_left
      · have hcc : cl (z p) = z p := by unfold cl; split <;> omega
        have hc0 : Hid (0 < cl (z p)) := by show 0 < cl (z p); rw [hcc]; omega
        have HCC := Go.Lib.hid hcc
        clear hcc
        cases b
        · have HS : Hid (D.start ⟨d0.n, g, f, p, false⟩ = ⟨d0.n, g, put f p (f p + g p), p, true⟩) := by show _ = _; simp [D.start]
          by_cases hw : f p + g p < z p
          · have hc2 : Hid (put f p (f p + g p) p < cl (z p)) := by show _ < cl (z p); rw [HCC.out]; simp only [put_same]; exact hw
            go_wp2
            go_region
            go_wp2
            go_quiet (fail)
            go_wp2_with fail
            refine (pass_walk bd bg bl ⟨d0.n, g, put f p (f p + g p), p, true⟩ _ (by exact (HJ.out.begin.store (f p + g p)).drewN _) (HS.out ▸ HP.out.start)).mono ?_
            rintro e w3 ⟨rfl, hI', hA'⟩
            go_wp2_with fail
            go_step3
            have hst := HS.out
            refine ⟨rfl, D.pass ⟨d0.n, g, put f p (f p + g p), p, true⟩, ⟨⟨hI', ?_, rfl, fun d' k h => HR.out d' k (Runs.wait _ _ _ hc0.out ?_ (by rw [hst]; exact h)), (((HA.out.set (q := ⟨bd, 3, none⟩) (by simp) _).set (q := ⟨bl, p, none⟩) (by simp) _).drewN _).trans (hA'.mono (by intro k _ e; exact .inl e))⟩, ?_⟩, ?_⟩
            · rw [← hst]; exact HP.out.waited (c := z) (by rw [hst]; exact hc2.out)
            · rw [hst]; exact hc2.out
            · exact ⟨fun i => List.getD [undef, undef, undef, undef, undef, _, _, _, _, _, _, _, _, _, _, _, _, _, _, _, _, _, _, _, _, _, _, _, _, _, _, _, _, _, _, _, _, _, _, _, _, _, _, _, _, _, _, _, _, _, _, _, _, _, _, _, _, _, _, _, _, _, _, _, _, _, _, _, _, _, _, _, _, _, _, _, _, _, _, _, _, _, _, _, _, _, _, _, _, _, _, _, _, _, _, _, _, _, _, _, _, _, _, _, _] i undef, rfl⟩
            · rw [← hst]; exact left_wait j _ HP.out hj (by rw [hst]; exact Int.lt_of_lt_of_le hc2.out (cl_le _))
          · have hc2 : Hid (cl (z p) ≤ put f p (f p + g p) p) := by show cl (z p) ≤ _; rw [HCC.out]; simp only [put_same]; omega
            go_wp2
            go_region
            go_wp2
            go_quiet (fail)
            go_wp2
            go_region
            go_wp2
            simp only [Exit.jump]
            go_ret
            have hst := HS.out
            have hrun := Runs.serve (c := z) ⟨d0.n, g, f, p, false⟩ hc0.out (by rw [hst]; exact hc2.out)
            rw [hst] at hrun
            refine ⟨_, p, HR.out _ _ hrun, rfl, ?_, ?_⟩
            · show IsDrr _ bd bg bl ⟨d0.n, g, put (put f p (f p + g p)) p (put f p (f p + g p) p - cl (z p)), p, true⟩
              rw [HCC.out, put_same]
              exact (((HJ.out.begin.store (f p + g p))).store (f p + g p - z p)).drewN _
            · exact (((HA.out.set (q := ⟨bd, 3, none⟩) (by simp) _).set (q := ⟨bl, p, none⟩) (by simp) _).set (q := ⟨bl, p, none⟩) (by simp) _).drewN _
        · have HS : Hid (D.start ⟨d0.n, g, f, p, true⟩ = ⟨d0.n, g, f, p, true⟩) := by show _ = _; simp [D.start]
          by_cases hw : f p < z p
          · have hc2 : Hid (f p < cl (z p)) := by show _ < cl (z p); rw [HCC.out]; exact hw
            go_wp2
            go_quiet (fail)
            go_wp2_with fail
            refine (pass_walk bd bg bl ⟨d0.n, g, f, p, true⟩ _ (by exact HJ.out.drewN _) (HS.out ▸ HP.out.start)).mono ?_
            rintro e w3 ⟨rfl, hI', hA'⟩
            go_wp2_with fail
            go_step3
            have hst := HS.out
            refine ⟨rfl, D.pass ⟨d0.n, g, f, p, true⟩, ⟨⟨hI', ?_, rfl, fun d' k h => HR.out d' k (Runs.wait _ _ _ hc0.out ?_ (by rw [hst]; exact h)), (HA.out.drewN _).trans (hA'.mono (by intro k _ e; exact .inl e))⟩, ?_⟩, ?_⟩
            · rw [← hst]; exact HP.out.waited (c := z) (by rw [hst]; exact hc2.out)
            · rw [hst]; exact hc2.out
            · exact ⟨fun i => List.getD [undef, undef, undef, undef, undef, _, _, _, _, _, _, _, _, _, _, _, _, _, _, _, _, _, _, _, _, _, _, _, _, _, _, _, _, _, _, _, _, _, _, _, _, _, _, _, _, _, _, _, _, _, _, _, _, _, _, _, _, _, _, _, _, _, _, _, _, _, _, _, _, _, _, _, _, _, _, _, _, _, _, _, _, _, _, _, _, _, _, _, _, _, _, _, _, _, _, _, _, _, _, _, _, _, _, _, _] i undef, rfl⟩
            · rw [← hst]; exact left_wait j _ HP.out hj (by rw [hst]; exact Int.lt_of_lt_of_le hc2.out (cl_le _))
          · have hc2 : Hid (cl (z p) ≤ f p) := by show cl (z p) ≤ _; rw [HCC.out]; omega
            go_wp2
            go_quiet (fail)
            go_wp2
            go_region
            go_wp2
            simp only [Exit.jump]
            go_ret
            have hst := HS.out
            have hrun := Runs.serve (c := z) ⟨d0.n, g, f, p, true⟩ hc0.out (by rw [hst]; exact hc2.out)
            rw [hst] at hrun
            refine ⟨_, p, HR.out _ _ hrun, rfl, ?_, ?_⟩
            · show IsDrr _ bd bg bl ⟨d0.n, g, put f p (f p - cl (z p)), p, true⟩
              rw [HCC.out]
              exact ((HJ.out).store (f p - z p)).drewN _
            · exact (HA.out.set (q := ⟨bl, p, none⟩) (by simp) _).drewN _
      · have hcc : cl (z p) = 64 := by unfold cl; split <;> omega
        have hc0 : Hid (0 < cl (z p)) := by show 0 < cl (z p); rw [hcc]; omega
        have HCC := Go.Lib.hid hcc
        clear hcc
        cases b
        · have HS : Hid (D.start ⟨d0.n, g, f, p, false⟩ = ⟨d0.n, g, put f p (f p + g p), p, true⟩) := by show _ = _; simp [D.start]
          by_cases hw : f p + g p < 64
          · have hc2 : Hid (put f p (f p + g p) p < cl (z p)) := by show _ < cl (z p); rw [HCC.out]; simp only [put_same]; exact hw
            go_wp2
            go_region
            go_wp2
            go_quiet (fail)
            go_wp2_with fail
            refine (pass_walk bd bg bl ⟨d0.n, g, put f p (f p + g p), p, true⟩ _ (by exact (HJ.out.begin.store (f p + g p)).drewN _) (HS.out ▸ HP.out.start)).mono ?_
            rintro e w3 ⟨rfl, hI', hA'⟩
            go_wp2_with fail
            go_step3
            have hst := HS.out
            refine ⟨rfl, D.pass ⟨d0.n, g, put f p (f p + g p), p, true⟩, ⟨⟨hI', ?_, rfl, fun d' k h => HR.out d' k (Runs.wait _ _ _ hc0.out ?_ (by rw [hst]; exact h)), (((HA.out.set (q := ⟨bd, 3, none⟩) (by simp) _).set (q := ⟨bl, p, none⟩) (by simp) _).drewN _).trans (hA'.mono (by intro k _ e; exact .inl e))⟩, ?_⟩, ?_⟩
            · rw [← hst]; exact HP.out.waited (c := z) (by rw [hst]; exact hc2.out)
            · rw [hst]; exact hc2.out
            · exact ⟨fun i => List.getD [undef, undef, undef, undef, undef, _, _, _, _, _, _, _, _, _, _, _, _, _, _, _, _, _, _, _, _, _, _, _, _, _, _, _, _, _, _, _, _, _, _, _, _, _, _, _, _, _, _, _, _, _, _, _, _, _, _, _, _, _, _, _, _, _, _, _, _, _, _, _, _, _, _, _, _, _, _, _, _, _, _, _, _, _, _, _, _, _, _, _, _, _, _, _, _, _, _, _, _, _, _, _, _, _, _, _, _] i undef, rfl⟩
            · rw [← hst]; exact left_wait j _ HP.out hj (by rw [hst]; exact Int.lt_of_lt_of_le hc2.out (cl_le _))
          · have hc2 : Hid (cl (z p) ≤ put f p (f p + g p) p) := by show cl (z p) ≤ _; rw [HCC.out]; simp only [put_same]; omega
            go_wp2
            go_region
            go_wp2
            go_quiet (fail)
            go_wp2
            go_region
            go_wp2
            simp only [Exit.jump]
            go_ret
            have hst := HS.out
            have hrun := Runs.serve (c := z) ⟨d0.n, g, f, p, false⟩ hc0.out (by rw [hst]; exact hc2.out)
            rw [hst] at hrun
            refine ⟨_, p, HR.out _ _ hrun, rfl, ?_, ?_⟩
            · show IsDrr _ bd bg bl ⟨d0.n, g, put (put f p (f p + g p)) p (put f p (f p + g p) p - cl (z p)), p, true⟩
              rw [HCC.out, put_same]
              exact (((HJ.out.begin.store (f p + g p))).store (f p + g p - 64)).drewN _
            · exact (((HA.out.set (q := ⟨bd, 3, none⟩) (by simp) _).set (q := ⟨bl, p, none⟩) (by simp) _).set (q := ⟨bl, p, none⟩) (by simp) _).drewN _
        · have HS : Hid (D.start ⟨d0.n, g, f, p, true⟩ = ⟨d0.n, g, f, p, true⟩) := by show _ = _; simp [D.start]
          by_cases hw : f p < 64
          · have hc2 : Hid (f p < cl (z p)) := by show _ < cl (z p); rw [HCC.out]; exact hw
            go_wp2
            go_quiet (fail)
            go_wp2_with fail
            refine (pass_walk bd bg bl ⟨d0.n, g, f, p, true⟩ _ (by exact HJ.out.drewN _) (HS.out ▸ HP.out.start)).mono ?_
            rintro e w3 ⟨rfl, hI', hA'⟩
            go_wp2_with fail
            go_step3
            have hst := HS.out
            refine ⟨rfl, D.pass ⟨d0.n, g, f, p, true⟩, ⟨⟨hI', ?_, rfl, fun d' k h => HR.out d' k (Runs.wait _ _ _ hc0.out ?_ (by rw [hst]; exact h)), (HA.out.drewN _).trans (hA'.mono (by intro k _ e; exact .inl e))⟩, ?_⟩, ?_⟩
            · rw [← hst]; exact HP.out.waited (c := z) (by rw [hst]; exact hc2.out)
            · rw [hst]; exact hc2.out
            · exact ⟨fun i => List.getD [undef, undef, undef, undef, undef, _, _, _, _, _, _, _, _, _, _, _, _, _, _, _, _, _, _, _, _, _, _, _, _, _, _, _, _, _, _, _, _, _, _, _, _, _, _, _, _, _, _, _, _, _, _, _, _, _, _, _, _, _, _, _, _, _, _, _, _, _, _, _, _, _, _, _, _, _, _, _, _, _, _, _, _, _, _, _, _, _, _, _, _, _, _, _, _, _, _, _, _, _, _, _, _, _, _, _, _] i undef, rfl⟩
            · rw [← hst]; exact left_wait j _ HP.out hj (by rw [hst]; exact Int.lt_of_lt_of_le hc2.out (cl_le _))
          · have hc2 : Hid (cl (z p) ≤ f p) := by show cl (z p) ≤ _; rw [HCC.out]; omega
            go_wp2
            go_quiet (fail)
            go_wp2
            go_region
            go_wp2
            simp only [Exit.jump]
            go_ret
            have hst := HS.out
            have hrun := Runs.serve (c := z) ⟨d0.n, g, f, p, true⟩ hc0.out (by rw [hst]; exact hc2.out)
            rw [hst] at hrun
            refine ⟨_, p, HR.out _ _ hrun, rfl, ?_, ?_⟩
            · show IsDrr _ bd bg bl ⟨d0.n, g, put f p (f p - cl (z p)), p, true⟩
              rw [HCC.out]
              exact ((HJ.out).store (f p - 64)).drewN _
            · exact (HA.out.set (q := ⟨bl, p, none⟩) (by simp) _).drewN _
end Go.Proofs.Ytoebhifnfomkhaa
