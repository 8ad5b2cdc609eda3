/- horizon.Of. No condition. -/
import Derived.Test.YtnpcakakjhiboaaDoorHor11
import Derived.Test.YtnpcakakjhiboaaDoorCheck70
namespace Go.Proofs.YtnpcakakjhiboaaDoor
open Go Go.RowKit Go.Lo Go.WideShapes

set_option maxHeartbeats 2000000 in
theorem of44_walk (D : Nat → Prop) (t : Ft) (w : World) (hin : In D w t) (hS : Shapes w) (hsz : t.size ≤ 1000) (hnum : allNum t.pl) : Calls Tryd.prog 44 #[t.val] w (Said (.tuple #[.int .i64 (horOf t.pl).1, .int .i64 (horOf t.pl).2]) w) := by
  have HA := fun (w2 : World) (hq : Quiet w w2) => Go.Lib.hid (check70_walk D t w2 (hin.quiet hq) (hS.keep hq (by simp)) (by omega))
  have HB := fun (hs : sound t.pl) (w2 : World) (hq : Quiet w w2) => Go.Lib.hid (far86_any D t hs hnum w2 (hin.quiet hq))
  obtain ⟨V, hV⟩ : ∃ V, V = horOf t.pl := ⟨_, rfl⟩
  rw [← hV]
  unfold horOf at hV
  have HSO : Hid (checkF t.pl = 0 → sound t.pl) := Go.Lib.hid (fun h => (checkF_sound h).1)
  clear hin hnum hS
  obtain ⟨⟨⟨op, nm, cmp, val, lo, hi⟩, a, cap⟩, ks⟩ := t
  unfold Ft.val at HA HB ⊢
  simp only [Tr.top, Tr.kids] at HA HB ⊢
  generalize Ft.pl _ = f at *
  generalize checkF f = ck at *
  have HBK := Go.Lib.hid (Blk.new w #[.int .i64 op, .string nm, .int .i64 cmp, .int .i64 val, .int .i64 lo, .int .i64 hi, .slice a ks.length cap] 28)
  have HQ : Hid (Quiet w (w.alloc (.cells #[.int .i64 op, .string nm, .int .i64 cmp, .int .i64 val, .int .i64 lo, .int .i64 hi, .slice a ks.length cap] 28))) := (Alters.refl _).alloc _
  have HV := Go.Lib.hid hV
  clear hV
  go_enter Tryd.func44, Tryd.ntmps44
  go_wp2_with fail
  refine (HA _ HQ.out).out.mono ?_
  rintro e w2 ⟨rfl, q2⟩
  replace HQ := Go.Lib.hid (HQ.out.trans q2)
  obtain ⟨c0, c1, c2, c3, c4, c5, c6⟩ := seven_cells (q2.blk HBK.out (by simp))
  clear HA q2
  by_cases h0 : ck = 0
  rotate_left
  · have b0 : (ck == 0) = false := by simpa using h0
    have hV := HV.out
    rw [if_pos h0] at hV
    clear HV
    subst hV
    clear h0
    go_wp2_with fail
    exact bodyPost_ret (v := .tuple #[.int .i64 0, .int .i64 ck]) (by simp [results, Tryd.results44, go_sem]) rfl ⟨rfl, HQ.out⟩
  have b0 : (ck == 0) = true := by simpa using h0
  have HB2 := HB (HSO.out h0)
  rw [if_neg (by omega)] at HV
  clear HB HSO h0
  generalize far f = ff at *
  obtain ⟨h, p⟩ := ff
  simp only at HV HB2
  go_wp2_with fail
  refine (HB2 _ HQ.out).out.mono ?_
  rintro e w3 ⟨rfl, q3⟩
  replace HQ := Go.Lib.hid (HQ.out.trans q3)
  clear c0 c1 c2 c3 c4 c5 c6 HB2 q3
  cases p
  · have hV := HV.out
    simp only [Bool.false_eq_true, if_false] at hV
    clear HV
    subst hV
    go_wp2_with fail
    exact bodyPost_ret (v := .tuple #[.int .i64 h, .int .i64 0]) (by simp [results, Tryd.results44, go_sem]) rfl ⟨rfl, HQ.out⟩
  · have hV := HV.out
    simp only [if_true] at hV
    clear HV
    subst hV
    go_wp2_with fail
    exact bodyPost_ret (v := .tuple #[.int .i64 0, .int .i64 25]) (by simp [results, Tryd.results44, go_sem]) rfl ⟨rfl, HQ.out⟩


end Go.Proofs.YtnpcakakjhiboaaDoor
