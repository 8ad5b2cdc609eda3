/- The parts of a formula, as the model tells them (92, 93, 57, 59). No condition. -/
import Derived.Test.YtnpcakakjhiboaaDoorNodes8
import Derived.Test.YtnpcakakjhiboaaDoorPlanP
import Derived.Test.YtnpcakakjhiboaaDoorOf14
namespace Go.Proofs.YtnpcakakjhiboaaDoor
open Go.RowKit Go.Lo Go.WideShapes

/-- The nodes lie in a row of the call's own, kids ahead. -/
def AfterEnd (t : Ft) (w : World) (e : Ending) (w' : World) : Prop := ∃ v, e = .returned v ∧ w'.ownsRow w.heap.size 33 7 v t.post.length (t.post.flatMap Ft.cells) ∧ Quiet w w'

theorem NodesAt.nil (w : World) (n : Nd) (a : Option Addr) (cap : Nat) (ks : List Ft) : NodesAt w n a cap ks (.slice none 0 0) [] (w.alloc (.cells #[.int .i64 n.op, .string n.nm, .int .i64 n.cmp, .int .i64 n.val, .int .i64 n.lo, .int .i64 n.hi, .slice a ks.length cap] 33)) :=
  ⟨World.ownsRow_nil _ _ _ _, Blk.new _ _ _, by simp [Value.ownBlock], (Alters.refl _).alloc _⟩

theorem post_len (ks : List Ft) : (Tr.postL ks).length = Tr.sizeL ks := by
  rw [Tr.postL_eq, Tr.sizeL_eq, List.length_flatMap]
  congr 1
  exact List.map_congr_left (fun t _ => Tr.post_length t)

set_option maxRecDepth 100000 in
set_option maxHeartbeats 4000000 in
theorem after_any (D : Nat → Prop) (t : Ft) : t.size ≤ 1000000 → ∀ (w : World), In D w t → Calls Tryd.prog 92 #[t.val] w (AfterEnd t w) := by
  induction t using Tr.ind with
  | h x ks ih =>
    intro hsz w hin
    obtain ⟨⟨op, nm, cmp, val, lo, hi⟩, a, cap⟩ := x
    have hl : ks.length ≤ 1000000 := by have := Tr.kids_le ks; simp only [Tr.size] at hsz; omega
    have HI := Go.Lib.hid hin
    have HIH := Go.Lib.hid ih
    have HSZ := Go.Lib.hid hsz
    obtain ⟨i0, hi0, hz0, hz1, hz2⟩ := info_parts info33
    clear hin ih hsz
    unfold Ft.val
    simp only [Tr.top, Tr.kids]
    go_enter Tryd.func92, Tryd.ntmps92
    go_upto_region 3 with (fail)
    have R0 := Go.Lib.hid (NodesAt.nil w ⟨op, nm, cmp, val, lo, hi⟩ a cap ks)
    have HPOS := Go.Lib.hid (show w.heap.size < (w.alloc (.cells #[.int .i64 op, .string nm, .int .i64 cmp, .int .i64 val, .int .i64 lo, .int .i64 hi, .slice a ks.length cap] 33)).heap.size by simp)
    generalize w.alloc _ = w1 at *
    go_loopw [3, 4] (fun sv i wr => ∃ (k : Nat) (v : Value), k ≤ ks.length ∧ i = .int .i64 k ∧ v = sv ∧ NodesAt w ⟨op, nm, cmp, val, lo, hi⟩ a cap ks v (Tr.postL (ks.take k)) wr) (fun _ i _ => ks.length - (intOf i).toNat)
    case atStart => exact ⟨0, _, Nat.zero_le _, rfl, rfl, R0.out⟩
    case round =>
      clear R0
      obtain ⟨k, v, hk, rfl, rfl, hR⟩ := hrel
      have c6 := hR.box.cell 6 rfl
      have HR := Go.Lib.hid hR
      clear hR
      have hsz2 : Tr.sizeL ks ≤ 1000000 := by have := HSZ.out; simp only [Tr.size] at this; omega
      by_cases hlt : k < ks.length
      · have hne : ks ≠ [] := fun h => by subst h; simp at hlt
        obtain ⟨b, o, rfl, hD, hc⟩ := HI.out.fs hne
        obtain ⟨d0, d1, d2, d3, d4, d5, d6⟩ := (((hc k ks[k] (by simp [Tr.kids, hlt]))).keep HR.out.quiet (by simp)).seven
        have hsum : Tr.sizeL (ks.take k) + ks[k].size ≤ Tr.sizeL ks := by
          have e : ks = ks.take k ++ ks[k] :: ks.drop (k + 1) := by rw [← List.drop_eq_getElem_cons hlt, List.take_append_drop]
          have e2 := congrArg Tr.sizeL e
          rw [Tr.sizeL_eq, Tr.sizeL_eq, List.map_append, List.sum_append, List.map_cons, List.sum_cons] at e2
          rw [Tr.sizeL_eq, Tr.sizeL_eq]
          omega
        have HK := Go.Lib.hid (HIH.out ks[k] (by simp) (by omega) wr ((HI.out.kid (k := ks[k]) (by simp [Tr.kids])).quiet HR.out.quiet))
        have htk : Tr.postL (ks.take (k + 1)) = Tr.postL (ks.take k) ++ (ks[k]).post := by
          rw [List.take_succ_eq_append_getElem hlt, Tr.postL_eq, Tr.postL_eq, List.flatMap_append]; simp
        have hlen1 := post_len (ks.take k)
        have hlen2 := Tr.post_length ks[k]
        have HTK := Go.Lib.hid htk
        have HLE := Go.Lib.hid (show (Tr.postL (ks.take k)).length + (ks[k]).post.length ≤ 1000001 by omega)
        clear hc hD htk hsum hsz2 hlen1 hlen2
        unfold Ft.val at HK
        generalize ks[k] = kk at *
        go_wp2_with fail
        refine HK.out.mono ?_
        rintro e w3 ⟨v2, rfl, hrow2, hq3⟩
        have HQ3 := Go.Lib.hid hq3
        obtain ⟨A2, c2, rfl⟩ := own_form hrow2
        have hr2 := Reads.own hrow2
        have HR2 := Go.Lib.hid hr2
        clear d0 d1 d2 d3 d4 d5 d6 hrow2 hq3 hr2 c6
        go_wp2_with (at_builtin; refine wpList_append_reads _ rfl (.tmp 12) (.tmp 18) 31 rfl w.heap.size 33 i0 _ 7 80 Tryd.underlying31 hi0 hz0 hz1 hz2 rfl (by decide) v _ _ rfl (row_keep HR.out.row HQ3.out (by simp)) A2 kk.post.length c2 (kk.post.flatMap Ft.cells) rfl HR2.out (flat_mem _) ?g1 ?g2 ?g3 ?g4)
        case g1 => have := HLE.out; unfold maxLen; omega
        case g2 => have := HLE.out; omega
        case g3 => have := HR.out.quiet.size; have := HQ3.out.size; omega
        case g4 =>
          intro v4 w4 hown4 hgrow4 hat4
          have HP := Go.Lib.hid (HR.out.step HQ3.out hown4 hgrow4 hat4)
          clear hown4 hgrow4 hat4 HR2 HK
          go_wp2
          go_roundw
          case rel => exact ⟨k + 1, v4, by omega, by go_num, rfl, by rw [HTK.out]; exact HP.out⟩
          case measure => simp [intOf]; omega
      · obtain rfl : k = ks.length := by omega
        have hR := HR.out
        rw [List.take_length] at hR
        obtain ⟨c0, c1, c2, c3, c4, c5, -⟩ := seven_cells hR.box
        have hlen := post_len ks
        have HLE := Go.Lib.hid (show (Tr.postL ks).length + 1 ≤ 1000001 by omega)
        have HR2 := Go.Lib.hid hR
        clear hR HR hlen hsz2
        go_wp2_with (at_builtin; refine wpList_append_lies _ rfl (.tmp 20) (.tmp 22) 31 rfl w.heap.size 33 i0 _ 7 80 Tryd.underlying31 hi0 hz0 hz1 hz2 rfl (by decide) v _ _ rfl (row_keep HR2.out.row ((Alters.refl (p := fun _ => False) wr).alloc (.cells #[.int .i64 op, .string nm, .int .i64 cmp, .int .i64 val, .int .i64 lo, .int .i64 hi, .slice a ks.length cap] 33)) (by simp)) ⟨wr.heap.size, 0, none⟩ 1 1 [.int .i64 op, .string nm, .int .i64 cmp, .int .i64 val, .int .i64 lo, .int .i64 hi, .slice a ks.length cap] rfl rfl ?c1 ?c2 (by omega) ?c3 ?c7 ?c4 (wr.heap.size + 1) ?c5 ?c6)
        case c2 => exact ⟨rfl, rfl, rfl, rfl, rfl, rfl, rfl⟩
        case c3 => have := HLE.out; unfold maxLen; omega
        case c7 => have := HLE.out; omega
        case c4 => have := HR2.out.quiet.size; simp; omega
        case c6 =>
          intro g cp w4 hown hgrow hat hlt4
          have hA : Alters (fun j => v.ownBlock = some j) wr w4 := ((Alters.refl wr).alloc _).grown hgrow (fun j e _ => e)
          have HQ := Go.Lib.hid (HR2.out.quiet.then hA (fun i hi e => by have := (HR2.out.row.lt i e).1; omega))
          have HO : Hid (w4.ownsRow w.heap.size 33 7 (.slice (some ⟨g, 0, none⟩) ((Tr.postL ks).length + 1) cp) ((Tr.postL ks).length + 1) ((Tr.postL ks).flatMap Ft.cells ++ [.int .i64 op, .string nm, .int .i64 cmp, .int .i64 val, .int .i64 lo, .int .i64 hi, .slice a ks.length cap])) := hown
          clear hown hgrow hat hlt4 hA c0 c1 c2 c3 c4 c5 c6
          go_wp2_with fail
          go_ret
          refine ⟨_, rfl, ?_, HQ.out⟩
          have e : (Tr.nd ⟨⟨op, nm, cmp, val, lo, hi⟩, a, cap⟩ ks : Ft).post = Tr.postL ks ++ [.nd ⟨⟨op, nm, cmp, val, lo, hi⟩, a, cap⟩ ks] := rfl
          rw [e, List.length_append, List.flatMap_append]
          simpa [Ft.cells, Tr.top, Tr.kids] using HO.out

/-! Where a formula stands. -/

theorem place_hit {U : List Fm} {t : Fm} {k : Nat} (h : ∀ j, j < k → U[j]? ≠ some t) (hk : U[k]? = some t) : place U t = k := by
  have hm := List.mem_of_getElem? hk
  obtain ⟨h1, h2⟩ := place_mem hm
  rw [h1]
  have h3 := place_get hm
  have e : ¬ k < U.idxOf t := fun hlt => by
    have := List.not_of_lt_findIdx (p := (· == t)) (xs := U) hlt
    have hkl : k < U.length := by omega
    rw [List.getElem?_eq_getElem hkl] at hk
    rw [Option.some.inj hk] at this
    simp at this
  have e2 : ¬ U.idxOf t < k := fun hlt => h _ hlt h3
  omega

theorem place_miss {U : List Fm} {t : Fm} (h : ∀ j, j < U.length → U[j]? ≠ some t) : place U t = -1 := by
  refine place_not fun hm => ?_
  obtain ⟨j, hj⟩ := List.getElem?_of_mem hm
  have hl : j < U.length := by
    rcases Nat.lt_or_ge j U.length with h' | h'
    · exact h'
    · rw [List.getElem?_eq_none h'] at hj; cases hj
  exact h j hl hj

set_option maxRecDepth 100000 in
set_option maxHeartbeats 4000000 in
theorem place93_walk (A : Option Addr) (c : Nat) (T : List Ft) (t : Ft) (w : World) (hf : FsAt (fun _ => True) w A T) (hT : ∀ x, x ∈ T → In (fun _ => True) w x) (hin : In (fun _ => True) w t) (hl : T.length ≤ 10000) : Calls Tryd.prog 93 #[.slice A T.length c, t.val] w (Said (.int .i64 (place (T.map Ft.pl) (Ft.pl t))) w) := by
  have HF := Go.Lib.hid hf
  have HT := Go.Lib.hid hT
  have HI := Go.Lib.hid hin
  clear hf hT hin
  unfold Ft.val
  go_enter Tryd.func93, Tryd.ntmps93
  go_upto_region 2 with (fail)
  have B : Hid (Blk (w.alloc (.cells #[.int .i64 t.top.n.op, .string t.top.n.nm, .int .i64 t.top.n.cmp, .int .i64 t.top.n.val, .int .i64 t.top.n.lo, .int .i64 t.top.n.hi, .slice t.top.a t.kids.length t.top.cap] 33)) w.heap.size #[.int .i64 t.top.n.op, .string t.top.n.nm, .int .i64 t.top.n.cmp, .int .i64 t.top.n.val, .int .i64 t.top.n.lo, .int .i64 t.top.n.hi, .slice t.top.a t.kids.length t.top.cap] 33) := Blk.new _ _ _
  have HQ1 : Hid (Quiet w (w.alloc (.cells #[.int .i64 t.top.n.op, .string t.top.n.nm, .int .i64 t.top.n.cmp, .int .i64 t.top.n.val, .int .i64 t.top.n.lo, .int .i64 t.top.n.hi, .slice t.top.a t.kids.length t.top.cap] 33))) := (Alters.refl _).alloc _
  generalize w.alloc _ = w1 at *
  go_loopw [5] (fun i wr => ∃ k : Nat, k ≤ T.length ∧ i = .int .i64 k ∧ (∀ j, j < k → (T.map Ft.pl)[j]? ≠ some (Ft.pl t)) ∧ Quiet w1 wr) (fun i _ => T.length - (intOf i).toNat)
  case atStart => exact ⟨0, Nat.zero_le _, rfl, fun j hj => by omega, Alters.refl _⟩
  case round =>
    obtain ⟨k, hk, rfl, hL, hQ⟩ := hrel
    have HL := Go.Lib.hid hL
    have HQ := Go.Lib.hid hQ
    clear hL hQ
    by_cases hlt : k < T.length
    · have hne : T ≠ [] := fun h => by subst h; simp at hlt
      obtain ⟨b, o, rfl, -, hc⟩ := HF.out hne
      obtain ⟨d0, d1, d2, d3, d4, d5, d6⟩ := ((hc k T[k] (by simp [hlt])).keep (HQ1.out.trans HQ.out) (by simp)).seven
      obtain ⟨c0, c1, c2, c3, c4, c5, c6⟩ := seven_cells (HQ.out.blk B.out (by simp))
      have HS := Go.Lib.hid (fun W (hq : Quiet wr W) => same8_any (fun _ => True) T[k] t W (((HT.out T[k] (by simp)).quiet (HQ1.out.trans HQ.out)).quiet hq) ((HI.out.quiet (HQ1.out.trans HQ.out)).quiet hq))
      have HE : Hid ((T.map Ft.pl)[k]? = some (Ft.pl T[k])) := Go.Lib.hid (by simp [hlt])
      clear hc
      unfold Ft.val at HS
      generalize T[k] = kk at *
      cases hs : same (Ft.pl kk) (Ft.pl t)
      · rw [hs] at HS
        have HN : Hid (Ft.pl kk ≠ Ft.pl t) := Go.Lib.hid (fun e => by rw [e, same_self] at hs; cases hs)
        clear hs
        go_upto_region 4 with (fail)
        go_region_with (go_at_call 28; refine (HS.out _ (by with_reducible exact (Alters.refl _).drew)).mono ?_; rintro e w3 ⟨rfl, hq3⟩; have HQ3 := Go.Lib.hid (((Alters.refl wr).drew).trans hq3); clear hq3)
        all_goals
          clear d0 d1 d2 d3 d4 d5 d6 c0 c1 c2 c3 c4 c5 c6
          go_wp2_with fail
          go_roundw
          case rel => exact ⟨k + 1, by omega, by go_num, fun j hj => by
            rcases Nat.lt_or_ge j k with h | h
            · exact HL.out j h
            · obtain rfl : j = k := by omega
              rw [HE.out]
              intro e
              exact HN.out (Option.some.inj e), HQ.out.trans HQ3.out⟩
          case measure => simp [intOf]; omega
      · rw [hs] at HS
        have HP : Hid (place (T.map Ft.pl) (Ft.pl t) = k) := Go.Lib.hid (place_hit HL.out (by rw [HE.out, (same_iff _ _).1 hs]))
        clear hs
        go_upto_region 4 with (fail)
        go_region_with (go_at_call 28; refine (HS.out _ (by with_reducible exact (Alters.refl _).drew)).mono ?_; rintro e w3 ⟨rfl, hq3⟩; have HQ3 := Go.Lib.hid (((Alters.refl wr).drew).trans hq3); clear hq3)
        all_goals
          clear d0 d1 d2 d3 d4 d5 d6 c0 c1 c2 c3 c4 c5 c6
          go_wp2_with fail
          go_ret
          exact ⟨by rw [HP.out]; rfl, HQ1.out.trans (HQ.out.trans HQ3.out)⟩
    · obtain rfl : k = T.length := by omega
      have HP : Hid (place (T.map Ft.pl) (Ft.pl t) = -1) := Go.Lib.hid (place_miss (by simpa using HL.out))
      go_wp2_with fail
      go_ret
      exact ⟨by rw [HP.out]; rfl, HQ1.out.trans HQ.out⟩
end Go.Proofs.YtnpcakakjhiboaaDoor
