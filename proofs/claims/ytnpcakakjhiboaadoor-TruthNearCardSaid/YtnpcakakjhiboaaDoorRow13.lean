/- truth.Row (38): where a formula holds on a word. No condition. -/
import Derived.Test.YtnpcakakjhiboaaDoorRowP
import Derived.Test.YtnpcakakjhiboaaDoorRule
import Derived.Test.YtnpcakakjhiboaaDoorClone13
import Derived.Test.YtnpcakakjhiboaaDoorEach
import Derived.Test.YtnpcakakjhiboaaDoorWordR
import Derived.Test.YtnpcakakjhiboaaDoorNfP
namespace Go.Proofs.YtnpcakakjhiboaaDoor
open Go Go.RowKit Go.Lo Go.WideShapes

/-- A call gives a row, and touches nothing that was there. -/
def GivesRow (l : List Bool) (w : World) (e : Ending) (w' : World) : Prop := ∃ a c, e = .returned (.slice a l.length c) ∧ BlAt w' a l ∧ Quiet w w'

theorem row_room13 {w : World} {base g n cap size : Nat} {e : TypeId} {xs : List Value} (h : w.ownsRow base e size (.slice (some ⟨g, 0, none⟩) n cap) n xs) : n ≤ cap := by
  rcases h.2 with ⟨hv, _⟩ | ⟨g', c, cur, hv, _, _, hle, _⟩
  · cases hv
  · obtain ⟨-, rfl⟩ : g = g' ∧ cap = c := by simpa using hv
    exact hle

theorem stackB (w : List Pt) (n : Ft) (L0 T : List Re) (h : n.kids.length = T.length) : Tr.stack (rowB w) ((L0 ++ T).map Re.l) (Ft.pl n) = L0.map Re.l ++ [rowB w n.top.n (T.map Re.l).reverse] := by
  unfold Tr.stack
  rw [pl_kids, pl_op]
  have e : ((L0 ++ T).map Re.l).length - (n.kids.map Ft.pl).length = (L0.map Re.l).length := by simp [h]
  rw [e, List.map_append, List.take_left, List.drop_left]

theorem info4 : (Tryd.prog.info? 4).map (fun i => (i.zero, i.size, i.bytes)) = some (some (.bool false), 1, 1) := by kernel_rfl

set_option maxRecDepth 100000 in
set_option maxHeartbeats 4000000 in
theorem row38_walk (D : Nat → Prop) (t : Ft) (a : Option Addr) (cap : Nat) (L : List Hp) (w : World) (hin : In D w t) (hS : Shapes w) (hsz : t.size ≤ 10000) (hw : WdAt w a L) (hL : L.length ≤ 10000) : Calls Tryd.prog 38 #[t.val, .slice a L.length cap] w (GivesRow (rowF (Ft.pl t) (pts L)) w) := by
  have hin1 : In (fun k => k < w.heap.size) w t := hin.mono (fun k hk _ => hk)
  have HI := Go.Lib.hid hin
  have HI1 := Go.Lib.hid hin1
  have HSH := Go.Lib.hid hS
  have HSZ := Go.Lib.hid hsz
  have HW := Go.Lib.hid hw
  have HL := Go.Lib.hid hL
  clear hin hin1 hS hsz hw hL
  unfold Ft.val
  go_enter Tryd.func38, Tryd.ntmps38
  go_upto_region 1 with (fail)
  have B : Hid (Blk (w.alloc (.cells #[.int .i64 t.top.n.op, .string t.top.n.nm, .int .i64 t.top.n.cmp, .int .i64 t.top.n.val, .int .i64 t.top.n.lo, .int .i64 t.top.n.hi, .slice t.top.a t.kids.length t.top.cap] 28)) w.heap.size #[.int .i64 t.top.n.op, .string t.top.n.nm, .int .i64 t.top.n.cmp, .int .i64 t.top.n.val, .int .i64 t.top.n.lo, .int .i64 t.top.n.hi, .slice t.top.a t.kids.length t.top.cap] 28) := Blk.new _ _ _
  have HQ : Hid (Quiet w (w.alloc (.cells #[.int .i64 t.top.n.op, .string t.top.n.nm, .int .i64 t.top.n.cmp, .int .i64 t.top.n.val, .int .i64 t.top.n.lo, .int .i64 t.top.n.hi, .slice t.top.a t.kids.length t.top.cap] 28))) := (Alters.refl _).alloc _
  generalize w.alloc _ = w1 at *
  obtain ⟨c0, c1, c2, c3, c4, c5, c6⟩ := seven_cells B.out
  have HC := Go.Lib.hid (sound_walk D t w1 (HI.out.quiet HQ.out) (HSH.out.keep HQ.out (by simp)) (by have := HSZ.out; omega))
  by_cases hf : first (Ft.pl t) = 0
  rotate_left
  · rw [show decide (first (Ft.pl t) = 0) = false by simpa using hf] at HC
    have HN : Hid (rowF (Ft.pl t) (pts L) = []) := Go.Lib.hid (by unfold rowF; rw [if_neg (fun e => hf e.1)])
    clear hf
    unfold Ft.val at HC
    go_wp2_with fail
    refine HC.out.mono ?_
    rintro e w2 ⟨rfl, hq2⟩
    clear c0 c1 c2 c3 c4 c5 c6 HC
    go_wp2_with fail
    go_ret
    rw [HN.out]
    exact ⟨none, 0, rfl, fun h => absurd rfl h, HQ.out.trans hq2⟩
  rw [show decide (first (Ft.pl t) = 0) = true by simpa using hf] at HC
  unfold Ft.val at HC
  have HF := Go.Lib.hid hf
  clear hf
  go_wp2_with fail
  refine HC.out.mono ?_
  rintro e w2 ⟨rfl, hq2⟩
  clear c0 c1 c2 c3 c4 c5 c6 HC
  replace B := Go.Lib.hid (hq2.blk B.out (by simp))
  replace HQ := Go.Lib.hid (HQ.out.trans hq2)
  clear hq2
  have HC := Go.Lib.hid (right40_walk a cap L w2 (HW.out.quiet HQ.out))
  by_cases hok : wordOk (pts L) = true
  rotate_left
  · rw [show wordOk (pts L) = false by simpa using hok] at HC
    have HN : Hid (rowF (Ft.pl t) (pts L) = []) := Go.Lib.hid (by unfold rowF; rw [if_neg (fun e => hok e.2)])
    clear hok
    go_wp2_with fail
    refine HC.out.mono ?_
    rintro e w3 ⟨rfl, hq2⟩
    clear HC
    go_wp2_with fail
    go_ret
    rw [HN.out]
    exact ⟨none, 0, rfl, fun h => absurd rfl h, HQ.out.trans hq2⟩
  rw [hok] at HC
  have HOK := Go.Lib.hid hok
  have HRF := Go.Lib.hid (rowF_sound HF.out hok)
  clear hok
  go_wp2_with fail
  refine HC.out.mono ?_
  rintro e w3 ⟨rfl, hq2⟩
  clear HC
  replace B := Go.Lib.hid (hq2.blk B.out (by simp))
  replace HQ := Go.Lib.hid (HQ.out.trans hq2)
  clear hq2
  obtain ⟨c0, c1, c2, c3, c4, c5, c6⟩ := seven_cells B.out
  have HU := Go.Lib.hid (upward_walk13 t w3 ((HI1.out.quiet HQ.out).mono (fun k hk _ => hk)) (by have := HSZ.out; omega))
  unfold Ft.val at HU
  go_wp2_with fail
  refine HU.out.mono ?_
  rintro e w4 ⟨uv, rfl, hown, -, hq3⟩
  have hne9 : t.pre ≠ [] := by cases t; simp [Tr.pre]
  have hlen : t.pre.length = (t.pre.length - 1) + 1 := by have := List.length_pos_iff.2 hne9; omega
  have hl9 : t.pre.length ≤ 10000 := by have := HSZ.out; rw [Tr.pre_length]; exact this
  have hown2 := hown
  rw [hlen] at hown2
  obtain ⟨gu, cu, huv⟩ := ownsRow_succ hown2
  rw [← hlen] at huv
  subst huv
  clear hown2
  have hbas : w.heap.size + 1 ≤ w3.heap.size := B.out.lt
  have hr0 : w4.ownsRow (w.heap.size + 1) 28 7 (.slice (some ⟨gu, 0, none⟩) t.pre.length cu) t.pre.reverse.length (t.pre.reverse.flatMap Ft.cells) := by
    rw [List.length_reverse]
    rcases hown with ⟨h1, ⟨h2, _⟩ | ⟨g', c', cur, h2, h3, h4⟩⟩
    · cases h2
    · exact ⟨h1, .inr ⟨g', c', cur, h2, by omega, h4⟩⟩
  have hA : RowAt w L.length (.slice (some ⟨gu, 0, none⟩) t.pre.length cu) t.pre.reverse (.slice none 0 0) [] w4 :=
    ⟨hr0, World.ownsRow_nil _ _ _ _, by simp, HQ.out.trans hq3⟩
  obtain ⟨hrun, hfold⟩ := rowsC_run (pts L) (Ft.pl t)
  have hpre : (Ft.pl t).pre.reverse = t.pre.reverse.map Ft.pl := by
    show (Tr.map Hd.n t).pre.reverse = _
    rw [Tr.map_pre, List.map_reverse]
    rfl
  rw [hpre] at hrun hfold
  have hnd : ∀ n, n ∈ t.pre.reverse → wrong (Ft.pl n) = 0 := fun n hn => (first_zero _).1 HF.out (Ft.pl n) (by
    have : Ft.pl n ∈ (Ft.pl t).pre.reverse := by rw [hpre]; exact List.mem_map_of_mem hn
    simpa using this)
  have hNl : t.pre.reverse.length = t.pre.length := List.length_reverse
  have HNT := Go.Lib.hid hl9
  clear hlen hown hq3 hr0 hpre HU HI HI1 B HQ c0 c1 c2 c3 c4 c5 c6 hbas
  generalize t.pre.reverse = N at *
  generalize t.pre.length = nN at *
  have HNL := Go.Lib.hid hNl
  have HND := Go.Lib.hid hnd
  have HA := Go.Lib.hid hA
  have HRUN := Go.Lib.hid hrun
  have HFOLD := Go.Lib.hid hfold
  clear hNl hnd hA hrun hfold
  go_wp2
  go_loopw [5, 25] (fun mv i wr => ∃ (k : Nat) (M : List Re), k ≤ nN ∧ i = .int .i64 k ∧ Tr.runOk (fun l => l.length = (pts L).length) (rowB (pts L)) (M.map Re.l) ((N.drop k).map Ft.pl) ∧ ((N.drop k).map Ft.pl).foldl (Tr.stack (rowB (pts L))) (M.map Re.l) = [rowsC (pts L) (Ft.pl t)] ∧ M.length ≤ k ∧ RowAt w L.length (.slice (some ⟨gu, 0, none⟩) nN cu) N mv M wr) (fun _ i _ => nN - (intOf i).toNat)
  case atStart => exact ⟨0, [], Nat.zero_le _, rfl, HRUN.out, HFOLD.out, Nat.le_refl _, HA.out⟩
  case round =>
    clear HA HRUN HFOLD
    obtain ⟨k, M, hk, rfl, hrun, hfold, hMk, hA⟩ := hrel
    generalize u5 = mv at *
    by_cases hlt : k < nN
    · have hltN : k < N.length := by rw [HNL.out]; exact hlt
      obtain ⟨cs, hb, -, -, -, -, hrr⟩ := own_block (n := nN) (by have := hA.rows; rw [HNL.out] at this; exact this)
      obtain ⟨d0, d1, d2, d3, d4, d5, d6⟩ := (show AtP wr gu (k * 7) N[k] from fun j u hu => hb.cell _ (hrr k N[k] (by simp [hltN]) j u hu)).seven
      have hw := HND.out N[k] (by simp)
      rw [List.drop_eq_getElem_cons hltN] at hrun hfold
      simp only [List.map_cons, List.foldl_cons] at hrun hfold
      generalize N[k] = n at *
      obtain ⟨h1, h12, hkl, -, -⟩ := wrong_zero (by rw [pl_eta2] at hw; exact hw)
      rw [List.length_map] at hkl
      have hk2 := kids_le2 n.top.n.op
      rw [← hkl] at hk2
      have hcases : n.kids.length = 0 ∨ n.kids.length = 1 ∨ n.kids.length = 2 := by omega
      have HKL := Go.Lib.hid hkl
      have HOP : Hid (1 ≤ n.top.n.op ∧ n.top.n.op ≤ 12) := Go.Lib.hid ⟨h1, h12⟩
      have hMl : M.length ≤ 10000 := by have := HNT.out; omega
      clear hkl hw hb hrr h1 h12
      rcases hcases with hk0 | hk0 | hk0
      · rcases hA.made.2 with ⟨rfl, h0⟩ | ⟨gm, c, cur, hv, -, -, hnc, hcm, -⟩
        · obtain rfl : M = [] := List.eq_nil_of_length_eq_zero h0
          have hbx : Blk (wr.alloc (.cells #[.int .i64 n.top.n.op, .string n.top.n.nm, .int .i64 n.top.n.cmp, .int .i64 n.top.n.val, .int .i64 n.top.n.lo, .int .i64 n.top.n.hi, .slice n.top.a 0 n.top.cap] 28)) wr.heap.size #[.int .i64 n.top.n.op, .string n.top.n.nm, .int .i64 n.top.n.cmp, .int .i64 n.top.n.val, .int .i64 n.top.n.lo, .int .i64 n.top.n.hi, .slice n.top.a 0 n.top.cap] 28 := Blk.new _ _ _
          have hq6 : Quiet wr (wr.alloc (.cells #[.int .i64 n.top.n.op, .string n.top.n.nm, .int .i64 n.top.n.cmp, .int .i64 n.top.n.val, .int .i64 n.top.n.lo, .int .i64 n.top.n.hi, .slice n.top.a 0 n.top.cap] 28)) := (Alters.refl _).alloc _
          have HA6 := Go.Lib.hid (hA.quiet' hq6)
          have hst : Tr.stack (rowB (pts L)) ((([] : List Re) ++ []).map Re.l) (Ft.pl n) = ([] : List Re).map Re.l ++ [rowB (pts L) n.top.n (([] : List Re).map Re.l).reverse] := stackB (pts L) n ([] : List Re) [] (by rw [hk0]; rfl)
          rw [List.append_nil] at hst
          have HST : Hid (Tr.stack (rowB (pts L)) (([] : List Re).map Re.l) (Ft.pl n) = ([] : List Re).map Re.l ++ [rowB (pts L) n.top.n (([] : List Re).map Re.l).reverse]) := Go.Lib.hid hst
          clear hst
          have HR := Go.Lib.hid hrun.2.2
          have HMK := Go.Lib.hid hMk
          have HFO := Go.Lib.hid hfold
          clear hA hrun hfold hMk
          go_upto_region 7 with (fail)
          clear d0 d1 d2 d3 d4 d5 d6
          generalize wr.alloc _ = w6 at *
          obtain ⟨c0, c1, c2, c3, c4, c5, c6⟩ := seven_cells hbx
          go_wp2_with fail
          refine (rule_walk n.top.n.op n.top.n.nm n.top.n.cmp n.top.n.val n.top.n.lo n.top.n.hi _ a cap L none 0 [] none 0 [] _ (HW.out.quiet HA6.out.quiet) HOK.out (fun h => absurd rfl h) (fun h => absurd rfl h) HOP.out (by rw [← HKL.out, hk0]; simp)).mono ?_
          rintro e w7 ⟨v, rfl, ⟨g, lb, rfl, eg, hcl⟩, hq7⟩
          replace HA6 := Go.Lib.hid (HA6.out.quiet' hq7)
          have HCL := Go.Lib.hid hcl
          clear c0 c1 c2 c3 c4 c5 c6 hbx hq6 hcl hq7
          have hL := HL.out
          obtain ⟨i4, hi4, hz4, hs4, hb4⟩ := info_parts info4
          have hby : i4.bytes * L.length ≤ 281474976710656 := by rw [hb4]; omega
          go_upto_region 16 with (refine wpList_make_row _ rfl (.tmp 61) (.tmp 61) 47 rfl 4 i4 (.bool false) Tryd.underlying47 hi4 hz4 hs4 rfl .i64 .i64 L.length rfl rfl hby (by omega) ?_)
          have hb8 : Blk (w7.alloc (.cells (madeCells #[.bool false] L.length) 4)) w7.heap.size ((fills (tvN (pts L) n.top.n (rowT []) (rowT [])) 0 L.length).map Value.bool).toArray 4 := by rw [fills_zero, ← made_bool]; exact Blk.new _ _ _
          have hq8 : Quiet w7 (w7.alloc (.cells (madeCells #[.bool false] L.length) 4)) := (Alters.refl _).alloc _
          generalize w7.alloc _ = w8 at *
          have HB8 := Go.Lib.hid hb8
          have HQ8 := Go.Lib.hid hq8
          clear hb8 hq8 hi4 hz4 hs4 hb4 hby
          go_wp2_with fail
          go_loopw [65] (fun x wr2 => ∃ i : Nat, i ≤ L.length ∧ x = .int .i64 i ∧ Blk wr2 w7.heap.size ((fills (tvN (pts L) n.top.n (rowT []) (rowT [])) i L.length).map Value.bool).toArray 4 ∧ Quiet w7 wr2) (fun x _ => L.length - (intOf x).toNat)
          case atStart => exact ⟨0, Nat.zero_le _, rfl, HB8.out, HQ8.out⟩
          case round =>
            clear HB8 HQ8
            obtain ⟨i, hi, rfl, hb8, hq8⟩ := hrel
            by_cases hil : i < L.length
            · have fr := fun j => hb8.free j
              have HC := Go.Lib.hid (HCL.out wr hq8 i hil)
              have HB8 := Go.Lib.hid hb8
              have HQ8 := Go.Lib.hid hq8
              clear hb8 hq8
              go_wp2_with fail
              refine HC.out.mono ?_
              rintro e w9 ⟨rfl, hq9⟩
              replace HB8 := Go.Lib.hid (hq9.blk HB8.out (by simp))
              replace HQ8 := Go.Lib.hid (HQ8.out.trans hq9)
              clear HC hq9 fr
              have fr := fun j => HB8.out.free j
              have hc9 : w9.cell? ⟨w7.heap.size, i, none⟩ = some (.bool ((fills (tvN (pts L) n.top.n (rowT []) (rowT [])) i L.length)[i]'(by rw [fills_len _ hi]; exact hil))) := HB8.out.cell i (by simp [fills_len _ hi, hil])
              go_wp2_with fail
              refine ⟨⟨i + 1, by omega, by go_num, ?_, ?_⟩, by simp [intOf]; omega⟩
              · rw [← fills_step _ hil]
                exact HB8.out.set i _
              · exact HQ8.out.set (q := ⟨w7.heap.size, i, none⟩) (fun h => by simp at h) _
            · obtain rfl : i = L.length := by omega
              have hA9 := HA6.out.quiet' hq8
              have h47 := hA9.made
              
              rw [fills_all] at hb8
              have hown10 : wr.ownsRow (w.heap.size + 1) 47 1 (.slice none 0 0) ([] : List Re).length (([] : List Re).map Re.cell) := h47
              have hgx : wr.grownBy wr (.slice none 0 0 : Value).ownBlock := ⟨rfl, rfl, rfl, Nat.le_refl _, fun _ _ _ => rfl⟩
              have HA9 := Go.Lib.hid hA9
              have HB9 := Go.Lib.hid hb8
              clear hq8 hb8 HCL h47 hA9
              go_upto_region 22 with (refine wpList_clearB _ rfl (.tmp 77) rfl _ 0 _ rfl _ (run_clear0B _ _ _ _) ?_)
              have hq11 : Quiet wr (wr.alloc (.cells #[.slice (some ⟨w7.heap.size, 0, none⟩) L.length L.length] 47)) := (Alters.refl _).alloc _
              have hown11 := row_keep hown10 hq11 (by simp)
              have hrd : Reads (wr.alloc (.cells #[.slice (some ⟨w7.heap.size, 0, none⟩) L.length L.length] 47)) (some ⟨wr.heap.size, 0, none⟩) 1 1 [.slice (some ⟨w7.heap.size, 0, none⟩) L.length L.length] := ⟨rfl, fun _ => ⟨_, rfl, World.news_of_block (Blk.new _ _ _)⟩⟩
              obtain ⟨i0, hi0, hz0, hz1, hz2⟩ := info_parts info47
              have hl0 : ([] : List Re).length ≤ 10000 := by first | omega | (simp at hMl ⊢; done) | (simp at hMl ⊢; omega)
              have HGX := Go.Lib.hid hgx
              have hbg : w.heap.size + 1 ≤ (wr.alloc (.cells #[.slice (some ⟨w7.heap.size, 0, none⟩) L.length L.length] 47)).heap.size := by have h1 := HGX.out.size; have h2 := HA9.out.quiet.size; simp; omega
              clear hgx hown10
              go_wp2_with (refine wpList_append_reads _ rfl (.tmp 80) (.tmp 82) 96 rfl (w.heap.size + 1) 47 i0 _ 1 24 Tryd.underlying96 hi0 hz0 hz1 hz2 rfl (by decide) (.slice none 0 0) ([] : List Re).length (([] : List Re).map Re.cell) rfl hown11 (some ⟨wr.heap.size, 0, none⟩) 1 1 [.slice (some ⟨w7.heap.size, 0, none⟩) L.length L.length] rfl hrd (by simp [Value.oneCell']) (by unfold maxLen; omega) (by omega) hbg ?_)
              intro v9 w12 hown9 hgrow9 hat9
              clear hat9
              obtain ⟨g9, c9, rfl⟩ := ownsRow_succ hown9
              have hA12 : Alters (fun k => (.slice none 0 0 : Value).ownBlock = some k) wr w12 := (((Alters.refl wr).grown HGX.out (fun k e _ => e)).alloc _).grown hgrow9 (fun k e _ => e)
              have hnew := HA9.out.other hA12 (mv2 := .slice (some ⟨g9, 0, none⟩) (([] : List Re).length + 1) c9) (M2 := ([] : List Re) ++ [⟨some ⟨w7.heap.size, 0, none⟩, L.length, (List.range L.length).map (tvN (pts L) n.top.n (rowT []) (rowT []))⟩]) (by simpa [Re.cell] using hown9) (fun r hr => by
                rcases List.mem_append.1 hr with hr | hr
                · exact HA9.out.ok r (by simp [hr])
                · obtain rfl : r = _ := by simpa using hr
                  exact ⟨fun _ => ⟨_, rfl, HB9.out⟩, by simp⟩)
              have HNEW := Go.Lib.hid hnew
              clear hnew hown9 hgrow9 hA12 hrd hq11 hown11
              go_wp2_with fail
              go_roundw
              case rel =>
                have hpush : ([] : List Re).map Re.l ++ [rowB (pts L) n.top.n (([] : List Re).map Re.l).reverse] = (([] : List Re) ++ [(⟨some ⟨w7.heap.size, 0, none⟩, L.length, (List.range L.length).map (tvN (pts L) n.top.n (rowT []) (rowT []))⟩ : Re)]).map Re.l := by
                  rw [List.map_append]
                  simp [rowB, pts_len]
                refine ⟨k + 1, ([] : List Re) ++ [⟨some ⟨w7.heap.size, 0, none⟩, L.length, (List.range L.length).map (tvN (pts L) n.top.n (rowT []) (rowT []))⟩], by omega, by go_num, ?_, ?_, ?_, HNEW.out⟩
                · rw [← hpush, ← HST.out]; exact HR.out
                · rw [← hpush, ← HST.out]; exact HFO.out
                · have := HMK.out
                  simp at this ⊢ <;> omega
              case measure => simp [intOf]; omega
        · subst hv
          have h7 := hA.made
          generalize M = L0 at *
          have hbx : Blk (wr.alloc (.cells #[.int .i64 n.top.n.op, .string n.top.n.nm, .int .i64 n.top.n.cmp, .int .i64 n.top.n.val, .int .i64 n.top.n.lo, .int .i64 n.top.n.hi, .slice n.top.a 0 n.top.cap] 28)) wr.heap.size #[.int .i64 n.top.n.op, .string n.top.n.nm, .int .i64 n.top.n.cmp, .int .i64 n.top.n.val, .int .i64 n.top.n.lo, .int .i64 n.top.n.hi, .slice n.top.a 0 n.top.cap] 28 := Blk.new _ _ _
          have hq6 : Quiet wr (wr.alloc (.cells #[.int .i64 n.top.n.op, .string n.top.n.nm, .int .i64 n.top.n.cmp, .int .i64 n.top.n.val, .int .i64 n.top.n.lo, .int .i64 n.top.n.hi, .slice n.top.a 0 n.top.cap] 28)) := (Alters.refl _).alloc _
          have HA6 := Go.Lib.hid (hA.quiet' hq6)
          have hst : Tr.stack (rowB (pts L)) ((L0 ++ []).map Re.l) (Ft.pl n) = L0.map Re.l ++ [rowB (pts L) n.top.n (([] : List Re).map Re.l).reverse] := stackB (pts L) n L0 [] (by rw [hk0]; rfl)
          rw [List.append_nil] at hst
          have HST : Hid (Tr.stack (rowB (pts L)) (L0.map Re.l) (Ft.pl n) = L0.map Re.l ++ [rowB (pts L) n.top.n (([] : List Re).map Re.l).reverse]) := Go.Lib.hid hst
          clear hst
          have HR := Go.Lib.hid hrun.2.2
          have HMK := Go.Lib.hid hMk
          have HFO := Go.Lib.hid hfold
          clear hA hrun hfold hMk h7
          go_upto_region 7 with (fail)
          clear d0 d1 d2 d3 d4 d5 d6
          generalize wr.alloc _ = w6 at *
          obtain ⟨c0, c1, c2, c3, c4, c5, c6⟩ := seven_cells hbx
          go_wp2_with fail
          refine (rule_walk n.top.n.op n.top.n.nm n.top.n.cmp n.top.n.val n.top.n.lo n.top.n.hi _ a cap L none 0 [] none 0 [] _ (HW.out.quiet HA6.out.quiet) HOK.out (fun h => absurd rfl h) (fun h => absurd rfl h) HOP.out (by rw [← HKL.out, hk0]; simp)).mono ?_
          rintro e w7 ⟨v, rfl, ⟨g, lb, rfl, eg, hcl⟩, hq7⟩
          replace HA6 := Go.Lib.hid (HA6.out.quiet' hq7)
          have HCL := Go.Lib.hid hcl
          clear c0 c1 c2 c3 c4 c5 c6 hbx hq6 hcl hq7
          have hL := HL.out
          obtain ⟨i4, hi4, hz4, hs4, hb4⟩ := info_parts info4
          have hby : i4.bytes * L.length ≤ 281474976710656 := by rw [hb4]; omega
          go_upto_region 16 with (refine wpList_make_row _ rfl (.tmp 61) (.tmp 61) 47 rfl 4 i4 (.bool false) Tryd.underlying47 hi4 hz4 hs4 rfl .i64 .i64 L.length rfl rfl hby (by omega) ?_)
          have hb8 : Blk (w7.alloc (.cells (madeCells #[.bool false] L.length) 4)) w7.heap.size ((fills (tvN (pts L) n.top.n (rowT []) (rowT [])) 0 L.length).map Value.bool).toArray 4 := by rw [fills_zero, ← made_bool]; exact Blk.new _ _ _
          have hq8 : Quiet w7 (w7.alloc (.cells (madeCells #[.bool false] L.length) 4)) := (Alters.refl _).alloc _
          generalize w7.alloc _ = w8 at *
          have HB8 := Go.Lib.hid hb8
          have HQ8 := Go.Lib.hid hq8
          clear hb8 hq8 hi4 hz4 hs4 hb4 hby
          go_wp2_with fail
          go_loopw [65] (fun x wr2 => ∃ i : Nat, i ≤ L.length ∧ x = .int .i64 i ∧ Blk wr2 w7.heap.size ((fills (tvN (pts L) n.top.n (rowT []) (rowT [])) i L.length).map Value.bool).toArray 4 ∧ Quiet w7 wr2) (fun x _ => L.length - (intOf x).toNat)
          case atStart => exact ⟨0, Nat.zero_le _, rfl, HB8.out, HQ8.out⟩
          case round =>
            clear HB8 HQ8
            obtain ⟨i, hi, rfl, hb8, hq8⟩ := hrel
            by_cases hil : i < L.length
            · have fr := fun j => hb8.free j
              have HC := Go.Lib.hid (HCL.out wr hq8 i hil)
              have HB8 := Go.Lib.hid hb8
              have HQ8 := Go.Lib.hid hq8
              clear hb8 hq8
              go_wp2_with fail
              refine HC.out.mono ?_
              rintro e w9 ⟨rfl, hq9⟩
              replace HB8 := Go.Lib.hid (hq9.blk HB8.out (by simp))
              replace HQ8 := Go.Lib.hid (HQ8.out.trans hq9)
              clear HC hq9 fr
              have fr := fun j => HB8.out.free j
              have hc9 : w9.cell? ⟨w7.heap.size, i, none⟩ = some (.bool ((fills (tvN (pts L) n.top.n (rowT []) (rowT [])) i L.length)[i]'(by rw [fills_len _ hi]; exact hil))) := HB8.out.cell i (by simp [fills_len _ hi, hil])
              go_wp2_with fail
              refine ⟨⟨i + 1, by omega, by go_num, ?_, ?_⟩, by simp [intOf]; omega⟩
              · rw [← fills_step _ hil]
                exact HB8.out.set i _
              · exact HQ8.out.set (q := ⟨w7.heap.size, i, none⟩) (fun h => by simp at h) _
            · obtain rfl : i = L.length := by omega
              have hA9 := HA6.out.quiet' hq8
              have h47 := hA9.made
              
              rw [fills_all] at hb8
              have hown10 : wr.ownsRow (w.heap.size + 1) 47 1 (.slice (some ⟨gm, 0, none⟩) L0.length c) L0.length (L0.map Re.cell) := h47
              have hgx : wr.grownBy wr (.slice (some ⟨gm, 0, none⟩) L0.length c : Value).ownBlock := ⟨rfl, rfl, rfl, Nat.le_refl _, fun _ _ _ => rfl⟩
              have HA9 := Go.Lib.hid hA9
              have HB9 := Go.Lib.hid hb8
              clear hq8 hb8 HCL h47 hA9
              go_upto_region 22 with (refine wpList_clearB _ rfl (.tmp 77) rfl _ 0 _ rfl _ (run_clear0B _ _ _ _) ?_)
              have hq11 : Quiet wr (wr.alloc (.cells #[.slice (some ⟨w7.heap.size, 0, none⟩) L.length L.length] 47)) := (Alters.refl _).alloc _
              have hown11 := row_keep hown10 hq11 (by simp)
              have hrd : Reads (wr.alloc (.cells #[.slice (some ⟨w7.heap.size, 0, none⟩) L.length L.length] 47)) (some ⟨wr.heap.size, 0, none⟩) 1 1 [.slice (some ⟨w7.heap.size, 0, none⟩) L.length L.length] := ⟨rfl, fun _ => ⟨_, rfl, World.news_of_block (Blk.new _ _ _)⟩⟩
              obtain ⟨i0, hi0, hz0, hz1, hz2⟩ := info_parts info47
              have hl0 : L0.length ≤ 10000 := by first | omega | (simp at hMl ⊢; done) | (simp at hMl ⊢; omega)
              have HGX := Go.Lib.hid hgx
              have hbg : w.heap.size + 1 ≤ (wr.alloc (.cells #[.slice (some ⟨w7.heap.size, 0, none⟩) L.length L.length] 47)).heap.size := by have h1 := HGX.out.size; have h2 := HA9.out.quiet.size; simp; omega
              clear hgx hown10
              go_wp2_with (refine wpList_append_reads _ rfl (.tmp 80) (.tmp 82) 96 rfl (w.heap.size + 1) 47 i0 _ 1 24 Tryd.underlying96 hi0 hz0 hz1 hz2 rfl (by decide) (.slice (some ⟨gm, 0, none⟩) L0.length c) L0.length (L0.map Re.cell) rfl hown11 (some ⟨wr.heap.size, 0, none⟩) 1 1 [.slice (some ⟨w7.heap.size, 0, none⟩) L.length L.length] rfl hrd (by simp [Value.oneCell']) (by unfold maxLen; omega) (by omega) hbg ?_)
              all_goals
                intro v9 w12 hown9 hgrow9 hat9
                clear hat9
                obtain ⟨g9, c9, rfl⟩ := ownsRow_succ hown9
                have hA12 : Alters (fun k => (.slice (some ⟨gm, 0, none⟩) L0.length c : Value).ownBlock = some k) wr w12 := (((Alters.refl wr).grown HGX.out (fun k e _ => e)).alloc _).grown hgrow9 (fun k e _ => e)
                have hnew := HA9.out.other hA12 (mv2 := .slice (some ⟨g9, 0, none⟩) (L0.length + 1) c9) (M2 := L0 ++ [⟨some ⟨w7.heap.size, 0, none⟩, L.length, (List.range L.length).map (tvN (pts L) n.top.n (rowT []) (rowT []))⟩]) (by simpa [Re.cell] using hown9) (fun r hr => by
                  rcases List.mem_append.1 hr with hr | hr
                  · exact HA9.out.ok r (by simp [hr])
                  · obtain rfl : r = _ := by simpa using hr
                    exact ⟨fun _ => ⟨_, rfl, HB9.out⟩, by simp⟩)
                have HNEW := Go.Lib.hid hnew
                clear hnew hown9 hgrow9 hA12 hrd hq11 hown11
                go_wp2_with fail
                go_roundw
                case rel =>
                  have hpush : L0.map Re.l ++ [rowB (pts L) n.top.n (([] : List Re).map Re.l).reverse] = (L0 ++ [(⟨some ⟨w7.heap.size, 0, none⟩, L.length, (List.range L.length).map (tvN (pts L) n.top.n (rowT []) (rowT []))⟩ : Re)]).map Re.l := by
                    rw [List.map_append]
                    simp [rowB, pts_len]
                  refine ⟨k + 1, L0 ++ [⟨some ⟨w7.heap.size, 0, none⟩, L.length, (List.range L.length).map (tvN (pts L) n.top.n (rowT []) (rowT []))⟩], by omega, by go_num, ?_, ?_, ?_, HNEW.out⟩
                  · rw [← hpush, ← HST.out]; exact HR.out
                  · rw [← hpush, ← HST.out]; exact HFO.out
                  · have := HMK.out
                    simp at this ⊢ <;> omega
                case measure => simp [intOf]; omega
      · have hne : M ≠ [] := fun e => by subst e; have h7 := hrun.1; rw [pl_kids, List.length_map, hk0] at h7; simp at h7
        obtain ⟨L0, X, rfl⟩ : ∃ L0 X, M = L0 ++ [X] := by
          rcases List.eq_nil_or_concat M with e | ⟨L0, X, e⟩
          · exact absurd e hne
          · exact ⟨L0, X, by rw [e, List.concat_eq_append]⟩
        have h7 := hA.made
        have hL7 : (L0 ++ [X]).length = L0.length + 1 := by simp
        rw [hL7] at h7
        obtain ⟨gm, c, hmv⟩ := ownsRow_succ (k := L0.length) h7
        subst hmv
        have hnc := row_room13 h7
        have hl00 : L0.length ≤ 10000 := by rw [hL7] at hMl; omega
        clear hne hL7
        have hcX := h7.cells (g := gm) rfl (L0.length) X.cell (by simp)
        rw [add_plain, Nat.zero_add] at hcX
        unfold Re.cell at hcX
        have HX := Go.Lib.hid (hA.ok X (by simp))
        have hbx : Blk (wr.alloc (.cells #[.int .i64 n.top.n.op, .string n.top.n.nm, .int .i64 n.top.n.cmp, .int .i64 n.top.n.val, .int .i64 n.top.n.lo, .int .i64 n.top.n.hi, .slice n.top.a 1 n.top.cap] 28)) wr.heap.size #[.int .i64 n.top.n.op, .string n.top.n.nm, .int .i64 n.top.n.cmp, .int .i64 n.top.n.val, .int .i64 n.top.n.lo, .int .i64 n.top.n.hi, .slice n.top.a 1 n.top.cap] 28 := Blk.new _ _ _
        have hq6 : Quiet wr (wr.alloc (.cells #[.int .i64 n.top.n.op, .string n.top.n.nm, .int .i64 n.top.n.cmp, .int .i64 n.top.n.val, .int .i64 n.top.n.lo, .int .i64 n.top.n.hi, .slice n.top.a 1 n.top.cap] 28)) := (Alters.refl _).alloc _
        have HA6 := Go.Lib.hid (hA.quiet' hq6)
        have hst : Tr.stack (rowB (pts L)) ((L0 ++ [X]).map Re.l) (Ft.pl n) = L0.map Re.l ++ [rowB (pts L) n.top.n (([X] : List Re).map Re.l).reverse] := stackB (pts L) n L0 [X] (by rw [hk0]; rfl)
        skip
        have HST : Hid (Tr.stack (rowB (pts L)) ((L0 ++ [X]).map Re.l) (Ft.pl n) = L0.map Re.l ++ [rowB (pts L) n.top.n (([X] : List Re).map Re.l).reverse]) := Go.Lib.hid hst
        clear hst
        have HR := Go.Lib.hid hrun.2.2
        have HMK := Go.Lib.hid hMk
        have HFO := Go.Lib.hid hfold
        replace hcX := hq6.cell hcX (by simp)
        replace HX := Go.Lib.hid (show X.Ok _ ∧ _ from ⟨HX.out.1.quiet hq6, HX.out.2⟩)
        clear hA hrun hfold hMk h7
        go_upto_region 7 with (fail)
        clear d0 d1 d2 d3 d4 d5 d6
        generalize wr.alloc _ = w6 at *
        obtain ⟨c0, c1, c2, c3, c4, c5, c6⟩ := seven_cells hbx
        go_wp2_with fail
        refine (rule_walk n.top.n.op n.top.n.nm n.top.n.cmp n.top.n.val n.top.n.lo n.top.n.hi _ a cap L X.a X.c X.l none 0 [] _ (HW.out.quiet HA6.out.quiet) HOK.out HX.out.1.bl (fun h => absurd rfl h) HOP.out (by rw [← HKL.out, hk0]; exact ⟨fun _ => HX.out.2, fun h => absurd h (by decide)⟩)).mono ?_
        rintro e w7 ⟨v, rfl, ⟨g, lb, rfl, eg, hcl⟩, hq7⟩
        replace HA6 := Go.Lib.hid (HA6.out.quiet' hq7)
        have HCL := Go.Lib.hid hcl
        clear c0 c1 c2 c3 c4 c5 c6 hbx hq6 hcl hq7 hcX HX
        have hL := HL.out
        obtain ⟨i4, hi4, hz4, hs4, hb4⟩ := info_parts info4
        have hby : i4.bytes * L.length ≤ 281474976710656 := by rw [hb4]; omega
        go_upto_region 16 with (refine wpList_make_row _ rfl (.tmp 61) (.tmp 61) 47 rfl 4 i4 (.bool false) Tryd.underlying47 hi4 hz4 hs4 rfl .i64 .i64 L.length rfl rfl hby (by omega) ?_)
        have hb8 : Blk (w7.alloc (.cells (madeCells #[.bool false] L.length) 4)) w7.heap.size ((fills (tvN (pts L) n.top.n (rowT X.l) (rowT [])) 0 L.length).map Value.bool).toArray 4 := by rw [fills_zero, ← made_bool]; exact Blk.new _ _ _
        have hq8 : Quiet w7 (w7.alloc (.cells (madeCells #[.bool false] L.length) 4)) := (Alters.refl _).alloc _
        generalize w7.alloc _ = w8 at *
        have HB8 := Go.Lib.hid hb8
        have HQ8 := Go.Lib.hid hq8
        clear hb8 hq8 hi4 hz4 hs4 hb4 hby
        go_wp2_with fail
        go_loopw [65] (fun x wr2 => ∃ i : Nat, i ≤ L.length ∧ x = .int .i64 i ∧ Blk wr2 w7.heap.size ((fills (tvN (pts L) n.top.n (rowT X.l) (rowT [])) i L.length).map Value.bool).toArray 4 ∧ Quiet w7 wr2) (fun x _ => L.length - (intOf x).toNat)
        case atStart => exact ⟨0, Nat.zero_le _, rfl, HB8.out, HQ8.out⟩
        case round =>
          clear HB8 HQ8
          obtain ⟨i, hi, rfl, hb8, hq8⟩ := hrel
          by_cases hil : i < L.length
          · have fr := fun j => hb8.free j
            have HC := Go.Lib.hid (HCL.out wr hq8 i hil)
            have HB8 := Go.Lib.hid hb8
            have HQ8 := Go.Lib.hid hq8
            clear hb8 hq8
            go_wp2_with fail
            refine HC.out.mono ?_
            rintro e w9 ⟨rfl, hq9⟩
            replace HB8 := Go.Lib.hid (hq9.blk HB8.out (by simp))
            replace HQ8 := Go.Lib.hid (HQ8.out.trans hq9)
            clear HC hq9 fr
            have fr := fun j => HB8.out.free j
            have hc9 : w9.cell? ⟨w7.heap.size, i, none⟩ = some (.bool ((fills (tvN (pts L) n.top.n (rowT X.l) (rowT [])) i L.length)[i]'(by rw [fills_len _ hi]; exact hil))) := HB8.out.cell i (by simp [fills_len _ hi, hil])
            go_wp2_with fail
            refine ⟨⟨i + 1, by omega, by go_num, ?_, ?_⟩, by simp [intOf]; omega⟩
            · rw [← fills_step _ hil]
              exact HB8.out.set i _
            · exact HQ8.out.set (q := ⟨w7.heap.size, i, none⟩) (fun h => by simp at h) _
          · obtain rfl : i = L.length := by omega
            have hA9 := HA6.out.quiet' hq8
            have h47 := hA9.made
            rw [show (L0 ++ [X]).length = L0.length + 1 by simp] at h47
            rw [fills_all] at hb8
            have hcM : ¬ c = L0.length := by omega
            obtain ⟨w10, hrun10, hown10, hgx⟩ := run_clear_rowB (w := wr) (A := some ⟨gm, L0.length, none⟩) (c := c - L0.length) (ty := 0) h47 (by omega) (fun _ => rfl)
            rw [show (((L0 ++ [X])).map Re.cell).take L0.length = L0.map Re.cell by rw [List.map_append]; exact List.take_left' (by simp)] at hown10
            replace hgx : wr.grownBy w10 (.slice (some ⟨gm, 0, none⟩) (L0.length + 1) c : Value).ownBlock := hgx
            have HA9 := Go.Lib.hid hA9
            have HB9 := Go.Lib.hid hb8
            clear hq8 hb8 HCL h47 hA9
            go_upto_region 22 with (refine wpList_clearB _ rfl (.tmp 77) rfl _ 1 _ rfl _ hrun10 ?_)
            have hq11 : Quiet w10 (w10.alloc (.cells #[.slice (some ⟨w7.heap.size, 0, none⟩) L.length L.length] 47)) := (Alters.refl _).alloc _
            have hown11 := row_keep hown10 hq11 (by simp)
            have hrd : Reads (w10.alloc (.cells #[.slice (some ⟨w7.heap.size, 0, none⟩) L.length L.length] 47)) (some ⟨w10.heap.size, 0, none⟩) 1 1 [.slice (some ⟨w7.heap.size, 0, none⟩) L.length L.length] := ⟨rfl, fun _ => ⟨_, rfl, World.news_of_block (Blk.new _ _ _)⟩⟩
            obtain ⟨i0, hi0, hz0, hz1, hz2⟩ := info_parts info47
            have hl0 : L0.length ≤ 10000 := by first | omega | (simp at hMl ⊢; done) | (simp at hMl ⊢; omega)
            have HGX := Go.Lib.hid hgx
            have hbg : w.heap.size + 1 ≤ (w10.alloc (.cells #[.slice (some ⟨w7.heap.size, 0, none⟩) L.length L.length] 47)).heap.size := by have h1 := HGX.out.size; have h2 := HA9.out.quiet.size; simp; omega
            clear hgx hrun10 hown10
            go_wp2_with (refine wpList_append_reads _ rfl (.tmp 80) (.tmp 82) 96 rfl (w.heap.size + 1) 47 i0 _ 1 24 Tryd.underlying96 hi0 hz0 hz1 hz2 rfl (by decide) (.slice (some ⟨gm, 0, none⟩) L0.length c) L0.length (L0.map Re.cell) rfl hown11 (some ⟨w10.heap.size, 0, none⟩) 1 1 [.slice (some ⟨w7.heap.size, 0, none⟩) L.length L.length] rfl hrd (by simp [Value.oneCell']) (by unfold maxLen; omega) (by omega) hbg ?_)
            intro v9 w12 hown9 hgrow9 hat9
            clear hat9
            obtain ⟨g9, c9, rfl⟩ := ownsRow_succ hown9
            have hA12 : Alters (fun k => (.slice (some ⟨gm, 0, none⟩) (L0.length + 1) c : Value).ownBlock = some k) wr w12 := (((Alters.refl wr).grown HGX.out (fun k e _ => e)).alloc _).grown hgrow9 (fun k e _ => e)
            have hnew := HA9.out.other hA12 (mv2 := .slice (some ⟨g9, 0, none⟩) (L0.length + 1) c9) (M2 := L0 ++ [⟨some ⟨w7.heap.size, 0, none⟩, L.length, (List.range L.length).map (tvN (pts L) n.top.n (rowT X.l) (rowT []))⟩]) (by simpa [Re.cell] using hown9) (fun r hr => by
              rcases List.mem_append.1 hr with hr | hr
              · exact HA9.out.ok r (by simp [hr])
              · obtain rfl : r = _ := by simpa using hr
                exact ⟨fun _ => ⟨_, rfl, HB9.out⟩, by simp⟩)
            have HNEW := Go.Lib.hid hnew
            clear hnew hown9 hgrow9 hA12 hrd hq11 hown11
            go_wp2_with fail
            go_roundw
            case rel =>
              have hpush : L0.map Re.l ++ [rowB (pts L) n.top.n (([X] : List Re).map Re.l).reverse] = (L0 ++ [(⟨some ⟨w7.heap.size, 0, none⟩, L.length, (List.range L.length).map (tvN (pts L) n.top.n (rowT X.l) (rowT []))⟩ : Re)]).map Re.l := by
                rw [List.map_append]
                simp [rowB, pts_len]
              refine ⟨k + 1, L0 ++ [⟨some ⟨w7.heap.size, 0, none⟩, L.length, (List.range L.length).map (tvN (pts L) n.top.n (rowT X.l) (rowT []))⟩], by omega, by go_num, ?_, ?_, ?_, HNEW.out⟩
              · rw [← hpush, ← HST.out]; exact HR.out
              · rw [← hpush, ← HST.out]; exact HFO.out
              · have := HMK.out
                simp at this ⊢ <;> omega
            case measure => simp [intOf]; omega
      · obtain ⟨L0, Y, X, rfl⟩ : ∃ L0 Y X, M = L0 ++ [Y, X] := by
          have h7 := hrun.1
          rw [pl_kids, List.length_map, hk0, List.length_map] at h7
          rcases List.eq_nil_or_concat M with e | ⟨L1, X, e⟩
          · rw [e] at h7; simp at h7
          · rcases List.eq_nil_or_concat L1 with e2 | ⟨L0, Y, e2⟩
            · rw [e, e2] at h7; simp at h7
            · exact ⟨L0, Y, X, by rw [e, e2]; simp⟩
        have h7 := hA.made
        have hL7 : (L0 ++ [Y, X]).length = L0.length + 2 := by simp
        rw [hL7] at h7
        obtain ⟨gm, c, hmv⟩ := ownsRow_succ (k := L0.length + 1) h7
        rw [show L0.length + 1 + 1 = L0.length + 2 from rfl] at hmv
        subst hmv
        have hnc := row_room13 h7
        have hl00 : L0.length ≤ 10000 := by rw [hL7] at hMl; omega
        clear hL7
        have hcX := h7.cells (g := gm) rfl (L0.length + 1) X.cell (by simp)
        rw [add_plain, Nat.zero_add] at hcX
        unfold Re.cell at hcX
        have hcY := h7.cells (g := gm) rfl L0.length Y.cell (by simp)
        rw [add_plain, Nat.zero_add] at hcY
        unfold Re.cell at hcY
        have HX := Go.Lib.hid (hA.ok X (by simp))
        have HY := Go.Lib.hid (hA.ok Y (by simp))
        have hbx : Blk (wr.alloc (.cells #[.int .i64 n.top.n.op, .string n.top.n.nm, .int .i64 n.top.n.cmp, .int .i64 n.top.n.val, .int .i64 n.top.n.lo, .int .i64 n.top.n.hi, .slice n.top.a 2 n.top.cap] 28)) wr.heap.size #[.int .i64 n.top.n.op, .string n.top.n.nm, .int .i64 n.top.n.cmp, .int .i64 n.top.n.val, .int .i64 n.top.n.lo, .int .i64 n.top.n.hi, .slice n.top.a 2 n.top.cap] 28 := Blk.new _ _ _
        have hq6 : Quiet wr (wr.alloc (.cells #[.int .i64 n.top.n.op, .string n.top.n.nm, .int .i64 n.top.n.cmp, .int .i64 n.top.n.val, .int .i64 n.top.n.lo, .int .i64 n.top.n.hi, .slice n.top.a 2 n.top.cap] 28)) := (Alters.refl _).alloc _
        have HA6 := Go.Lib.hid (hA.quiet' hq6)
        have hst : Tr.stack (rowB (pts L)) ((L0 ++ [Y, X]).map Re.l) (Ft.pl n) = L0.map Re.l ++ [rowB (pts L) n.top.n (([Y, X] : List Re).map Re.l).reverse] := stackB (pts L) n L0 [Y, X] (by rw [hk0]; rfl)
        skip
        have HST : Hid (Tr.stack (rowB (pts L)) ((L0 ++ [Y, X]).map Re.l) (Ft.pl n) = L0.map Re.l ++ [rowB (pts L) n.top.n (([Y, X] : List Re).map Re.l).reverse]) := Go.Lib.hid hst
        clear hst
        have HR := Go.Lib.hid hrun.2.2
        have HMK := Go.Lib.hid hMk
        have HFO := Go.Lib.hid hfold
        replace hcX := hq6.cell hcX (by simp)
        replace hcY := hq6.cell hcY (by simp)
        replace HX := Go.Lib.hid (show X.Ok _ ∧ _ from ⟨HX.out.1.quiet hq6, HX.out.2⟩)
        replace HY := Go.Lib.hid (show Y.Ok _ ∧ _ from ⟨HY.out.1.quiet hq6, HY.out.2⟩)
        clear hA hrun hfold hMk h7
        go_upto_region 7 with (fail)
        clear d0 d1 d2 d3 d4 d5 d6
        generalize wr.alloc _ = w6 at *
        obtain ⟨c0, c1, c2, c3, c4, c5, c6⟩ := seven_cells hbx
        go_upto_region 13 with (fail)
        go_quiet (fail)
        generalize hwd : World.drewN w6 _ = wd at *
        have hqd : Quiet w6 wd := by rw [← hwd]; exact (Alters.refl _).drewN _
        clear c0 c1 c2 c3 c4 c5 c6 hwd
        replace HA6 := Go.Lib.hid (HA6.out.quiet' hqd)
        replace HX := Go.Lib.hid (show X.Ok _ ∧ _ from ⟨HX.out.1.quiet hqd, HX.out.2⟩)
        replace HY := Go.Lib.hid (show Y.Ok _ ∧ _ from ⟨HY.out.1.quiet hqd, HY.out.2⟩)
        replace hbx := hqd.blk hbx (by simp)
        clear hqd
        obtain ⟨c0, c1, c2, c3, c4, c5, c6⟩ := seven_cells hbx
        go_wp2_with fail
        refine (rule_walk n.top.n.op n.top.n.nm n.top.n.cmp n.top.n.val n.top.n.lo n.top.n.hi _ a cap L X.a X.c X.l Y.a Y.c Y.l _ (HW.out.quiet HA6.out.quiet) HOK.out HX.out.1.bl HY.out.1.bl HOP.out (by rw [← HKL.out, hk0]; exact ⟨fun h => absurd h (by decide), fun _ => ⟨HX.out.2, HY.out.2⟩⟩)).mono ?_
        rintro e w7 ⟨v, rfl, ⟨g, lb, rfl, eg, hcl⟩, hq7⟩
        replace HA6 := Go.Lib.hid (HA6.out.quiet' hq7)
        have HCL := Go.Lib.hid hcl
        clear c0 c1 c2 c3 c4 c5 c6 hbx hq6 hcl hq7 hcX HX hcY HY
        have hL := HL.out
        obtain ⟨i4, hi4, hz4, hs4, hb4⟩ := info_parts info4
        have hby : i4.bytes * L.length ≤ 281474976710656 := by rw [hb4]; omega
        go_upto_region 16 with (refine wpList_make_row _ rfl (.tmp 61) (.tmp 61) 47 rfl 4 i4 (.bool false) Tryd.underlying47 hi4 hz4 hs4 rfl .i64 .i64 L.length rfl rfl hby (by omega) ?_)
        have hb8 : Blk (w7.alloc (.cells (madeCells #[.bool false] L.length) 4)) w7.heap.size ((fills (tvN (pts L) n.top.n (rowT X.l) (rowT Y.l)) 0 L.length).map Value.bool).toArray 4 := by rw [fills_zero, ← made_bool]; exact Blk.new _ _ _
        have hq8 : Quiet w7 (w7.alloc (.cells (madeCells #[.bool false] L.length) 4)) := (Alters.refl _).alloc _
        generalize w7.alloc _ = w8 at *
        have HB8 := Go.Lib.hid hb8
        have HQ8 := Go.Lib.hid hq8
        clear hb8 hq8 hi4 hz4 hs4 hb4 hby
        go_wp2_with fail
        go_loopw [65] (fun x wr2 => ∃ i : Nat, i ≤ L.length ∧ x = .int .i64 i ∧ Blk wr2 w7.heap.size ((fills (tvN (pts L) n.top.n (rowT X.l) (rowT Y.l)) i L.length).map Value.bool).toArray 4 ∧ Quiet w7 wr2) (fun x _ => L.length - (intOf x).toNat)
        case atStart => exact ⟨0, Nat.zero_le _, rfl, HB8.out, HQ8.out⟩
        case round =>
          clear HB8 HQ8
          obtain ⟨i, hi, rfl, hb8, hq8⟩ := hrel
          by_cases hil : i < L.length
          · have fr := fun j => hb8.free j
            have HC := Go.Lib.hid (HCL.out wr hq8 i hil)
            have HB8 := Go.Lib.hid hb8
            have HQ8 := Go.Lib.hid hq8
            clear hb8 hq8
            go_wp2_with fail
            refine HC.out.mono ?_
            rintro e w9 ⟨rfl, hq9⟩
            replace HB8 := Go.Lib.hid (hq9.blk HB8.out (by simp))
            replace HQ8 := Go.Lib.hid (HQ8.out.trans hq9)
            clear HC hq9 fr
            have fr := fun j => HB8.out.free j
            have hc9 : w9.cell? ⟨w7.heap.size, i, none⟩ = some (.bool ((fills (tvN (pts L) n.top.n (rowT X.l) (rowT Y.l)) i L.length)[i]'(by rw [fills_len _ hi]; exact hil))) := HB8.out.cell i (by simp [fills_len _ hi, hil])
            go_wp2_with fail
            refine ⟨⟨i + 1, by omega, by go_num, ?_, ?_⟩, by simp [intOf]; omega⟩
            · rw [← fills_step _ hil]
              exact HB8.out.set i _
            · exact HQ8.out.set (q := ⟨w7.heap.size, i, none⟩) (fun h => by simp at h) _
          · obtain rfl : i = L.length := by omega
            have hA9 := HA6.out.quiet' hq8
            have h47 := hA9.made
            rw [show (L0 ++ [Y, X]).length = L0.length + 2 by simp] at h47
            rw [fills_all] at hb8
            have hcM : ¬ c = L0.length := by omega
            obtain ⟨w10, hrun10, hown10, hgx⟩ := run_clear_rowB (w := wr) (A := some ⟨gm, L0.length, none⟩) (c := c - L0.length) (ty := 0) h47 (by omega) (fun _ => rfl)
            rw [show (((L0 ++ [Y, X])).map Re.cell).take L0.length = L0.map Re.cell by rw [List.map_append]; exact List.take_left' (by simp)] at hown10
            replace hgx : wr.grownBy w10 (.slice (some ⟨gm, 0, none⟩) (L0.length + 2) c : Value).ownBlock := hgx
            have HA9 := Go.Lib.hid hA9
            have HB9 := Go.Lib.hid hb8
            clear hq8 hb8 HCL h47 hA9
            go_upto_region 22 with (refine wpList_clearB _ rfl (.tmp 77) rfl _ 2 _ rfl _ hrun10 ?_)
            have hq11 : Quiet w10 (w10.alloc (.cells #[.slice (some ⟨w7.heap.size, 0, none⟩) L.length L.length] 47)) := (Alters.refl _).alloc _
            have hown11 := row_keep hown10 hq11 (by simp)
            have hrd : Reads (w10.alloc (.cells #[.slice (some ⟨w7.heap.size, 0, none⟩) L.length L.length] 47)) (some ⟨w10.heap.size, 0, none⟩) 1 1 [.slice (some ⟨w7.heap.size, 0, none⟩) L.length L.length] := ⟨rfl, fun _ => ⟨_, rfl, World.news_of_block (Blk.new _ _ _)⟩⟩
            obtain ⟨i0, hi0, hz0, hz1, hz2⟩ := info_parts info47
            have hl0 : L0.length ≤ 10000 := by first | omega | (simp at hMl ⊢; done) | (simp at hMl ⊢; omega)
            have HGX := Go.Lib.hid hgx
            have hbg : w.heap.size + 1 ≤ (w10.alloc (.cells #[.slice (some ⟨w7.heap.size, 0, none⟩) L.length L.length] 47)).heap.size := by have h1 := HGX.out.size; have h2 := HA9.out.quiet.size; simp; omega
            clear hgx hrun10 hown10
            go_wp2_with (refine wpList_append_reads _ rfl (.tmp 80) (.tmp 82) 96 rfl (w.heap.size + 1) 47 i0 _ 1 24 Tryd.underlying96 hi0 hz0 hz1 hz2 rfl (by decide) (.slice (some ⟨gm, 0, none⟩) L0.length c) L0.length (L0.map Re.cell) rfl hown11 (some ⟨w10.heap.size, 0, none⟩) 1 1 [.slice (some ⟨w7.heap.size, 0, none⟩) L.length L.length] rfl hrd (by simp [Value.oneCell']) (by unfold maxLen; omega) (by omega) hbg ?_)
            intro v9 w12 hown9 hgrow9 hat9
            clear hat9
            obtain ⟨g9, c9, rfl⟩ := ownsRow_succ hown9
            have hA12 : Alters (fun k => (.slice (some ⟨gm, 0, none⟩) (L0.length + 2) c : Value).ownBlock = some k) wr w12 := (((Alters.refl wr).grown HGX.out (fun k e _ => e)).alloc _).grown hgrow9 (fun k e _ => e)
            have hnew := HA9.out.other hA12 (mv2 := .slice (some ⟨g9, 0, none⟩) (L0.length + 1) c9) (M2 := L0 ++ [⟨some ⟨w7.heap.size, 0, none⟩, L.length, (List.range L.length).map (tvN (pts L) n.top.n (rowT X.l) (rowT Y.l))⟩]) (by simpa [Re.cell] using hown9) (fun r hr => by
              rcases List.mem_append.1 hr with hr | hr
              · exact HA9.out.ok r (by simp [hr])
              · obtain rfl : r = _ := by simpa using hr
                exact ⟨fun _ => ⟨_, rfl, HB9.out⟩, by simp⟩)
            have HNEW := Go.Lib.hid hnew
            clear hnew hown9 hgrow9 hA12 hrd hq11 hown11
            go_wp2_with fail
            go_roundw
            case rel =>
              have hpush : L0.map Re.l ++ [rowB (pts L) n.top.n (([Y, X] : List Re).map Re.l).reverse] = (L0 ++ [(⟨some ⟨w7.heap.size, 0, none⟩, L.length, (List.range L.length).map (tvN (pts L) n.top.n (rowT X.l) (rowT Y.l))⟩ : Re)]).map Re.l := by
                rw [List.map_append]
                simp [rowB, pts_len]
              refine ⟨k + 1, L0 ++ [⟨some ⟨w7.heap.size, 0, none⟩, L.length, (List.range L.length).map (tvN (pts L) n.top.n (rowT X.l) (rowT Y.l))⟩], by omega, by go_num, ?_, ?_, ?_, HNEW.out⟩
              · rw [← hpush, ← HST.out]; exact HR.out
              · rw [← hpush, ← HST.out]; exact HFO.out
              · have := HMK.out
                simp at this ⊢ <;> omega
            case measure => simp [intOf]; omega
    · obtain rfl : k = nN := by omega
      have hM : M.map Re.l = [rowsC (pts L) (Ft.pl t)] := by
        rw [List.drop_eq_nil_of_le (by rw [HNL.out]; exact Nat.le_refl _)] at hfold
        simpa using hfold
      obtain ⟨r9, rfl, hp9⟩ : ∃ r9, M = [r9] ∧ r9.l = rowsC (pts L) (Ft.pl t) := by
        rcases M with _ | ⟨t9, _ | ⟨t8, M⟩⟩
        · simp at hM
        · exact ⟨t9, rfl, by simpa using hM⟩
        · simp at hM
      have h7 := hA.made
      obtain ⟨gm, c, hmv⟩ := ownsRow_succ (k := 0) h7
      subst hmv
      have d0 := h7.cells (g := gm) rfl 0 r9.cell rfl
      have HOK9 := Go.Lib.hid (hA.ok r9 (by simp)).1.bl
      have HQ9 := Go.Lib.hid hA.quiet
      have HP9 := Go.Lib.hid hp9
      clear hA h7 hM hrun hfold hp9
      rw [add_plain, Nat.zero_add] at d0
      unfold Re.cell at d0
      go_wp2_with fail
      go_ret
      rw [HRF.out, ← HP9.out]
      exact ⟨_, _, rfl, HOK9.out, HQ9.out⟩
end Go.Proofs.YtnpcakakjhiboaaDoor
