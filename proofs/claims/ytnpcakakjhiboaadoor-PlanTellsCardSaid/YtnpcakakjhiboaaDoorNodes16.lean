/- The unlike nodes of what a formula becomes (57), and a kid's place (59), as the model tells them. No condition. -/
import Derived.Test.YtnpcakakjhiboaaDoorRef16
namespace Go.Proofs.YtnpcakakjhiboaaDoor
open Go.RowKit Go.Lo Go.WideShapes

abbrev AllN : Nat → Prop := fun _ => True

theorem own_fs {w : World} {base : Nat} {ty : TypeId} {v : Value} {T : List Ft} (h : w.ownsRow base ty 7 v T.length (T.flatMap Ft.cells)) : ∃ a c, v = .slice a T.length c ∧ FsAt AllN w a T := by
  obtain ⟨a, c, rfl⟩ := own_form h
  refine ⟨a, c, rfl, fun hn => ?_⟩
  obtain ⟨g, c2, e, -, -, hc⟩ := row_at h (List.length_pos_iff.2 hn)
  obtain ⟨rfl, rfl⟩ : a = some ⟨g, 0, none⟩ ∧ c = c2 := by simpa using e
  exact ⟨g, 0, rfl, trivial, fun i t ht => by rw [Nat.zero_add]; exact hc i t ht⟩

/-- The unlike ones so far. -/
structure DedAt (w3 : World) (v : Value) (T : List Ft) (W : World) : Prop where
  row : W.ownsRow w3.heap.size 33 7 v T.length (T.flatMap Ft.cells)
  inn : ∀ t, t ∈ T → In (fun k => k < w3.heap.size) W t
  quiet : Quiet w3 W

theorem DedAt.keep {w3 W W' : World} {v : Value} {T : List Ft} (h : DedAt w3 v T W) (hq : Quiet W W') : DedAt w3 v T W' := ⟨row_keep h.row hq (by simp), fun t ht => (h.inn t ht).quiet hq, h.quiet.trans hq⟩

theorem DedAt.add {w3 W W2 : World} {v v2 : Value} {T : List Ft} {x : Ft} {o : Obj} (h : DedAt w3 v T W) (hx : In (fun k => k < w3.heap.size) W x) (hown : W2.ownsRow w3.heap.size 33 7 v2 (T.length + 1) (T.flatMap Ft.cells ++ Ft.cells x)) (hgrow : (W.alloc o).grownBy W2 v.ownBlock) : DedAt w3 v2 (T ++ [x]) W2 := by
  have hA : Alters (fun k => v.ownBlock = some k) W W2 := ((Alters.refl W).alloc o).grown hgrow (fun k e _ => e)
  have hlo : ∀ k, k < w3.heap.size → ¬ v.ownBlock = some k := fun k hk e => by have := (h.row.lt k e).1; omega
  refine ⟨by simpa using hown, fun t ht => ?_, h.quiet.then hA (fun i hi hp => absurd hp (hlo i hi))⟩
  rcases List.mem_append.1 ht with ht | ht
  · exact (h.inn t ht).keep hA (fun k hk _ => hlo k hk)
  · obtain rfl : t = x := by simpa using ht
    exact hx.keep hA (fun k hk _ => hlo k hk)

/-- The parts, in a row of the call's own. -/
def PartsEnd (U : List Fm) (w : World) (e : Ending) (w' : World) : Prop := ∃ (v : Value) (T : List Ft), e = .returned v ∧ w'.ownsRow w.heap.size 33 7 v T.length (T.flatMap Ft.cells) ∧ T.map Ft.pl = U ∧ (∀ t, t ∈ T → In AllN w' t) ∧ Quiet w w'

def partsIf (f : Fm) : List Fm := if first f = 0 then partsOf (normOf f) else []

theorem take_fold {l : List Fm} {k : Nat} {x : Fm} (h : l[k]? = some x) : (l.take (k + 1)).foldl addT [] = addT ((l.take k).foldl addT []) x := by
  rw [List.take_add_one, h]
  simp [List.foldl_append]

set_option maxRecDepth 100000 in
set_option maxHeartbeats 4000000 in
theorem nodes57_walk (t : Ft) (w : World) (hin : In AllN w t) (hsz : t.size ≤ 1000) : Calls Tryd.prog 57 #[t.val] w (PartsEnd (partsIf (Ft.pl t)) w) := by
  have HI := Go.Lib.hid hin
  obtain ⟨i0, hi0, hz0, hz1, hz2⟩ := info_parts info33
  clear hin
  unfold Ft.val
  go_enter Tryd.func57, Tryd.ntmps57
  go_upto_region 2 with (fail)
  have B : Hid (Blk (w.alloc (.cells #[.int .i64 t.top.n.op, .string t.top.n.nm, .int .i64 t.top.n.cmp, .int .i64 t.top.n.val, .int .i64 t.top.n.lo, .int .i64 t.top.n.hi, .slice t.top.a t.kids.length t.top.cap] 33)) w.heap.size #[.int .i64 t.top.n.op, .string t.top.n.nm, .int .i64 t.top.n.cmp, .int .i64 t.top.n.val, .int .i64 t.top.n.lo, .int .i64 t.top.n.hi, .slice t.top.a t.kids.length t.top.cap] 33) := Blk.new _ _ _
  have HQ1 : Hid (Quiet w (w.alloc (.cells #[.int .i64 t.top.n.op, .string t.top.n.nm, .int .i64 t.top.n.cmp, .int .i64 t.top.n.val, .int .i64 t.top.n.lo, .int .i64 t.top.n.hi, .slice t.top.a t.kids.length t.top.cap] 33))) := (Alters.refl _).alloc _
  generalize w.alloc _ = w1 at *
  obtain ⟨c0, c1, c2, c3, c4, c5, c6⟩ := seven_cells B.out
  have HC := Go.Lib.hid (first8_walk AllN t (by omega) w1 (HI.out.quiet HQ1.out))
  unfold Ft.val at HC
  by_cases hf : first (Ft.pl t) = 0
  rotate_left
  · have HP : Hid (partsIf (Ft.pl t) = []) := Go.Lib.hid (by unfold partsIf; rw [if_neg hf])
    generalize first (Ft.pl t) = F0 at *
    have b1 : (F0 != 0) = true := by simpa using hf
    clear hf
    go_wp2_with fail
    refine HC.out.mono ?_
    rintro e w2 ⟨rfl, hq2⟩
    clear c0 c1 c2 c3 c4 c5 c6 HC
    go_wp2_with fail
    go_ret
    exact ⟨_, [], rfl, World.ownsRow_nil _ _ _ _, by rw [HP.out]; rfl, by simp, HQ1.out.trans hq2⟩
  · have HP : Hid (partsIf (Ft.pl t) = (normOf (Ft.pl t)).post.foldl addT []) := Go.Lib.hid (by unfold partsIf; rw [if_pos hf]; rfl)
    have HNZ : Hid ((normOf (Ft.pl t)).size ≤ 4000) := Go.Lib.hid (by
      have h1 := (first_zero _).1 hf
      rw [normOf_sound h1]
      have h2 := made_size _ h1
      rw [show (Ft.pl t).size = t.size from Tr.map_size _ _] at h2
      omega)
    rw [hf] at HC
    clear hf
    go_wp2_with fail
    refine HC.out.mono ?_
    rintro e w2 ⟨rfl, hq2⟩
    clear c0 c1 c2 c3 c4 c5 c6 HC
    replace B := Go.Lib.hid (hq2.blk B.out (by simp))
    replace HQ1 := Go.Lib.hid (HQ1.out.trans hq2)
    clear hq2
    obtain ⟨c0, c1, c2, c3, c4, c5, c6⟩ := seven_cells B.out
    have HC := Go.Lib.hid (of14_v AllN t w2 (HI.out.quiet HQ1.out) (by omega) (fun _ _ => trivial))
    unfold Ft.val at HC
    go_wp2_with fail
    refine HC.out.mono ?_
    rintro e w3 ⟨v, rfl, ⟨m, rfl, hp, hi⟩, hq⟩
    clear c0 c1 c2 c3 c4 c5 c6 HC
    replace HQ1 := Go.Lib.hid (HQ1.out.trans hq)
    have HM : Hid (Ft.pl m = normOf (Ft.pl t)) := hp
    have HMZ : Hid (m.size ≤ 4000) := Go.Lib.hid (by rw [← show (Ft.pl m).size = m.size from Tr.map_size _ _, hp]; exact HNZ.out)
    have HMI := Go.Lib.hid hi
    clear hq hp hi
    have HC := Go.Lib.hid (after_any AllN m (by have := HMZ.out; omega) w3 HMI.out)
    unfold Ft.val at HC ⊢
    go_wp2_with fail
    refine HC.out.mono ?_
    rintro e w4 ⟨v, rfl, hown, hq⟩
    clear HC
    have hinn : ∀ x, x ∈ m.post → In (fun k => k < w4.heap.size) w4 x := fun x hx => ((HMI.out.pre x ((Tr.mem_post m x).1 hx)).quiet hq).mono (fun k hk _ => hk)
    have hlen : m.post.length ≤ 4000 := by rw [Tr.post_length]; exact HMZ.out
    have hpos : 0 < m.post.length := by rw [Tr.post_length]; cases m; simp [Tr.size]; omega
    obtain ⟨g, c, rfl, -, hg, hat⟩ := row_at hown hpos
    have HPP : Hid ((normOf (Ft.pl t)).post = m.post.map Ft.pl) := Go.Lib.hid (by rw [← HM.out]; exact Tr.map_post Hd.n m)
    have HPE : Hid (partsIf (Ft.pl t) = (m.post.map Ft.pl).foldl addT []) := Go.Lib.hid (by rw [HP.out, HPP.out])
    have HIN := Go.Lib.hid hinn
    have HAT := Go.Lib.hid hat
    have HQ := Go.Lib.hid (HQ1.out.trans hq)
    clear hown hq hinn hat hg HMI HPP HP HNZ HMZ HM B
    generalize m.post = N at *
    have HD : Hid (DedAt w4 (.slice none 0 0) [] w4) := ⟨World.ownsRow_nil _ _ _ _, by simp, Alters.refl _⟩
    go_wp2_with fail
    go_loopw [3, 5] (fun mv i wr => ∃ (k : Nat) (T : List Ft), k ≤ N.length ∧ i = .int .i64 k ∧ T.map Ft.pl = ((N.map Ft.pl).take k).foldl addT [] ∧ T.length ≤ k ∧ DedAt w4 mv T wr) (fun _ i _ => N.length - (intOf i).toNat)
    case atStart => exact ⟨0, [], Nat.zero_le _, rfl, rfl, Nat.le_refl _, HD.out⟩
    case round =>
      clear HD
      obtain ⟨k, T, hk, rfl, hT, hTk, hD⟩ := hrel
      by_cases hlt : k < N.length
      · obtain ⟨A, cc, rfl, hfs⟩ := own_fs hD.row
        obtain ⟨d0, d1, d2, d3, d4, d5, d6⟩ := ((HAT.out k N[k] (by simp [hlt])).keep hD.quiet (by simp)).seven
        have hxin := (HIN.out N[k] (by simp)).quiet hD.quiet
        have HE : Hid ((N.map Ft.pl)[k]? = some (Ft.pl N[k])) := Go.Lib.hid (by simp [hlt])
        have HS := Go.Lib.hid (place93_walk A cc T N[k] wr hfs (fun x hx => (hD.inn x hx).mono (fun _ _ _ => trivial)) (hxin.mono (fun _ _ _ => trivial)) (by omega))
        have HX := Go.Lib.hid hxin
        have HD := Go.Lib.hid hD
        have HT := Go.Lib.hid hT
        have HF := Go.Lib.hid (take_fold HE.out)
        clear hxin hfs hD hT
        unfold Ft.val at HS
        generalize N[k] = x at *
        by_cases hm : Ft.pl x ∈ T.map Ft.pl
        · have HM := Go.Lib.hid hm
          obtain ⟨hp1, -⟩ := place_mem hm
          rw [hp1] at HS
          have b1 : decide (((T.map Ft.pl).idxOf (Ft.pl x) : Int) < 0) = false := by rw [decide_eq_false_iff_not]; omega
          clear hm hp1
          generalize ((T.map Ft.pl).idxOf (Ft.pl x) : Int) = q at *
          go_wp2_with fail
          refine HS.out.mono ?_
          rintro e w5 ⟨rfl, hq5⟩
          clear d0 d1 d2 d3 d4 d5 d6 HS
          have HD2 := Go.Lib.hid (HD.out.keep hq5)
          clear hq5
          go_wp2_with fail
          go_roundw
          case rel => exact ⟨k + 1, T, by omega, by go_num, by rw [HF.out, ← HT.out, addT, if_pos HM.out], by omega, HD2.out⟩
          case measure => simp [intOf]; omega
        · have HM := Go.Lib.hid hm
          rw [place_not hm] at HS
          clear hm
          go_wp2_with fail
          refine HS.out.mono ?_
          rintro e w5 ⟨rfl, hq5⟩
          replace d0 := hq5.cell d0 (by simp)
          replace d1 := hq5.cell d1 (by simp)
          replace d2 := hq5.cell d2 (by simp)
          replace d3 := hq5.cell d3 (by simp)
          replace d4 := hq5.cell d4 (by simp)
          replace d5 := hq5.cell d5 (by simp)
          replace d6 := hq5.cell d6 (by simp)
          have HD2 := Go.Lib.hid (HD.out.keep hq5)
          have HX2 := Go.Lib.hid (HX.out.quiet hq5)
          clear hq5 HS
          go_wp2_with (at_builtin; refine wpList_append_lies _ rfl (.tmp 26) (.tmp 31) 31 rfl w4.heap.size 33 i0 _ 7 80 Tryd.underlying31 hi0 hz0 hz1 hz2 rfl (by decide) (.slice A T.length cc) _ _ rfl (row_keep HD2.out.row ((Alters.refl (p := fun _ => False) w5).alloc (.cells #[.int .i64 x.top.n.op, .string x.top.n.nm, .int .i64 x.top.n.cmp, .int .i64 x.top.n.val, .int .i64 x.top.n.lo, .int .i64 x.top.n.hi, .slice x.top.a x.kids.length x.top.cap] 33)) (by simp)) ⟨w5.heap.size, 0, none⟩ 1 1 [.int .i64 x.top.n.op, .string x.top.n.nm, .int .i64 x.top.n.cmp, .int .i64 x.top.n.val, .int .i64 x.top.n.lo, .int .i64 x.top.n.hi, .slice x.top.a x.kids.length x.top.cap] rfl rfl ?c1 ?c2 (by omega) ?c3 ?c7 ?c4 (w5.heap.size + 1) ?c5 ?c6)
          case c1 => exact World.news_of_block (Blk.new w5 _ 33)
          case c2 => exact cells_one x
          case c5 => simp
          case c3 => unfold maxLen; omega
          case c7 => omega
          case c4 => have := HD2.out.quiet.size; simp; omega
          case c6 =>
            intro g5 cp w6 hown hgrow hat hlt4
            have HD3 := Go.Lib.hid (HD2.out.add HX2.out hown hgrow)
            clear hown hgrow hat hlt4 d0 d1 d2 d3 d4 d5 d6
            go_wp2_with fail
            go_roundw
            case rel => exact ⟨k + 1, T ++ [x], by omega, by go_num, by rw [HF.out, ← HT.out, addT, if_neg HM.out]; simp, by simp; omega, HD3.out⟩
            case measure => simp [intOf]; omega
      · obtain rfl : k = N.length := by omega
        have HR : Hid (T.map Ft.pl = partsIf (Ft.pl t)) := Go.Lib.hid (by rw [HPE.out, hT]; rw [List.take_of_length_le (by simp)])
        have HD := Go.Lib.hid hD
        clear hD hT
        obtain ⟨A, cc, rfl⟩ := own_form HD.out.row
        go_wp2_with fail
        go_ret
        refine ⟨_, T, rfl, ?_, HR.out, fun x hx => (HD.out.inn x hx).mono (fun _ _ _ => trivial), HQ.out.trans HD.out.quiet⟩
        rcases HD.out.row with ⟨h1, ⟨h2, h3⟩ | ⟨g', c', cur, h2, h3, h4⟩⟩
        · exact ⟨h1, .inl ⟨h2, h3⟩⟩
        · exact ⟨h1, .inr ⟨g', c', cur, h2, by have := HQ.out.size; omega, h4⟩⟩

set_option maxRecDepth 100000 in
set_option maxHeartbeats 4000000 in
theorem kid59_walk (A : Option Addr) (c : Nat) (T : List Ft) (t : Ft) (i : Nat) (w : World) (hf : FsAt AllN w A T) (hT : ∀ x, x ∈ T → In AllN w x) (hin : In AllN w t) (hl : T.length ≤ 10000) : Calls Tryd.prog 59 #[.slice A T.length c, t.val, .int .i64 i] w (Said (.int .i64 (kidAt (T.map Ft.pl) (Ft.pl t) i)) w) := by
  have HF := Go.Lib.hid hf
  have HT := Go.Lib.hid hT
  have HI := Go.Lib.hid hin
  clear hf hT hin
  unfold Ft.val
  go_enter Tryd.func59, Tryd.ntmps59
  go_upto_region 1 with (fail)
  have B : Hid (Blk (w.alloc (.cells #[.int .i64 t.top.n.op, .string t.top.n.nm, .int .i64 t.top.n.cmp, .int .i64 t.top.n.val, .int .i64 t.top.n.lo, .int .i64 t.top.n.hi, .slice t.top.a t.kids.length t.top.cap] 33)) w.heap.size #[.int .i64 t.top.n.op, .string t.top.n.nm, .int .i64 t.top.n.cmp, .int .i64 t.top.n.val, .int .i64 t.top.n.lo, .int .i64 t.top.n.hi, .slice t.top.a t.kids.length t.top.cap] 33) := Blk.new _ _ _
  have HQ1 : Hid (Quiet w (w.alloc (.cells #[.int .i64 t.top.n.op, .string t.top.n.nm, .int .i64 t.top.n.cmp, .int .i64 t.top.n.val, .int .i64 t.top.n.lo, .int .i64 t.top.n.hi, .slice t.top.a t.kids.length t.top.cap] 33))) := (Alters.refl _).alloc _
  generalize w.alloc _ = w1 at *
  have c6 := B.out.cell 6 rfl
  by_cases hlt : i < t.kids.length
  · have hg : decide (((t.kids.length : Nat) : Int) ≤ (i : Int)) = false := by rw [decide_eq_false_iff_not]; omega
    have hne : t.kids ≠ [] := fun h => by rw [h] at hlt; simp at hlt
    obtain ⟨b, o, ha, -, hc⟩ := HI.out.fs hne
    rw [ha] at c6
    obtain ⟨d0, d1, d2, d3, d4, d5, d6⟩ := ((hc i t.kids[i] (by simp [hlt])).keep HQ1.out (by simp)).seven
    have HC := Go.Lib.hid (place93_walk A c T t.kids[i] w1 (HF.out.keep HQ1.out (fun _ _ _ h => h)) (fun x hx => (HT.out x hx).quiet HQ1.out) ((HI.out.kid (k := t.kids[i]) (by simp)).quiet HQ1.out) hl)
    have HK : Hid (kidAt (T.map Ft.pl) (Ft.pl t) i = place (T.map Ft.pl) (Ft.pl t.kids[i])) := Go.Lib.hid (kidAt_some (by rw [pl_kids]; simp [hlt]))
    have hln := HI.out.len
    unfold maxLen at hln
    clear hc
    unfold Ft.val at HC
    generalize t.kids[i] = x at *
    generalize place (T.map Ft.pl) (Ft.pl x) = q at *
    go_wp2_with fail
    refine HC.out.mono ?_
    rintro e w2 ⟨rfl, hq⟩
    clear d0 d1 d2 d3 d4 d5 d6 HC
    go_wp2_with fail
    go_ret
    exact ⟨by rw [HK.out]; rfl, HQ1.out.trans hq⟩
  · have hg : decide (((t.kids.length : Nat) : Int) ≤ (i : Int)) = true := by rw [decide_eq_true_eq]; omega
    have HK : Hid (kidAt (T.map Ft.pl) (Ft.pl t) i = -1) := Go.Lib.hid (kidAt_none (by rw [pl_kids]; simp; omega))
    go_wp2_with fail
    go_ret
    exact ⟨by rw [HK.out]; rfl, HQ1.out⟩
end Go.Proofs.YtnpcakakjhiboaaDoor
