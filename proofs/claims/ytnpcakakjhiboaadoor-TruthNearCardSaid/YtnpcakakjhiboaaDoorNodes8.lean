/- A formula's nodes, and what is wrong with the first of them, as the model tells it. No condition. What is wrong with the first node, as the model tells it. No condition. Are two formulas the same, as the model tells it. No condition. -/
import Derived.Test.YtnpcakakjhiboaaDoorWrong8
import Derived.Deep.AppendLies
import Derived.StillTailTactics
namespace Go.Proofs.YtnpcakakjhiboaaDoor
open Go.RowKit Go.Lo Go.WideShapes

theorem info33 : (Tryd.prog.info? 33).map (fun i => (i.zero, i.size, i.bytes)) = some (some (.agg #[.int .i64 0, .string ⟨#[]⟩, .int .i64 0, .int .i64 0, .int .i64 0, .int .i64 0, .slice none 0 0]), 7, 80) := by kernel_rfl

theorem In.pre {D : Nat → Prop} {w : World} {t : Ft} (h : In D w t) : ∀ x, x ∈ t.pre → In D w x := by
  induction t using Tr.ind with
  | h hd ks ih =>
    intro x hx
    simp only [Tr.pre] at hx
    rcases List.mem_cons.1 hx with rfl | hx
    · exact h
    · rw [Tr.preL_eq] at hx
      obtain ⟨k, hk, hx⟩ := List.mem_flatMap.1 hx
      exact ih k hk (h.kid (t := .nd hd ks) hk) x hx

theorem flat_mem (T : List Ft) : ∀ u, u ∈ T.flatMap Ft.cells → u.oneCell' = true := fun u hu => by
  obtain ⟨t, _, hu⟩ := List.mem_flatMap.1 hu
  exact cells_one t u hu

/-- A row that a call owns reads as what it holds. -/
theorem Reads.own {w : World} {base : Nat} {e : TypeId} {size n c : Nat} {A : Option Addr} {xs : List Value} (h : w.ownsRow base e size (.slice A n c) n xs) : Reads w A size n xs := Reads.of_row h

theorem own_form {w : World} {base : Nat} {e : TypeId} {size n : Nat} {v : Value} {xs : List Value} (h : w.ownsRow base e size v n xs) : ∃ A c, v = .slice A n c := by
  rcases h.2 with ⟨rfl, h0⟩ | ⟨g, c, cur, hv, _⟩
  · exact ⟨none, 0, by rw [h0]⟩
  · exact ⟨_, c, hv⟩

/-- The nodes lie in a row of the call's own. -/
def NodesEnd (t : Ft) (w : World) (e : Ending) (w' : World) : Prop := ∃ v, e = .returned v ∧ w'.ownsRow w.heap.size 33 7 v t.pre.length (t.pre.flatMap Ft.cells) ∧ Quiet w w'

/-- Where the loop stands: the node's own cells, and the row of those that were told. -/
structure NodesAt (w : World) (n : Nd) (a : Option Addr) (cap : Nat) (ks : List Ft) (v : Value) (T : List Ft) (wr : World) : Prop where
  row : wr.ownsRow w.heap.size 33 7 v T.length (T.flatMap Ft.cells)
  box : Blk wr w.heap.size #[.int .i64 n.op, .string n.nm, .int .i64 n.cmp, .int .i64 n.val, .int .i64 n.lo, .int .i64 n.hi, .slice a ks.length cap] 33
  off : v.ownBlock ≠ some w.heap.size
  quiet : Quiet w wr

theorem NodesAt.step {w wr w3 w4 : World} {n : Nd} {a : Option Addr} {cap : Nat} {ks T T2 : List Ft} {v v4 : Value} (h : NodesAt w n a cap ks v T wr) (hq : Quiet wr w3) (hown : w4.ownsRow w.heap.size 33 7 v4 (T.length + T2.length) (T.flatMap Ft.cells ++ T2.flatMap Ft.cells))
    (hgrow : w3.grownBy w4 v.ownBlock) (hat : v4.ownBlock = v.ownBlock ∨ v4.ownBlock = some w3.heap.size) : NodesAt w n a cap ks v4 (T ++ T2) w4 := by
  have hv : ∀ j, v.ownBlock = some j → w.heap.size ≤ j ∧ j < wr.heap.size := fun j e => h.row.lt j e
  have hA : Alters (fun j => v.ownBlock = some j) wr w4 := (hq.to (p := fun j => v.ownBlock = some j)).grown hgrow (fun j e _ => e)
  have := hq.size
  have hl := h.box.lt
  refine ⟨by simpa using hown, hA.blk h.box h.off, fun e => ?_, h.quiet.then hA (fun i hi e => by have := (hv _ e).1; omega)⟩
  rcases hat with h1 | h1
  · exact h.off (h1 ▸ e)
  · rw [h1] at e; simp at e; omega

set_option maxRecDepth 100000 in
set_option maxHeartbeats 4000000 in
theorem nodes_any (D : Nat → Prop) (t : Ft) : t.size ≤ 1000000 → ∀ (w : World), In D w t → Calls Tryd.prog 76 #[t.val] w (NodesEnd t w) := by
  induction t using Tr.ind with
  | h x ks ih =>
    intro hsz w hin
    obtain ⟨⟨op, nm, cmp, val, lo, hi⟩, a, cap⟩ := x
    have hl : ks.length ≤ 1000000 := by have := Tr.kids_le ks; simp only [Tr.size] at hsz; omega
    have HI := Go.Lib.hid hin
    have HIH := Go.Lib.hid ih
    have HSZ := Go.Lib.hid hsz
    obtain ⟨i0, hi0, hz0, hz1, hz2⟩ := info_parts info33
    clear hin ih hsz
    unfold Ft.val
    simp only [Tr.top, Tr.kids]
    go_enter Tryd.func76, Tryd.ntmps76
    go_wp2_with (at_builtin; refine wpList_append_lies _ rfl (.tmp 5) (.tmp 7) 31 rfl w.heap.size 33 i0 _ 7 80 Tryd.underlying31 hi0 hz0 hz1 hz2 rfl (by decide) (.slice none 0 0) 0 [] rfl (World.ownsRow_nil _ _ _ _) ⟨w.heap.size + 1, 0, none⟩ 1 1 [.int .i64 op, .string nm, .int .i64 cmp, .int .i64 val, .int .i64 lo, .int .i64 hi, .slice a ks.length cap] rfl rfl ?c1 ?c2 (by omega) ?c3 (by omega) ?c4 (w.heap.size + 1 + 1) ?c5 ?c6)
    case c1 =>
      have := Blk.new (w.alloc (.cells #[.int .i64 op, .string nm, .int .i64 cmp, .int .i64 val, .int .i64 lo, .int .i64 hi, .slice a ks.length cap] 33)) #[.int .i64 op, .string nm, .int .i64 cmp, .int .i64 val, .int .i64 lo, .int .i64 hi, .slice a ks.length cap] 33
      rw [World.size_alloc] at this
      exact World.news_of_block this
    case c2 => exact cells_one (.nd ⟨⟨op, nm, cmp, val, lo, hi⟩, a, cap⟩ ks)
    case c3 => unfold maxLen; omega
    case c4 => simp; omega
    case c5 => simp
    case c6 =>
      intro g cp w1 hown hgrow hat hlt
      have R0 : NodesAt w ⟨op, nm, cmp, val, lo, hi⟩ a cap ks (.slice (some ⟨g, 0, none⟩) (0 + 1) cp) [.nd ⟨⟨op, nm, cmp, val, lo, hi⟩, a, cap⟩ ks] w1 := by
        have hq : Quiet w w1 := (((Alters.refl _).alloc _).alloc _).grown hgrow (by simp [Value.ownBlock])
        have hg : g = w.heap.size + 1 + 1 := by simpa [Value.ownBlock] using hat
        refine ⟨hown, ?_, by simp [Value.ownBlock]; omega, hq⟩
        have hb := (Blk.new w #[.int .i64 op, .string nm, .int .i64 cmp, .int .i64 val, .int .i64 lo, .int .i64 hi, .slice a ks.length cap] 33).alloc (.cells #[.int .i64 op, .string nm, .int .i64 cmp, .int .i64 val, .int .i64 lo, .int .i64 hi, .slice a ks.length cap] 33)
        exact ((Alters.refl (p := fun _ => False) _).grown hgrow (by simp [Value.ownBlock])).blk hb (by simp)
      clear hown hgrow hat hlt
      go_wp2
      generalize (Value.slice (some ⟨g, 0, none⟩) (0 + 1) cp) = v0 at *
      go_loopw [3, 4] (fun sv i wr => ∃ (k : Nat) (v : Value), k ≤ ks.length ∧ i = .int .i64 k ∧ v = sv ∧ NodesAt w ⟨op, nm, cmp, val, lo, hi⟩ a cap ks v (.nd ⟨⟨op, nm, cmp, val, lo, hi⟩, a, cap⟩ ks :: Tr.preL (ks.take k)) wr) (fun _ i _ => ks.length - (intOf i).toNat)
      case atStart => exact ⟨0, _, Nat.zero_le _, rfl, rfl, R0⟩
      case round =>
        clear R0
        obtain ⟨k, v, hk, rfl, rfl, hR⟩ := hrel
        have c6 := hR.box.cell 6 rfl
        have HR := Go.Lib.hid hR
        clear hR
        by_cases hlt : k < ks.length
        · have hne : ks ≠ [] := fun h => by subst h; simp at hlt
          obtain ⟨b, o, rfl, hD, hc⟩ := HI.out.fs hne
          obtain ⟨d0, d1, d2, d3, d4, d5, d6⟩ := (((hc k ks[k] (by simp [Tr.kids, hlt]))).keep HR.out.quiet (by simp)).seven
          have hsum : Tr.sizeL (ks.take k) + ks[k].size ≤ Tr.sizeL ks := by
            have e : ks = ks.take k ++ ks[k] :: ks.drop (k + 1) := by rw [← List.drop_eq_getElem_cons hlt, List.take_append_drop]
            have e2 := congrArg Tr.sizeL e
            rw [Tr.sizeL_eq, Tr.sizeL_eq, List.map_append, List.sum_append, List.map_cons, List.sum_cons] at e2
            rw [Tr.sizeL_eq, Tr.sizeL_eq]
            omega
          have hsz2 : Tr.sizeL ks ≤ 1000000 := by have := HSZ.out; simp only [Tr.size] at this; omega
          have HK := Go.Lib.hid (HIH.out ks[k] (by simp) (by omega) wr ((HI.out.kid (k := ks[k]) (by simp [Tr.kids])).quiet HR.out.quiet))
          have htk : Tr.preL (ks.take (k + 1)) = Tr.preL (ks.take k) ++ (ks[k]).pre := by
            rw [List.take_succ_eq_append_getElem hlt, Tr.preL_eq, Tr.preL_eq, List.flatMap_append]; simp
          have hlen1 : (Tr.preL (ks.take k)).length = Tr.sizeL (ks.take k) := by
            rw [Tr.preL_eq, Tr.sizeL_eq, List.length_flatMap]
            congr 1
            exact List.map_congr_left (fun t _ => Tr.pre_length t)
          have hlen2 := Tr.pre_length ks[k]
          have HTK := Go.Lib.hid htk
          have HLE := Go.Lib.hid (show (Tr.preL (ks.take k)).length + 1 + (ks[k]).pre.length ≤ 1000001 by omega)
          clear hc hD htk hsum hsz2 hlen1 hlen2
          unfold Ft.val at HK
          generalize ks[k] = kk at *
          go_wp2_with fail
          refine HK.out.mono ?_
          rintro e w3 ⟨v2, rfl, hrow2, hq3⟩
          have HQ3 := Go.Lib.hid hq3
          obtain ⟨A2, c2, rfl⟩ := own_form hrow2
          have hr2 := Reads.own hrow2
          have HR2 := Go.Lib.hid hr2
          clear d0 d1 d2 d3 d4 d5 d6 hrow2 hq3 hr2 c6
          go_wp2_with (at_builtin; refine wpList_append_reads _ rfl (.tmp 16) (.tmp 22) 31 rfl w.heap.size 33 i0 _ 7 80 Tryd.underlying31 hi0 hz0 hz1 hz2 rfl (by decide) v _ _ rfl (row_keep HR.out.row HQ3.out (by simp)) A2 kk.pre.length c2 (kk.pre.flatMap Ft.cells) rfl HR2.out (flat_mem _) ?g1 ?g2 ?g3 ?g4)
          case g1 => have := HLE.out; simp only [List.length_cons]; unfold maxLen; omega
          case g2 => have := HLE.out; simp only [List.length_cons]; omega
          case g3 => have := HR.out.quiet.size; have := HQ3.out.size; omega
          case g4 =>
            intro v4 w4 hown4 hgrow4 hat4
            have HP := Go.Lib.hid (HR.out.step HQ3.out hown4 hgrow4 hat4)
            clear hown4 hgrow4 hat4 HR2 HK
            go_wp2
            go_roundw
            case rel => exact ⟨k + 1, v4, by omega, by go_num, rfl, by rw [HTK.out]; exact HP.out⟩
            case measure => simp [intOf]; omega
        · obtain rfl : k = ks.length := by omega
          go_wp2
          go_ret
          refine ⟨v, rfl, ?_, HR.out.quiet⟩
          have := HR.out.row
          rw [List.take_length] at this
          exact this
end Go.Proofs.YtnpcakakjhiboaaDoor

namespace Go.Proofs.YtnpcakakjhiboaaDoor
open Go.RowKit Go.Lo Go.WideShapes

/-- Where a row lies, and each formula of it. -/
theorem row_at {w : World} {base : Nat} {ty : TypeId} {v : Value} {T : List Ft} (h : w.ownsRow base ty 7 v T.length (T.flatMap Ft.cells)) (h0 : 0 < T.length) :
    ∃ g c, v = .slice (some ⟨g, 0, none⟩) T.length c ∧ base ≤ g ∧ g < w.heap.size ∧ ∀ i t, T[i]? = some t → AtP w g (i * 7) t := by
  rcases h.2 with ⟨_, hn⟩ | ⟨g, c, cur, rfl, hb, hg, _⟩
  · omega
  · refine ⟨g, c, rfl, hb, lt_of_block hg, fun i t ht j u hu => ?_⟩
    have := h.cells (g := g) rfl (i * 7 + j) u (flat_at T i t j u ht hu)
    rw [add_plain, Nat.zero_add] at this
    exact this

theorem firstOf_drop (l : List Fm) (k : Nat) (h : k < l.length) : firstOf (l.drop k) = if wrong l[k] ≠ 0 then wrong l[k] else firstOf (l.drop (k + 1)) := by
  rw [List.drop_eq_getElem_cons h, firstOf]

set_option maxRecDepth 100000 in
set_option maxHeartbeats 4000000 in
theorem first8_walk (D : Nat → Prop) (t : Ft) (hsz : t.size ≤ 1000000) (w : World) (hin : In D w t) : Calls Tryd.prog 30 #[t.val] w (Said (.int .i64 (first t.pl)) w) := by
  have hl : t.pre.length ≤ 1000000 := by rw [Tr.pre_length]; exact hsz
  have h0 : 0 < t.pre.length := by rw [Tr.pre_length]; cases t; simp [Tr.size]; omega
  have hfirst : first (Ft.pl t) = firstOf (t.pre.map Ft.pl) := by
    show firstOf _ = _
    congr 1
    exact Tr.map_pre Hd.n t
  have HF := Go.Lib.hid hfirst
  have HI := Go.Lib.hid hin
  have HN : Hid (∀ w2, Quiet w w2 → Calls Tryd.prog 76 #[t.val] w2 (NodesEnd t w2)) := fun w2 hq => nodes_any D t hsz w2 (hin.quiet hq)
  clear hfirst hin hsz
  unfold Ft.val at HN ⊢
  go_enter Tryd.func30, Tryd.ntmps30
  go_wp2_with fail
  refine (HN.out _ ((Alters.refl _).alloc _)).mono ?_
  rintro e w1 ⟨v, rfl, hrow, hq⟩
  have hq1 : Quiet w w1 := ((Alters.refl _).alloc _).trans hq
  obtain ⟨g, c, rfl, -, hg, hat⟩ := row_at hrow h0
  have HAT := Go.Lib.hid hat
  clear hrow hq hat HN HI
  generalize hT : t.pre = T at *
  have HT := Go.Lib.hid hT
  clear hT
  go_wp2_with fail
  go_loopw [4] (fun i wr => ∃ k : Nat, k ≤ T.length ∧ i = .int .i64 k ∧ firstOf ((T.map Ft.pl).drop k) = firstOf (T.map Ft.pl) ∧ Quiet w1 wr) (fun i _ => T.length - (intOf i).toNat)
  case atStart => exact ⟨0, Nat.zero_le _, rfl, rfl, Alters.refl _⟩
  case round =>
    obtain ⟨k, hk, rfl, hL, hQ⟩ := hrel
    have HL := Go.Lib.hid hL
    have HQ := Go.Lib.hid hQ
    clear hL hQ
    by_cases hlt : k < T.length
    · obtain ⟨d0, d1, d2, d3, d4, d5, d6⟩ := ((HAT.out k T[k] (by simp [hlt])).keep HQ.out (by simp)).seven
      have HS := Go.Lib.hid (firstOf_drop (T.map Ft.pl) k (by simpa using hlt))
      have HW := Go.Lib.hid (wrong8_walk T[k] wr)
      have e : (T.map Ft.pl)[k]'(by simpa using hlt) = Ft.pl T[k] := by simp
      rw [e] at HS
      clear e
      unfold Ft.val at HW
      generalize T[k] = kk at *
      go_wp2_with fail
      refine HW.out.mono ?_
      rintro e w3 ⟨rfl, hq3⟩
      have HQ3 := Go.Lib.hid (HQ.out.trans hq3)
      clear d0 d1 d2 d3 d4 d5 d6 hq3
      by_cases hw0 : wrong (Ft.pl kk) = 0
      · have bw : (wrong (Ft.pl kk) != 0) = false := by simpa using hw0
        have HW0 := Go.Lib.hid hw0
        clear hw0
        go_wp2
        go_roundw
        case rel => exact ⟨k + 1, by omega, by go_num, by rw [← HL.out, HS.out, if_neg (by simpa using HW0.out)], HQ3.out⟩
        case measure => simp [intOf]; omega
      · have bw : (wrong (Ft.pl kk) != 0) = true := by simpa using hw0
        have HW0 := Go.Lib.hid hw0
        clear hw0
        go_wp2
        go_ret
        exact ⟨by rw [HF.out, ← HL.out, HS.out, if_pos HW0.out]; rfl, hq1.trans HQ3.out⟩
    · obtain rfl : k = T.length := by omega
      go_wp2
      go_ret
      exact ⟨by rw [HF.out, ← HL.out, List.drop_eq_nil_of_le (by simp)]; rfl, hq1.trans HQ.out⟩
end Go.Proofs.YtnpcakakjhiboaaDoor

namespace Go.Proofs.YtnpcakakjhiboaaDoor
open Go.RowKit Go.Lo Go.WideShapes

theorem bytes_eq (s t : ByteArray) : (s.toList = t.toList) ↔ s = t := by
  constructor
  · intro h; rw [ByteArray.toList_eq, ByteArray.toList_eq] at h; exact bytes_inj h
  · rintro rfl; rfl

theorem sameL_len : ∀ l m : List Fm, sameL l m = true → l.length = m.length
  | [], [], _ => rfl
  | [], _ :: _, h => by simp [sameL] at h
  | _ :: _, [], h => by simp [sameL] at h
  | a :: l, b :: m, h => by
    simp only [sameL, Bool.and_eq_true] at h
    simp [sameL_len l m h.2]

theorem sameL_drop (l m : List Fm) (k : Nat) (h : k < l.length) (h2 : k < m.length) : sameL (l.drop k) (m.drop k) = (same l[k] m[k] && sameL (l.drop (k + 1)) (m.drop (k + 1))) := by
  rw [List.drop_eq_getElem_cons h, List.drop_eq_getElem_cons h2, sameL]

theorem same_nd (n m : Nd) (a a2 : Option Addr) (c c2 : Nat) (ks ls : List Ft) : same (Ft.pl (.nd ⟨n, a, c⟩ ks)) (Ft.pl (.nd ⟨m, a2, c2⟩ ls)) = (decide (n = m) && sameL (ks.map Ft.pl) (ls.map Ft.pl)) := by
  simp only [Ft.pl, Tr.map, Tr.mapL_eq, same]
  rfl

set_option maxRecDepth 100000 in
set_option maxHeartbeats 4000000 in
theorem same8_any (D : Nat → Prop) (t : Ft) : ∀ (u : Ft) (w : World), In D w t → In D w u → Calls Tryd.prog 28 #[t.val, u.val] w (Said (.bool (same t.pl u.pl)) w) := by
  induction t using Tr.ind with
  | h x ks ih =>
    rintro ⟨⟨⟨op2, nm2, cmp2, val2, lo2, hi2⟩, a2, cap2⟩, ls⟩ w hin hin2
    obtain ⟨⟨op, nm, cmp, val, lo, hi⟩, a, cap⟩ := x
    have hs := same_nd ⟨op, nm, cmp, val, lo, hi⟩ ⟨op2, nm2, cmp2, val2, lo2, hi2⟩ a a2 cap cap2 ks ls
    have hl := hin.len
    have hl2 := hin2.len
    have HI := Go.Lib.hid hin
    have HI2 := Go.Lib.hid hin2
    have HIH := Go.Lib.hid ih
    unfold maxLen at hl hl2
    simp only [Tr.kids] at hl hl2
    clear hin hin2 ih
    unfold Ft.val
    simp only [Tr.top, Tr.kids]
    by_cases hop : op = op2
    rotate_left
    · have hw : same (Ft.pl _) (Ft.pl _) = false := hs.trans (by simp [hop])
      have b1 : (op == op2) = false := by simpa using hop
      have b2 : (op != op2) = true := by simpa using hop
      rw [hw]
      clear hw hs hop
      go_enter Tryd.func28, Tryd.ntmps28
      go_wp2
      go_ret
      exact ⟨rfl, ((Alters.refl _).alloc _).alloc _⟩
    subst hop
    by_cases hnm : nm = nm2
    rotate_left
    · have hw : same (Ft.pl _) (Ft.pl _) = false := hs.trans (by simp [hnm])
      have b1 : (nm.toList == nm2.toList) = false := by simpa [bytes_eq] using hnm
      have b2 : (nm.toList != nm2.toList) = true := by simpa [bytes_eq] using hnm
      rw [hw]
      clear hw hs hnm
      go_enter Tryd.func28, Tryd.ntmps28
      go_wp2
      go_ret
      exact ⟨rfl, ((Alters.refl _).alloc _).alloc _⟩
    subst hnm
    by_cases hcmp : cmp = cmp2
    rotate_left
    · have hw : same (Ft.pl _) (Ft.pl _) = false := hs.trans (by simp [hcmp])
      have b1 : (cmp == cmp2) = false := by simpa using hcmp
      have b2 : (cmp != cmp2) = true := by simpa using hcmp
      rw [hw]
      clear hw hs hcmp
      go_enter Tryd.func28, Tryd.ntmps28
      go_wp2
      go_ret
      exact ⟨rfl, ((Alters.refl _).alloc _).alloc _⟩
    subst hcmp
    by_cases hval : val = val2
    rotate_left
    · have hw : same (Ft.pl _) (Ft.pl _) = false := hs.trans (by simp [hval])
      have b1 : (val == val2) = false := by simpa using hval
      have b2 : (val != val2) = true := by simpa using hval
      rw [hw]
      clear hw hs hval
      go_enter Tryd.func28, Tryd.ntmps28
      go_wp2
      go_ret
      exact ⟨rfl, ((Alters.refl _).alloc _).alloc _⟩
    subst hval
    by_cases hlo : lo = lo2
    rotate_left
    · have hw : same (Ft.pl _) (Ft.pl _) = false := hs.trans (by simp [hlo])
      have b1 : (lo == lo2) = false := by simpa using hlo
      have b2 : (lo != lo2) = true := by simpa using hlo
      rw [hw]
      clear hw hs hlo
      go_enter Tryd.func28, Tryd.ntmps28
      go_wp2
      go_ret
      exact ⟨rfl, ((Alters.refl _).alloc _).alloc _⟩
    subst hlo
    by_cases hhi : hi = hi2
    rotate_left
    · have hw : same (Ft.pl _) (Ft.pl _) = false := hs.trans (by simp [hhi])
      have b1 : (hi == hi2) = false := by simpa using hhi
      have b2 : (hi != hi2) = true := by simpa using hhi
      rw [hw]
      clear hw hs hhi
      go_enter Tryd.func28, Tryd.ntmps28
      go_wp2
      go_ret
      exact ⟨rfl, ((Alters.refl _).alloc _).alloc _⟩
    subst hhi
    by_cases hlen : ks.length = ls.length
    rotate_left
    · have hw : same (Ft.pl _) (Ft.pl _) = false := hs.trans (by
        cases h : sameL (ks.map Ft.pl) (ls.map Ft.pl)
        · simp
        · have := sameL_len _ _ h; simp at this; omega)
      have b1 : ((ks.length : Int) == (ls.length : Int)) = false := by simp; omega
      have b2 : ((ks.length : Int) != (ls.length : Int)) = true := by simp; omega
      rw [hw]
      clear hw hs
      go_enter Tryd.func28, Tryd.ntmps28
      go_wp2
      go_ret
      exact ⟨rfl, ((Alters.refl _).alloc _).alloc _⟩
    have hw : same (Ft.pl _) (Ft.pl _) = sameL (ks.map Ft.pl) (ls.map Ft.pl) := hs.trans (by simp)
    rw [hw]
    clear hw hs
    rw [← hlen] at hl2 ⊢
    have HLEN := Go.Lib.hid hlen
    clear hlen
    have hq : Quiet w ((w.alloc (.cells #[.int .i64 op, .string nm, .int .i64 cmp, .int .i64 val, .int .i64 lo, .int .i64 hi, .slice a ks.length cap] 33)).alloc (.cells #[.int .i64 op, .string nm, .int .i64 cmp, .int .i64 val, .int .i64 lo, .int .i64 hi, .slice a2 ks.length cap2] 33)) := ((Alters.refl _).alloc _).alloc _
    have hB := (Blk.new w #[.int .i64 op, .string nm, .int .i64 cmp, .int .i64 val, .int .i64 lo, .int .i64 hi, .slice a ks.length cap] 33).alloc (.cells #[.int .i64 op, .string nm, .int .i64 cmp, .int .i64 val, .int .i64 lo, .int .i64 hi, .slice a2 ks.length cap2] 33)
    have hB2 := Blk.new (w.alloc (.cells #[.int .i64 op, .string nm, .int .i64 cmp, .int .i64 val, .int .i64 lo, .int .i64 hi, .slice a ks.length cap] 33)) #[.int .i64 op, .string nm, .int .i64 cmp, .int .i64 val, .int .i64 lo, .int .i64 hi, .slice a2 ks.length cap2] 33
    rw [World.size_alloc] at hB2
    go_enter Tryd.func28, Tryd.ntmps28
    go_wp2
    generalize (w.alloc _).alloc _ = w1 at *
    go_loopw [5] (fun i wr => ∃ k : Nat, k ≤ ks.length ∧ i = .int .i64 k ∧ sameL ((ks.map Ft.pl).drop k) ((ls.map Ft.pl).drop k) = sameL (ks.map Ft.pl) (ls.map Ft.pl) ∧ Quiet w1 wr) (fun i _ => ks.length - (intOf i).toNat)
    case atStart => exact ⟨0, Nat.zero_le _, rfl, rfl, Alters.refl _⟩
    case round =>
      obtain ⟨k, hk, rfl, hL, hQ⟩ := hrel
      have HL := Go.Lib.hid hL
      have HQ := Go.Lib.hid hQ
      have c6 : wr.cell? ⟨w.heap.size, 6, none⟩ = some (.slice a ks.length cap) := hQ.cell (hB.cell 6 rfl) (by simp)
      have e6 : wr.cell? ⟨w.heap.size + 1, 6, none⟩ = some (.slice a2 ks.length cap2) := hQ.cell (hB2.cell 6 rfl) (by simp)
      clear hL hQ
      by_cases hlt : k < ks.length
      · have hlt2 : k < ls.length := by have := HLEN.out; omega
        have hne : ks ≠ [] := fun h => by subst h; simp at hlt
        have hne2 : ls ≠ [] := fun h => by subst h; simp at hlt2
        obtain ⟨b, o, rfl, hD, hc⟩ := HI.out.fs hne
        obtain ⟨b2, o2, rfl, hD2, hc2⟩ := HI2.out.fs hne2
        obtain ⟨d0, d1, d2, d3, d4, d5, d6⟩ := (((hc k ks[k] (by simp [Tr.kids, hlt])).keep hq (by simp)).keep HQ.out.drew (by simp)).seven
        obtain ⟨f0, f1, f2, f3, f4, f5, f6⟩ := (((hc2 k ls[k] (by simp [Tr.kids, hlt2])).keep hq (by simp)).keep HQ.out.drew (by simp)).seven
        have HK := Go.Lib.hid (HIH.out ks[k] (by simp) ls[k] wr.drew (((HI.out.kid (k := ks[k]) (by simp [Tr.kids])).quiet hq).quiet HQ.out.drew) (((HI2.out.kid (k := ls[k]) (by simp [Tr.kids])).quiet hq).quiet HQ.out.drew))
        have HS := sameL_drop (ks.map Ft.pl) (ls.map Ft.pl) k (by simpa using hlt) (by simpa using hlt2)
        rw [show (ks.map Ft.pl)[k]'(by simpa using hlt) = Ft.pl ks[k] by simp, show (ls.map Ft.pl)[k]'(by simpa using hlt2) = Ft.pl ls[k] by simp] at HS
        have HS := Go.Lib.hid HS
        have HQ2 : Hid (Quiet w1 wr.drew) := HQ.out.drew
        clear hc hD hc2 hD2
        unfold Ft.val at HK
        generalize ks[k] = kk at *
        generalize ls[k] = ll at *
        go_wp2
        refine wp_region_still_tail 10 (by kernel_rfl) (by kernel_rfl) ?_
        change wpStill _ _ wr.drew (fun a' => wpList _ _ _ _ a' wr.drew) _ _
        have c6' : wr.drew.cell? ⟨w.heap.size, 6, none⟩ = some (.slice (some ⟨b, o, none⟩) ks.length cap) := c6
        have e6' : wr.drew.cell? ⟨w.heap.size + 1, 6, none⟩ = some (.slice (some ⟨b2, o2, none⟩) ks.length cap2) := e6
        generalize wr.drew = w2 at *
        clear c6 e6
        simp only [List.take_succ_cons, List.take_zero, List.drop_succ_cons, List.drop_zero]
        repeat still_step
        refine wpStill_nil ?_
        go_wp2_with fail
        refine HK.out.mono ?_
        rintro e w3 ⟨rfl, hq3⟩
        have HQ3 := Go.Lib.hid (HQ2.out.trans hq3)
        clear d0 d1 d2 d3 d4 d5 d6 f0 f1 f2 f3 f4 f5 f6 c6' e6' hq3
        cases hsame : same (Ft.pl kk) (Ft.pl ll)
        · have hf : sameL (ks.map Ft.pl) (ls.map Ft.pl) = false := by rw [← HL.out, HS.out, hsame]; rfl
          have HF := Go.Lib.hid hf
          clear hf
          go_wp2
          go_ret
          exact ⟨by rw [HF.out]; rfl, hq.trans HQ3.out⟩
        · have hf : sameL ((ks.map Ft.pl).drop (k + 1)) ((ls.map Ft.pl).drop (k + 1)) = sameL (ks.map Ft.pl) (ls.map Ft.pl) := by rw [← HL.out, HS.out, hsame]; rfl
          have HF := Go.Lib.hid hf
          clear hf
          go_wp2
          go_roundw
          case rel => exact ⟨k + 1, by omega, by go_num, HF.out, HQ3.out⟩
          case measure => simp [intOf]; omega
      · obtain rfl : k = ks.length := by omega
        have hf : sameL (ks.map Ft.pl) (ls.map Ft.pl) = true := by rw [← HL.out, List.drop_eq_nil_of_le (by simp), List.drop_eq_nil_of_le (by simp [HLEN.out])]; rfl
        have HF := Go.Lib.hid hf
        clear hf
        go_wp2
        go_ret
        exact ⟨by rw [HF.out]; rfl, hq.trans HQ.out⟩
end Go.Proofs.YtnpcakakjhiboaaDoor
