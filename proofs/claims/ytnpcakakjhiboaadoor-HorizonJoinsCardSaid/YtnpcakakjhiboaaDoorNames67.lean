/- The model's Names (67). No condition. -/
import Derived.Test.YtnpcakakjhiboaaDoorNames43
import Derived.Test.YtnpcakakjhiboaaDoorNodes8
import Derived.Laws.AppendOwn
import Derived.Deep.LoopGhost
namespace Go.Proofs.YtnpcakakjhiboaaDoor
open Go Go.RowKit Go.Lo Go.WideShapes Go.Maps Go.Sort

theorem enc_nm (s : ByteArray) : Value.string s = encStr s.data.toList := by cases s; simp [encStr]

/-- A name as bytes. -/
theorem nm_bytes (x : Nm) : ∃ s : ByteArray, s.data.toList = x ∧ encStr x = .string s := ⟨⟨x.toArray⟩, by simp, rfl⟩

theorem row_base {w : World} {b1 b2 : Nat} {e size n : Nat} {v : Value} {xs : List Value} (h : w.ownsRow b2 e size v n xs) (hb : b1 ≤ b2) : w.ownsRow b1 e size v n xs := by
  rcases h with ⟨h1, h | ⟨g, cap, cur, h2, h3, h4⟩⟩
  · exact ⟨h1, .inl h⟩
  · exact ⟨h1, .inr ⟨g, cap, cur, h2, Nat.le_trans hb h3, h4⟩⟩

def nmStep (out : List Nm) (n : Fm) : List Nm := if n.top.op = 3 then insN n.top.nm.data.toList out else out

theorem ins_len (x : Nm) (l : List Nm) : (insN x l).length ≤ l.length + 1 := by
  induction l with
  | nil => simp [insN]
  | cons y r ih =>
    unfold insN
    split
    · simp only [List.length_cons]; omega
    · split
      · simp
      · simp

/-- What the inner loop has got so far. -/
def Mid (x : Nm) (out more : List Nm) (is : Bool) (q : Nat) : Prop := more ++ (if is = true then out.drop q else insN x (out.drop q)) = insN x out ∧ more.length ≤ q + 1

/-- What stands where the inner loop goes round. -/
def InRel (W0 : World) (x : Nm) (out : List Nm) (gk : Nat) (mv iv j : Value) (W : World) : Prop := ∃ (q : Nat) (more : List Nm) (is : Bool), q ≤ out.length ∧ out.length - q ≤ gk ∧ j = .int .i64 (q : Int) ∧ iv = .bool is ∧ W.ownsRow W0.heap.size 9 1 mv more.length (more.map encStr) ∧ Mid x out more is q ∧ (is = false → more.length ≤ q) ∧ Quiet W0 W

theorem Mid.start (x : Nm) (out : List Nm) : Mid x out [] false 0 := ⟨by simp, by simp⟩

theorem Mid.go {x y : Nm} {out more : List Nm} {q : Nat} (h : Mid x out more true q) (hy : out[q]? = some y) : Mid x out (more ++ [y]) true (q + 1) := by
  have hq : q < out.length := by
    rcases Nat.lt_or_ge q out.length with h' | h'
    · exact h'
    · rw [List.getElem?_eq_none h'] at hy; cases hy
  rw [List.getElem?_eq_getElem hq] at hy
  obtain rfl := Option.some.inj hy
  obtain ⟨h1, h2⟩ := h
  refine ⟨?_, by simp; omega⟩
  rw [← h1, if_pos rfl, if_pos rfl, List.drop_eq_getElem_cons hq]
  simp

theorem Mid.less {x y : Nm} {out more : List Nm} {q : Nat} (h : Mid x out more false q) (_hm : more.length ≤ q) (hy : out[q]? = some y) (hl : ltN y x = true) : Mid x out (more ++ [y]) false (q + 1) := by
  have hq : q < out.length := by
    rcases Nat.lt_or_ge q out.length with h' | h'
    · exact h'
    · rw [List.getElem?_eq_none h'] at hy; cases hy
  rw [List.getElem?_eq_getElem hq] at hy
  obtain rfl := Option.some.inj hy
  obtain ⟨h1, h2⟩ := h
  refine ⟨?_, by simp; omega⟩
  rw [← h1, List.drop_eq_getElem_cons hq]
  simp [insN, hl]

theorem Mid.same {x y : Nm} {out more : List Nm} {q : Nat} (h : Mid x out more false q) (_hm : more.length ≤ q) (hy : out[q]? = some y) (hl : ltN y x = false) (e : y = x) : Mid x out (more ++ [y]) true (q + 1) := by
  have hq : q < out.length := by
    rcases Nat.lt_or_ge q out.length with h' | h'
    · exact h'
    · rw [List.getElem?_eq_none h'] at hy; cases hy
  rw [List.getElem?_eq_getElem hq] at hy
  obtain rfl := Option.some.inj hy
  obtain ⟨h1, h2⟩ := h
  refine ⟨?_, by simp; omega⟩
  rw [← h1, List.drop_eq_getElem_cons hq]
  simp [insN, e, ltN_irrefl]

theorem Mid.put {x y : Nm} {out more : List Nm} {q : Nat} (h : Mid x out more false q) (hm : more.length ≤ q) (hy : out[q]? = some y) (hl : ltN y x = false) (e : y ≠ x) : Mid x out (more ++ [x] ++ [y]) true (q + 1) := by
  have hq : q < out.length := by
    rcases Nat.lt_or_ge q out.length with h' | h'
    · exact h'
    · rw [List.getElem?_eq_none h'] at hy; cases hy
  rw [List.getElem?_eq_getElem hq] at hy
  obtain rfl := Option.some.inj hy
  obtain ⟨h1, h2⟩ := h
  refine ⟨?_, by simp; omega⟩
  rw [← h1, List.drop_eq_getElem_cons hq]
  simp [insN, e, hl]

theorem Mid.end_true {x : Nm} {out more : List Nm} (h : Mid x out more true out.length) : more = insN x out := by
  have := h.1
  simpa using this

theorem Mid.end_false {x : Nm} {out more : List Nm} (h : Mid x out more false out.length) : more ++ [x] = insN x out := by
  have := h.1
  simpa [insN] using this

set_option maxRecDepth 100000 in
set_option maxHeartbeats 4000000 in
theorem names67_walk (D : Nat → Prop) (t : Ft) (w : World) (hin : In D w t) (hsz : t.size ≤ 1000) : Calls Tryd.prog 67 #[t.val] w (GivesNames (namesOf t.pl) w) := by
  have HA := fun (w2 : World) (hq : Quiet w w2) => Go.Lib.hid (first8_walk D t (by omega) w2 (hin.quiet hq))
  have HB := fun (w2 : World) (hq : Quiet w w2) => Go.Lib.hid (nodes_any D t (by omega) w2 (hin.quiet hq))
  obtain ⟨i9, hi9, hz9, hs9, hb9⟩ := info_parts info9
  have HR0 : Hid (first t.pl = 0 → namesOf t.pl = (t.pre.map Ft.pl).foldl nmStep []) := Go.Lib.hid (fun h => by
    unfold namesOf namesL
    rw [if_pos h]
    have e : (Ft.pl t).pre = t.pre.map Ft.pl := Tr.map_pre Hd.n t
    rw [e]
    rfl)
  have HNO : Hid (first t.pl ≠ 0 → namesOf t.pl = []) := Go.Lib.hid (fun h => by unfold namesOf; rw [if_neg h])
  have HPL : Hid (t.pre.length ≤ 1000) := Go.Lib.hid (by rw [Tr.pre_length]; exact hsz)
  generalize namesOf t.pl = R at *
  obtain ⟨⟨⟨op, nm, cmp, val, lo, hi⟩, a, cap⟩, ks⟩ := t
  clear hin hsz
  unfold NodesEnd at HB
  unfold Ft.val at HA HB ⊢
  simp only [Tr.top, Tr.kids] at HA HB ⊢
  generalize Tr.pre _ = P at *
  generalize first _ = fs at *
  have HBK := Go.Lib.hid (Blk.new w #[.int .i64 op, .string nm, .int .i64 cmp, .int .i64 val, .int .i64 lo, .int .i64 hi, .slice a ks.length cap] 33)
  have HQ : Hid (Quiet w (w.alloc (.cells #[.int .i64 op, .string nm, .int .i64 cmp, .int .i64 val, .int .i64 lo, .int .i64 hi, .slice a ks.length cap] 33))) := (Alters.refl _).alloc _
  go_enter Tryd.func67, Tryd.ntmps67
  go_wp2_with fail
  refine (HA _ HQ.out).out.mono ?_
  rintro e w2 ⟨rfl, q2⟩
  replace HQ := Go.Lib.hid (HQ.out.trans q2)
  obtain ⟨c0, c1, c2, c3, c4, c5, c6⟩ := seven_cells (q2.blk HBK.out (by simp))
  clear HA q2 HBK
  by_cases hf : fs = 0
  rotate_left
  · have b0 : (fs == 0) = false := by simpa using hf
    obtain rfl := HNO.out hf
    clear hf HNO HR0 HB
    go_wp2_with fail
    go_ret
    exact ⟨none, 0, rfl, fun h => absurd rfl h, HQ.out⟩
  have b0 : (fs == 0) = true := by simpa using hf
  have HR := Go.Lib.hid (HR0.out hf)
  clear hf HNO HR0
  go_wp2_with fail
  refine (HB _ HQ.out).out.mono ?_
  rintro e w4 ⟨nv, rfl, hnr, q4⟩
  replace HQ := Go.Lib.hid (HQ.out.trans q4)
  obtain ⟨na, nc, rfl⟩ := own_form hnr
  have HNR : Hid (∀ (k : Nat) (x : Ft), P[k]? = some x → ∃ g, na = some ⟨g, 0, none⟩ ∧ w4.cell? ⟨g, k * 7, none⟩ = some (.int .i64 x.top.n.op) ∧ w4.cell? ⟨g, k * 7 + 1, none⟩ = some (.string x.top.n.nm)) := Go.Lib.hid (fun k x hk => by
    obtain ⟨m, hm⟩ : ∃ m, P.length = m + 1 := ⟨P.length - 1, by
      rcases Nat.lt_or_ge k P.length with h' | h'
      · omega
      · rw [List.getElem?_eq_none h'] at hk; cases hk⟩
    have h2 := hnr
    rw [hm] at h2
    obtain ⟨g, c2, e⟩ := ownsRow_succ h2
    obtain ⟨rfl, -⟩ : na = some ⟨g, 0, none⟩ ∧ nc = c2 := by simpa using e
    have a0 := hnr.cells (g := g) rfl (k * 7 + 0) _ (flat_at P k x 0 _ hk rfl)
    have a1 := hnr.cells (g := g) rfl (k * 7 + 1) _ (flat_at P k x 1 _ hk rfl)
    rw [add_plain, Nat.zero_add] at a0 a1
    exact ⟨g, rfl, a0, a1⟩)
  clear HB q4 hnr c0 c1 c2 c3 c4 c5 c6 b0
  go_wp2_with fail
  go_loopw [3, 5] (fun ov i wr => ∃ (k : Nat) (out : List Nm), k ≤ P.length ∧ i = .int .i64 (k : Int) ∧ wr.ownsRow w4.heap.size 9 1 ov out.length (out.map encStr) ∧ ((P.map Ft.pl).drop k).foldl nmStep out = R ∧ out.length ≤ k ∧ Quiet w4 wr) (fun _ i _ => P.length - (intOf i).toNat)
  case atStart => exact ⟨0, [], Nat.zero_le _, rfl, World.ownsRow_nil _ _ _ _, HR.out.symm, by simp, Alters.refl _⟩
  case round =>
    clear HR
    obtain ⟨k, out, hk, rfl, hrow, hfold, hol, hqr⟩ := hrel
    have HR := Go.Lib.hid hrow
    have HF := Go.Lib.hid hfold
    have HQR := Go.Lib.hid hqr
    have hpl := HPL.out
    clear hrow hfold hqr
    obtain ⟨oa, oc, rfl⟩ := own_form HR.out
    by_cases hlt : k < P.length
    rotate_left
    · obtain rfl : k = P.length := by omega
      have e : out = R := by
        have := HF.out
        rwa [List.drop_eq_nil_of_le (by simp), List.foldl_nil] at this
      subst e
      clear HF hlt hk hol hpl
      go_wp2_with fail
      go_ret
      exact ⟨oa, oc, rfl, StrsAt.of_row HR.out, HQ.out.trans HQR.out⟩
    obtain ⟨g, rfl, d0, d1⟩ := HNR.out k P[k] (List.getElem?_eq_getElem hlt)
    replace d0 := HQR.out.cell d0 (by simp)
    replace d1 := HQR.out.cell d1 (by simp)
    have HNX : Hid (((P.map Ft.pl).drop (k + 1)).foldl nmStep (nmStep out (Ft.pl P[k])) = R) := Go.Lib.hid (by
      have := HF.out
      rw [List.drop_eq_getElem_cons (by simpa using hlt), List.foldl_cons] at this
      simpa using this)
    rw [nmStep, pl_op] at HNX
    generalize P[k] = x at *
    have hlt2 := hlt
    by_cases h3 : x.top.n.op = 3
    rotate_left
    · have b3 : (x.top.n.op == 3) = false := by simpa using h3
      rw [if_neg h3] at HNX
      clear h3 HF
      go_wp2_with fail
      go_roundw
      case rel => exact ⟨k + 1, out, by omega, by go_num, HR.out, HNX.out, by omega, HQR.out⟩
      case measure => simp [intOf]; omega
    have b3 : (x.top.n.op == 3) = true := by simpa using h3
    have b4 : (x.top.n.op != 3) = false := by simp [h3]
    rw [if_pos h3] at HNX
    clear h3 HF
    generalize x.top.n.nm = xb at *
    have HRD : Hid (∀ (q : Nat) (y : Nm), out[q]? = some y → ∃ (ad : Addr) (yb : ByteArray), oa = some ad ∧ wr.cell? (ad.add q) = some (.string yb) ∧ yb.data.toList = y ∧ encStr y = .string yb) := Go.Lib.hid (fun q y hy => by
      obtain ⟨s, h1, h2⟩ := nm_bytes y
      obtain ⟨ad, h3, h4⟩ := Reads.at (Reads.own HR.out) (k := q) (u := encStr y) (by rw [List.getElem?_map, hy]; rfl)
      exact ⟨ad, s, h3, by rw [h4, h2], h1, h2⟩)
    obtain ⟨W0, hW0⟩ : ∃ W0, W0 = wr := ⟨_, rfl⟩
    go_wp2_with fail
    rw [← hW0]
    rw [← hW0] at HR HQR HRD d0 d1
    clear hW0
    go_loopg [6, 7, 8] out.length (fun gk mv iv j W => InRel W0 xb.data.toList out gk mv iv j W)
    case atStart => exact ⟨0, [], false, Nat.zero_le _, by omega, rfl, rfl, World.ownsRow_nil _ _ _ _, Mid.start _ _, fun _ => Nat.le_refl _, Alters.refl _⟩
    case round =>
      obtain ⟨q, more, is, hq, hgq, rfl, rfl, hmr, hmid, hml, hqw⟩ := hrel
      have HMR := Go.Lib.hid hmr
      have HMID := Go.Lib.hid hmid
      have HML := Go.Lib.hid hml
      have HQW := Go.Lib.hid hqw
      have hmz : more.length ≤ 1001 := by have := hmid.2; omega
      have hws := hqw.size
      have hw4 := HQR.out.size
      clear hmr hmid hml hqw
      obtain ⟨ma, mc, rfl⟩ := own_form HMR.out
      have e0 := HQW.out.cell d0 (by simp)
      have e1 := HQW.out.cell d1 (by simp)
      by_cases hlq : q < out.length
      rotate_left
      · obtain rfl : q = out.length := by omega
        clear hlq e0
        cases is
        · have HME : Hid (more ++ [xb.data.toList] = insN xb.data.toList out) := Go.Lib.hid HMID.out.end_false
          have HXE := Go.Lib.hid (enc_nm xb)
          go_wp2_with (at_builtin; refine wpList_append_own _ rfl (.tmp 74) (.tmp 80) 52 rfl W0.heap.size 9 i9 (.string ⟨#[]⟩) 1 16 Tryd.underlying52 hi9 hz9 hs9 hb9 rfl (by decide) _ _ _ rfl (HMR.out.alloc _) ⟨wr.heap.size, 0, none⟩ 1 1 [.string xb] rfl rfl (cell_one_new _ _ _) (by simp [Value.oneCell']) (by unfold maxLen; omega) (by omega) (by simp; omega) ?_; intro v1 x1 hown1 hg1 hnil1; have HO1 := Go.Lib.hid hown1; have HG1 := Go.Lib.hid hg1; clear hown1 hg1 hnil1)
          have HO2 : Hid (x1.ownsRow w4.heap.size 9 1 v1 (insN xb.data.toList out).length ((insN xb.data.toList out).map encStr)) := Go.Lib.hid (by
            have := row_base HO1.out (b1 := w4.heap.size) (by omega)
            rw [← HME.out, List.map_append, List.length_append, List.map_cons, ← HXE.out]
            simpa using this)
          have HQ9 : Hid (Quiet w4 x1) := Go.Lib.hid (HQR.out.trans ((HQW.out.alloc _).then ((Alters.refl _).grown HG1.out (fun k e _ => e)) (fun i hi e => by have := (HMR.out.lt i e).1; omega)))
          clear HO1 HG1 HMR e1 d0 d1
          go_wp2_with fail
          go_roundw
          case rel => exact ⟨k + 1, insN xb.data.toList out, by omega, by go_num, HO2.out, HNX.out, by have := ins_len xb.data.toList out; omega, HQ9.out⟩
          case measure => simp [intOf]; omega
        · have HME : Hid (more = insN xb.data.toList out) := Go.Lib.hid HMID.out.end_true
          have HO2 : Hid (wr.ownsRow w4.heap.size 9 1 (.slice ma more.length mc) (insN xb.data.toList out).length ((insN xb.data.toList out).map encStr)) := Go.Lib.hid (by
            rw [← HME.out]
            exact row_base HMR.out (by omega))
          have HQ9 : Hid (Quiet w4 wr) := Go.Lib.hid (HQR.out.trans HQW.out)
          clear HMR e1 d0 d1
          go_wp2_with fail
          go_roundw
          case rel => exact ⟨k + 1, insN xb.data.toList out, by omega, by go_num, HO2.out, HNX.out, by have := ins_len xb.data.toList out; omega, HQ9.out⟩
          case measure => simp [intOf]; omega
      obtain ⟨ad, yb, rfl, y0, hyb, hye⟩ := HRD.out q out[q] (List.getElem?_eq_getElem hlq)
      have HYL : Hid ((ad.add q).block < W0.heap.size) := Go.Lib.hid (block_lt_of_cell y0)
      replace y0 := HQW.out.cell y0 (by simp)
      have HYQ : Hid (out[q]? = some out[q]) := Go.Lib.hid (List.getElem?_eq_getElem hlq)
      have HYE := Go.Lib.hid hye
      have HYB := Go.Lib.hid hyb
      clear hye hyb
      generalize out[q] = y at *
      have HLT : Hid (Op.bytesLess yb.toList xb.toList = ltN y xb.data.toList) := Go.Lib.hid (by rw [ByteArray.toList_eq, ByteArray.toList_eq, HYB.out, less_ltN])
      have HEQ : Hid ((yb.toList == xb.toList) = decide (y = xb.data.toList)) := Go.Lib.hid (by rw [ByteArray.toList_eq, ByteArray.toList_eq, HYB.out, Bool.eq_iff_iff]; simp)
      cases is
      rotate_left
      · clear HLT HEQ
        go_upto_region 14 with (fail)
        go_quiet (fail)
        have hqd : Quiet wr (wr.drewN nq) := (Alters.refl _).drewN _
        replace HMR := Go.Lib.hid (row_keep HMR.out hqd (by simp))
        replace y0 := hqd.cell y0 (by simp)
        replace e0 := hqd.cell e0 (by simp)
        replace e1 := hqd.cell e1 (by simp)
        replace HQW := Go.Lib.hid (HQW.out.trans hqd)
        clear hqd
        generalize wr.drewN nq = wq1 at *
        replace hws := HQW.out.size
        go_wp2_with (at_builtin; refine wpList_append_own _ rfl (.tmp 65) (.tmp 70) 52 rfl W0.heap.size 9 i9 (.string ⟨#[]⟩) 1 16 Tryd.underlying52 hi9 hz9 hs9 hb9 rfl (by decide) _ _ _ rfl (HMR.out.alloc _) ⟨wq1.heap.size, 0, none⟩ 1 1 [.string yb] rfl rfl (cell_one_new _ _ _) (by simp [Value.oneCell']) (by unfold maxLen; omega) (by omega) (by simp; omega) ?_; intro v1 x1 hown1 hg1 hnil1; have HO1 := Go.Lib.hid hown1; have HG1 := Go.Lib.hid hg1; clear hown1 hg1 hnil1)
        have HO2 : Hid (x1.ownsRow W0.heap.size 9 1 v1 (more ++ [y]).length ((more ++ [y]).map encStr)) := Go.Lib.hid (by
          have := HO1.out
          rw [List.map_append, List.length_append, List.map_cons, HYE.out]
          simpa using this)
        have HQ9 : Hid (Quiet W0 x1) := Go.Lib.hid ((HQW.out.alloc _).then ((Alters.refl _).grown HG1.out (fun k e _ => e)) (fun i hi e => by have := (HMR.out.lt i e).1; omega))
        clear HO1 HG1 HMR e0 e1 y0
        go_wp2_with fail
        go_roundg (out.length - (q + 1))
        case measure => omega
        case rel => exact ⟨q + 1, more ++ [y], true, by omega, Nat.le_refl _, by go_num, rfl, HO2.out, HMID.out.go HYQ.out, (fun h => Bool.noConfusion h), HQ9.out⟩
      cases hl : ltN y xb.data.toList
      rotate_left
      · rw [hl] at HLT
        have b1 := HLT.out
        have HB1 := Go.Lib.hid hl
        clear hl
        go_upto_region 14 with (fail)
        go_quiet (fail)
        have hqd : Quiet wr (wr.drewN nq) := (Alters.refl _).drewN _
        replace HMR := Go.Lib.hid (row_keep HMR.out hqd (by simp))
        replace y0 := hqd.cell y0 (by simp)
        replace e0 := hqd.cell e0 (by simp)
        replace e1 := hqd.cell e1 (by simp)
        replace HQW := Go.Lib.hid (HQW.out.trans hqd)
        clear hqd
        generalize wr.drewN nq = wq1 at *
        replace hws := HQW.out.size
        clear b1
        go_wp2_with (at_builtin; refine wpList_append_own _ rfl (.tmp 65) (.tmp 70) 52 rfl W0.heap.size 9 i9 (.string ⟨#[]⟩) 1 16 Tryd.underlying52 hi9 hz9 hs9 hb9 rfl (by decide) _ _ _ rfl (HMR.out.alloc _) ⟨wq1.heap.size, 0, none⟩ 1 1 [.string yb] rfl rfl (cell_one_new _ _ _) (by simp [Value.oneCell']) (by unfold maxLen; omega) (by omega) (by simp; omega) ?_; intro v1 x1 hown1 hg1 hnil1; have HO1 := Go.Lib.hid hown1; have HG1 := Go.Lib.hid hg1; clear hown1 hg1 hnil1)
        have HO2 : Hid (x1.ownsRow W0.heap.size 9 1 v1 (more ++ [y]).length ((more ++ [y]).map encStr)) := Go.Lib.hid (by
          have := HO1.out
          rw [List.map_append, List.length_append, List.map_cons, HYE.out]
          simpa using this)
        have HQ9 : Hid (Quiet W0 x1) := Go.Lib.hid ((HQW.out.alloc _).then ((Alters.refl _).grown HG1.out (fun k e _ => e)) (fun i hi e => by have := (HMR.out.lt i e).1; omega))
        clear HO1 HG1 HMR e0 e1 y0
        go_wp2_with fail
        go_roundg (out.length - (q + 1))
        case measure => omega
        case rel => exact ⟨q + 1, more ++ [y], false, by omega, Nat.le_refl _, by go_num, rfl, HO2.out, HMID.out.less (HML.out trivial) HYQ.out HB1.out, (fun _ => by have := HML.out trivial; simp; omega), HQ9.out⟩
      rw [hl] at HLT
      have HB1 := Go.Lib.hid hl
      have b1 := HLT.out
      clear hl
      by_cases he : y = xb.data.toList
      · rw [decide_eq_true he] at HEQ
        have b2 := HEQ.out
        have HB2 := Go.Lib.hid he
        clear he
        go_upto_region 14 with (fail)
        go_quiet (fail)
        have hqd : Quiet wr (wr.drewN nq) := (Alters.refl _).drewN _
        replace HMR := Go.Lib.hid (row_keep HMR.out hqd (by simp))
        replace y0 := hqd.cell y0 (by simp)
        replace e0 := hqd.cell e0 (by simp)
        replace e1 := hqd.cell e1 (by simp)
        replace HQW := Go.Lib.hid (HQW.out.trans hqd)
        clear hqd
        generalize wr.drewN nq = wq1 at *
        replace hws := HQW.out.size
        clear b1
        go_upto_region 16 with (fail)
        go_quiet (fail)
        have hqd : Quiet wq1 (wq1.drewN nq) := (Alters.refl _).drewN _
        replace HMR := Go.Lib.hid (row_keep HMR.out hqd (by simp))
        replace y0 := hqd.cell y0 (by simp)
        replace e0 := hqd.cell e0 (by simp)
        replace e1 := hqd.cell e1 (by simp)
        replace HQW := Go.Lib.hid (HQW.out.trans hqd)
        clear hqd
        generalize wq1.drewN nq = wq2 at *
        replace hws := HQW.out.size
        clear b2
        go_wp2_with (at_builtin; refine wpList_append_own _ rfl (.tmp 65) (.tmp 70) 52 rfl W0.heap.size 9 i9 (.string ⟨#[]⟩) 1 16 Tryd.underlying52 hi9 hz9 hs9 hb9 rfl (by decide) _ _ _ rfl (HMR.out.alloc _) ⟨wq2.heap.size, 0, none⟩ 1 1 [.string yb] rfl rfl (cell_one_new _ _ _) (by simp [Value.oneCell']) (by unfold maxLen; omega) (by omega) (by simp; omega) ?_; intro v1 x1 hown1 hg1 hnil1; have HO1 := Go.Lib.hid hown1; have HG1 := Go.Lib.hid hg1; clear hown1 hg1 hnil1)
        have HO2 : Hid (x1.ownsRow W0.heap.size 9 1 v1 (more ++ [y]).length ((more ++ [y]).map encStr)) := Go.Lib.hid (by
          have := HO1.out
          rw [List.map_append, List.length_append, List.map_cons, HYE.out]
          simpa using this)
        have HQ9 : Hid (Quiet W0 x1) := Go.Lib.hid ((HQW.out.alloc _).then ((Alters.refl _).grown HG1.out (fun k e _ => e)) (fun i hi e => by have := (HMR.out.lt i e).1; omega))
        clear HO1 HG1 HMR e0 e1 y0
        go_wp2_with fail
        go_roundg (out.length - (q + 1))
        case measure => omega
        case rel => exact ⟨q + 1, more ++ [y], true, by omega, Nat.le_refl _, by go_num, rfl, HO2.out, HMID.out.same (HML.out trivial) HYQ.out HB1.out HB2.out, (fun h => Bool.noConfusion h), HQ9.out⟩
      · rw [decide_eq_false he] at HEQ
        have b2 := HEQ.out
        have HB2 := Go.Lib.hid he
        clear he
        go_upto_region 14 with (fail)
        go_quiet (fail)
        have hqd : Quiet wr (wr.drewN nq) := (Alters.refl _).drewN _
        replace HMR := Go.Lib.hid (row_keep HMR.out hqd (by simp))
        replace y0 := hqd.cell y0 (by simp)
        replace e0 := hqd.cell e0 (by simp)
        replace e1 := hqd.cell e1 (by simp)
        replace HQW := Go.Lib.hid (HQW.out.trans hqd)
        clear hqd
        generalize wr.drewN nq = wq1 at *
        replace hws := HQW.out.size
        clear b1
        go_upto_region 16 with (fail)
        go_quiet (fail)
        have hqd : Quiet wq1 (wq1.drewN nq) := (Alters.refl _).drewN _
        replace HMR := Go.Lib.hid (row_keep HMR.out hqd (by simp))
        replace y0 := hqd.cell y0 (by simp)
        replace e0 := hqd.cell e0 (by simp)
        replace e1 := hqd.cell e1 (by simp)
        replace HQW := Go.Lib.hid (HQW.out.trans hqd)
        clear hqd
        generalize wq1.drewN nq = wq2 at *
        replace hws := HQW.out.size
        clear b2
        go_upto_region 18 with (at_builtin; refine wpList_append_own _ rfl (.tmp 57) (.tmp 63) 52 rfl W0.heap.size 9 i9 (.string ⟨#[]⟩) 1 16 Tryd.underlying52 hi9 hz9 hs9 hb9 rfl (by decide) _ _ _ rfl (HMR.out.alloc _) ⟨wq2.heap.size, 0, none⟩ 1 1 [.string xb] rfl rfl (cell_one_new _ _ _) (by simp [Value.oneCell']) (by unfold maxLen; omega) (by omega) (by simp; omega) ?_; intro v1 x1 hown1 hg1 hnil1; have HO1 := Go.Lib.hid hown1; have HG1 := Go.Lib.hid hg1; clear hown1 hg1 hnil1)
        have HO2 : Hid (x1.ownsRow W0.heap.size 9 1 v1 (more ++ [xb.data.toList]).length ((more ++ [xb.data.toList]).map encStr)) := Go.Lib.hid (by
          have := HO1.out
          rw [List.map_append, List.length_append, List.map_cons, ← enc_nm]
          simpa using this)
        obtain ⟨M2, hM2⟩ : ∃ M2, M2 = more ++ [xb.data.toList] := ⟨_, rfl⟩
        rw [← hM2] at HO2
        have hm2z : M2.length ≤ 1002 := by rw [hM2]; simp; omega
        have HM2 := Go.Lib.hid hM2
        clear hM2
        have hq8 : Quiet W0 x1 := (HQW.out.alloc _).then ((Alters.refl _).grown HG1.out (fun k e _ => e)) (fun i hi e => by have := (HMR.out.lt i e).1; omega)
        have HQ8 := Go.Lib.hid hq8
        have hq89 : Alters (fun k => (Value.slice ma more.length mc).ownBlock = some k) wq2 x1 := ((Alters.refl _).alloc _).grown HG1.out (fun k e _ => e)
        have hws8 := hq8.size
        replace y0 := hq89.cell y0 (fun e => by have := (HMR.out.lt _ e).1; have := HYL.out; omega)
        clear HO1 HG1 HMR e0 e1 hq8 hq89
        obtain ⟨mb2, mc2, rfl⟩ := own_form HO2.out
        go_wp2_with (at_builtin; refine wpList_append_own _ rfl (.tmp 65) (.tmp 70) 52 rfl W0.heap.size 9 i9 (.string ⟨#[]⟩) 1 16 Tryd.underlying52 hi9 hz9 hs9 hb9 rfl (by decide) _ _ _ rfl (HO2.out.alloc _) ⟨x1.heap.size, 0, none⟩ 1 1 [.string yb] rfl rfl (cell_one_new _ _ _) (by simp [Value.oneCell']) (by unfold maxLen; omega) (by omega) (by simp; omega) ?_; intro v3 x3 hown3 hg3 hnil3; have HO3 := Go.Lib.hid hown3; have HG3 := Go.Lib.hid hg3; clear hown3 hg3 hnil3)
        have HO4 : Hid (x3.ownsRow W0.heap.size 9 1 v3 (M2 ++ [y]).length ((M2 ++ [y]).map encStr)) := Go.Lib.hid (by
          have := HO3.out
          rw [List.map_append, List.length_append, List.map_cons, HYE.out]
          simpa using this)
        have HQ9 : Hid (Quiet W0 x3) := Go.Lib.hid ((HQ8.out.alloc _).then ((Alters.refl _).grown HG3.out (fun k e _ => e)) (fun i hi e => by have := (HO2.out.lt i e).1; omega))
        clear HO3 HG3 y0
        go_wp2_with fail
        go_roundg (out.length - (q + 1))
        case measure => omega
        case rel => exact ⟨q + 1, M2 ++ [y], true, by omega, Nat.le_refl _, by go_num, rfl, HO4.out, by rw [HM2.out]; exact HMID.out.put (HML.out trivial) HYQ.out HB1.out HB2.out, (fun h => Bool.noConfusion h), HQ9.out⟩
end Go.Proofs.YtnpcakakjhiboaaDoor
