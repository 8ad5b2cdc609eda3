/- norm.Of: what becomes of a formula. No condition. -/
import Derived.Test.YtnpcakakjhiboaaDoorBecome
import Derived.Test.YtnpcakakjhiboaaDoorUpward
import Derived.Test.YtnpcakakjhiboaaDoorNfP
import Derived.Test.YtnpcakakjhiboaaDoorEach
import Derived.Test.YtnpcakakjhiboaaDoorCalmT
namespace Go.Proofs.YtnpcakakjhiboaaDoor
open Go.RowKit Go.Lo Go.WideShapes

/-- The builtin clear in a walk. -/
theorem wpList_clear (w : World) {ops : Array Oper} {rest : List Oper} {o : Oper} {a : Act} {Q : Exit → Act → World → Prop} (hgd : o.guard = none) (x : Operand)
    (ho : o.op = .call { callee := .builtin .clear, args := #[x], argTypes := #[26] }) (A : Option Addr) (m c : Nat) (hx : a.eval x = .slice A m c) (w' : World)
    (hrun : (Builtin.clear_ #[26] o.type #[.slice A m c]).run Tryd.prog w = .ok (.tuple #[]) w')
    (h : wpList Tryd.prog ops Q rest (a.put o.dst (.tuple #[])) w') : wpList Tryd.prog ops Q (o :: rest) a w := by
  refine wpList_plain hgd fun K hK => ?_
  unfold Oper.wp execOp
  simp only [ho, resolve, invoke, builtin, Sem.run_bind, Sem.run_pure, Result.andThen_ok, List.map_toArray, List.map_cons, List.map_nil, hx, hrun]
  exact hK _ _ h

theorem run_clear0 (A : Option Addr) (c : Nat) (ty : TypeId) (w : World) : (Builtin.clear_ #[26] ty #[.slice A 0 c]).run Tryd.prog w = .ok (.tuple #[]) w := by
  cases A <;> simp [Builtin.clear_, run_underlying Tryd.underlying26]

theorem pl_eta (n : Ft) : Ft.pl n = .nd n.top.n (n.kids.map Ft.pl) := by
  obtain ⟨⟨m, a, c⟩, ks⟩ := n
  exact pl_nd m a c ks

theorem stack0 (n : Ft) (M : List Ft) (h : n.kids.length = 0) : Tr.stack become (M.map Ft.pl) (Ft.pl n) = M.map Ft.pl ++ [become2 n.top.n (leaf 0) (leaf 0)] := by
  unfold Tr.stack
  rw [pl_kids, pl_op, show (n.kids.map Ft.pl).length = 0 by rw [List.length_map]; exact h, Nat.sub_zero, List.take_length, List.drop_length]
  rfl

theorem stack1 (n X : Ft) (M : List Ft) (h : n.kids.length = 1) : Tr.stack become ((M ++ [X]).map Ft.pl) (Ft.pl n) = M.map Ft.pl ++ [become2 n.top.n (Ft.pl X) (leaf 0)] := by
  unfold Tr.stack
  rw [pl_kids, pl_op, show (n.kids.map Ft.pl).length = 1 by rw [List.length_map]; exact h, List.map_append]
  have e : (M.map Ft.pl ++ [X].map Ft.pl).length - 1 = (M.map Ft.pl).length := by simp
  rw [e, List.take_left, List.drop_left]
  rfl

theorem stack2 (n X Y : Ft) (M : List Ft) (h : n.kids.length = 2) : Tr.stack become ((M ++ [Y, X]).map Ft.pl) (Ft.pl n) = M.map Ft.pl ++ [become2 n.top.n (Ft.pl X) (Ft.pl Y)] := by
  unfold Tr.stack
  rw [pl_kids, pl_op, show (n.kids.map Ft.pl).length = 2 by rw [List.length_map]; exact h, List.map_append]
  have e : (M.map Ft.pl ++ [Y, X].map Ft.pl).length - 2 = (M.map Ft.pl).length := by simp
  rw [e, List.take_left, List.drop_left]
  rfl

/-- Where norm.Of's loop stands: the result's box, the nodes, what was made. -/
structure NormAt (D : Nat → Prop) (w : World) (uv : Value) (N : List Ft) (mv : Value) (M : List Ft) (W : World) : Prop where
  res : Blk W (w.heap.size + 1) #[.int .i64 0, .string ⟨#[]⟩, .int .i64 0, .int .i64 0, .int .i64 0, .int .i64 0, .slice none 0 0] 28
  rows : W.ownsRow (w.heap.size + 2) 28 7 uv N.length (N.flatMap Ft.cells)
  made : FRow (fun j => D j ∧ j ≠ w.heap.size + 1) W (w.heap.size + 2) 28 mv M
  ne : ∀ k, mv.ownBlock = some k → uv.ownBlock ≠ some k
  quiet : Quiet w W
  big : w.heap.size + 2 ≤ W.heap.size

theorem NormAt.quiet' {D : Nat → Prop} {w : World} {uv mv : Value} {N M : List Ft} {W W' : World} (h : NormAt D w uv N mv M W) (hq : Quiet W W') : NormAt D w uv N mv M W' :=
  ⟨hq.blk h.res (by simp), row_keep h.rows hq (by simp), h.made.quiet hq, h.ne, h.quiet.trans hq, Nat.le_trans h.big hq.size⟩

theorem NormAt.step {D : Nat → Prop} {w : World} {uv mv : Value} {N M : List Ft} {W w9 : World} {t : Ft} {g c : Nat} (h : NormAt D w uv N mv M W) (ht : In (fun j => (D j ∧ j ≠ w.heap.size + 1) ∧ mv.ownBlock ≠ some j) W t)
    (hown : w9.ownsRow (w.heap.size + 2) 28 7 (.slice (some ⟨g, 0, none⟩) (M.length + 1) c) (M.length + 1) (M.flatMap Ft.cells ++ Ft.cells t)) (hgrow : W.grownBy w9 mv.ownBlock) (hat : (Value.slice (some ⟨g, 0, none⟩) (M.length + 1) c).ownBlock = mv.ownBlock ∨ (Value.slice (some ⟨g, 0, none⟩) (M.length + 1) c).ownBlock = some W.heap.size) :
    NormAt D w uv N (.slice (some ⟨g, 0, none⟩) (M.length + 1) c) (M ++ [t]) w9 := by
  have hA : Alters (fun k => mv.ownBlock = some k) W w9 := (Alters.refl W).grown hgrow (fun k e _ => e)
  have hlo : ∀ k, k < w.heap.size + 2 → ¬ mv.ownBlock = some k := fun k hk e => by have := (h.made.1.lt k e).1; omega
  have hat2 : mv.ownBlock = some g ∨ W.heap.size = g := by
    rcases hat with h1 | h1
    · exact .inl h1.symm
    · right; simp [Value.ownBlock] at h1; omega
  refine ⟨hA.blk h.res (hlo _ (by omega)), row_keep h.rows hA (fun k e e2 => h.ne k e2 e), FRow.push h.made hown hgrow (hat2.imp_right (fun e => by omega)) ht, fun k e e2 => ?_, h.quiet.then hA (fun i hi hp => absurd hp (hlo i (by omega))), Nat.le_trans h.big hA.size⟩
  have e : g = k := by simpa [Value.ownBlock] using e
  subst e
  rcases hat2 with h1 | h1
  · exact h.ne g h1 e2
  · have := (h.rows.lt g e2).2
    omega

/-- What was made, cut shorter by clear. -/
theorem NormAt.cut {D : Nat → Prop} {w : World} {uv : Value} {N L0 T : List Ft} {W w7 : World} {g n c : Nat} (h : NormAt D w uv N (.slice (some ⟨g, 0, none⟩) n c) (L0 ++ T) W)
    (hown : w7.ownsRow (w.heap.size + 2) 28 7 (.slice (some ⟨g, 0, none⟩) L0.length c) L0.length (((L0 ++ T).flatMap Ft.cells).take (L0.length * 7))) (hgrow : W.grownBy w7 (some g)) :
    NormAt D w uv N (.slice (some ⟨g, 0, none⟩) L0.length c) L0 w7 ∧ ∀ t, t ∈ T → In (fun j => (D j ∧ j ≠ w.heap.size + 1) ∧ some g ≠ some j) w7 t := by
  have hA : Alters (fun k => k = g) W w7 := (Alters.refl W).grown hgrow (fun k e _ => by cases e; rfl)
  have hg := h.made.1.lt g rfl
  rw [List.flatMap_append, List.take_left' (flat_length L0)] at hown
  refine ⟨⟨hA.blk h.res (by omega), row_keep h.rows hA (fun k e e2 => h.ne k (by rw [e2]; rfl) e), ⟨hown, fun t ht => (h.made.2 t (by simp [ht])).keep hA (fun k hk _ e => hk.2 (by rw [e]; rfl))⟩, fun k e => h.ne k e, h.quiet.then hA (fun i hi e => by omega), Nat.le_trans h.big hA.size⟩, fun t ht => (h.made.2 t (by simp [ht])).keep hA (fun k hk _ e => hk.2 (by rw [e]; rfl))⟩

/-- Where the loop stands when a node is to be put on. -/
structure At15 (D : Nat → Prop) (w : World) (uv : Value) (N : List Ft) (n X Y : Ft) (bb : Nat) (own : Option Nat) (mv : Value) (M : List Ft) (W : World) : Prop where
  bn : Blk W bb (Ft.cells n).toArray 28
  bx : Blk W (bb + 1) (Ft.cells X).toArray 28
  bz : Blk W (bb + 1 + 1) (Ft.cells Y).toArray 28
  at' : NormAt D w uv N mv M W
  mx : In (fun j => (D j ∧ j ≠ w.heap.size + 1) ∧ own ≠ some j) W X
  my : In (fun j => (D j ∧ j ≠ w.heap.size + 1) ∧ own ≠ some j) W Y

theorem At15.keep {D : Nat → Prop} {w : World} {uv mv : Value} {N M : List Ft} {n X Y : Ft} {bn : Nat} {own : Option Nat} (W W' : World) (hq : Quiet W W') (h : At15 D w uv N n X Y bn own mv M W) : At15 D w uv N n X Y bn own mv M W' :=
  ⟨hq.blk h.bn (by simp), hq.blk h.bx (by simp), hq.blk h.bz (by simp), h.at'.quiet' hq, h.mx.quiet hq, h.my.quiet hq⟩

/-- A formula laid into a block of its own. -/
def Want.lay (D : Nat → Prop) (f : Fm) : Want := ⟨fun v W => ∃ b t, v = .slice (some ⟨b, 0, none⟩) 1 1 ∧ Blk W b (Ft.cells t).toArray 28 ∧ Ft.pl t = f ∧ In D W t, fun _ _ _ hq ⟨b, t, h1, h2, h3, h4⟩ => ⟨b, t, h1, hq.blk h2 (fun h => h), h3, h4.quiet hq⟩⟩

def Want.fmD (D : Nat → Prop) (f : Fm) : Want := ⟨MadeIn D f, fun _ _ _ hq h => h.quiet hq⟩

set_option maxRecDepth 100000 in
set_option maxHeartbeats 4000000 in
theorem normOf_v (D : Nat → Prop) (t : Ft) (w : World) (hin : In D w t) (hS : Shapes w) (hsz : t.size ≤ 10000) (hD : ∀ k, w.heap.size ≤ k → D k) : Calls Tryd.prog 27 #[t.val] w (Gives D (normOf (Ft.pl t)) w) := by
  have hin1 : In (fun k => k < w.heap.size) w t := hin.mono (fun k hk _ => hk)
  have HI := Go.Lib.hid hin
  have HI1 := Go.Lib.hid hin1
  have HSH := Go.Lib.hid hS
  have HSZ := Go.Lib.hid hsz
  have HD := Go.Lib.hid hD
  clear hin hin1 hS hsz hD
  unfold Ft.val
  go_enter Tryd.func27, Tryd.ntmps27
  go_upto_region 1 with (fail)
  have B : Hid (Blk ((w.alloc (.cells #[.int .i64 t.top.n.op, .string t.top.n.nm, .int .i64 t.top.n.cmp, .int .i64 t.top.n.val, .int .i64 t.top.n.lo, .int .i64 t.top.n.hi, .slice t.top.a t.kids.length t.top.cap] 28)).alloc (.cells #[.int .i64 0, .string ⟨#[]⟩, .int .i64 0, .int .i64 0, .int .i64 0, .int .i64 0, .slice none 0 0] 28)) w.heap.size #[.int .i64 t.top.n.op, .string t.top.n.nm, .int .i64 t.top.n.cmp, .int .i64 t.top.n.val, .int .i64 t.top.n.lo, .int .i64 t.top.n.hi, .slice t.top.a t.kids.length t.top.cap] 28) := (Blk.new _ _ _).alloc _
  have BR : Hid (Blk ((w.alloc (.cells #[.int .i64 t.top.n.op, .string t.top.n.nm, .int .i64 t.top.n.cmp, .int .i64 t.top.n.val, .int .i64 t.top.n.lo, .int .i64 t.top.n.hi, .slice t.top.a t.kids.length t.top.cap] 28)).alloc (.cells #[.int .i64 0, .string ⟨#[]⟩, .int .i64 0, .int .i64 0, .int .i64 0, .int .i64 0, .slice none 0 0] 28)) (w.heap.size + 1) #[.int .i64 0, .string ⟨#[]⟩, .int .i64 0, .int .i64 0, .int .i64 0, .int .i64 0, .slice none 0 0] 28) := alloc2 _ _ _ _
  have HQ : Hid (Quiet w ((w.alloc (.cells #[.int .i64 t.top.n.op, .string t.top.n.nm, .int .i64 t.top.n.cmp, .int .i64 t.top.n.val, .int .i64 t.top.n.lo, .int .i64 t.top.n.hi, .slice t.top.a t.kids.length t.top.cap] 28)).alloc (.cells #[.int .i64 0, .string ⟨#[]⟩, .int .i64 0, .int .i64 0, .int .i64 0, .int .i64 0, .slice none 0 0] 28))) := ((Alters.refl _).alloc _).alloc _
  generalize (w.alloc _).alloc _ = w1 at *
  obtain ⟨c0, c1, c2, c3, c4, c5, c6⟩ := seven_cells B.out
  have HS := Go.Lib.hid (sound_walk D t w1 (HI.out.quiet HQ.out) (HSH.out.keep HQ.out (by simp)) (by have := HSZ.out; omega))
  unfold Ft.val at HS
  go_wp2_with fail
  refine HS.out.mono ?_
  rintro e w2 ⟨rfl, hq2⟩
  clear c0 c1 c2 c3 c4 c5 c6 HS
  replace B := Go.Lib.hid (hq2.blk B.out (by simp))
  replace BR := Go.Lib.hid (hq2.blk BR.out (by simp))
  replace HQ := Go.Lib.hid (HQ.out.trans hq2)
  clear hq2
  by_cases hf : first (Ft.pl t) = 0
  rotate_left
  · have hd : decide (first (Ft.pl t) = 0) = false := by simpa using hf
    have HN := Go.Lib.hid (show normOf (Ft.pl t) = leaf 0 by unfold normOf; rw [if_neg hf])
    clear hf
    obtain ⟨r0, r1, r2, r3, r4, r5, r6⟩ := seven_cells BR.out
    have fr := fun i => BR.out.free i
    go_wp2
    have hb7 := blk7 BR.out (.int .i64 0) (.string ⟨#[]⟩) (.int .i64 0) (.int .i64 0) (.int .i64 0) (.int .i64 0) (.slice none 0 0)
    have hs7 := set7 w2 (w.heap.size + 1) (.int .i64 0) (.string ⟨#[]⟩) (.int .i64 0) (.int .i64 0) (.int .i64 0) (.int .i64 0) (.slice none 0 0)
    have hq7 : Quiet w _ := HQ.out.then hs7 (fun i hi e => by omega)
    clear r0 r1 r2 r3 r4 r5 r6
    obtain ⟨r0, r1, r2, r3, r4, r5, r6⟩ := seven_cells hb7
    exact bodyPost_ret (v := Ft.val (.nd ⟨{ z0 with op := 0 }, none, 0⟩ [])) (by simp [results, Tryd.results27, go_sem, Ft.val, Tr.top, Tr.kids, z0, r0, r1, r2, r3, r4, r5, r6]) rfl ⟨_, rfl, ⟨_, rfl, by rw [HN.out]; rfl, In.leaf _ _ _⟩, hq7⟩
  · have hd : decide (first (Ft.pl t) = 0) = true := by simpa using hf
    have hsd := (first_zero _).1 hf
    have HN := Go.Lib.hid (normOf_sound hsd)
    have HSD := Go.Lib.hid hsd
    clear hf hsd
    obtain ⟨c0, c1, c2, c3, c4, c5, c6⟩ := seven_cells B.out
    have HU := Go.Lib.hid (upward_walk t w2 ((HI1.out.quiet HQ.out).mono (fun k hk _ => hk)) (by have := HSZ.out; omega))
    unfold Ft.val at HU
    go_wp2_with fail
    refine HU.out.mono ?_
    rintro e w3 ⟨uv, rfl, hown, hinn, hq3⟩
    have hne9 : t.pre ≠ [] := by cases t; simp [Tr.pre]
    have hlen : t.pre.length = (t.pre.length - 1) + 1 := by have := List.length_pos_iff.2 hne9; omega
    have hl9 : t.pre.length ≤ 10000 := by have := HSZ.out; rw [Tr.pre_length]; exact this
    have hown2 := hown
    rw [hlen] at hown2
    obtain ⟨gu, cu, huv⟩ := ownsRow_succ hown2
    rw [← hlen] at huv
    subst huv
    clear hown2
    have hbas : w.heap.size + 2 ≤ w2.heap.size := BR.out.lt
    have hr0 : w3.ownsRow (w.heap.size + 2) 28 7 (.slice (some ⟨gu, 0, none⟩) t.pre.length cu) t.pre.reverse.length (t.pre.reverse.flatMap Ft.cells) := by
      rw [List.length_reverse]
      rcases hown with ⟨h1, ⟨h2, _⟩ | ⟨g', c', cur, h2, h3, h4⟩⟩
      · cases h2
      · exact ⟨h1, .inr ⟨g', c', cur, h2, by omega, h4⟩⟩
    have hA : NormAt D w (.slice (some ⟨gu, 0, none⟩) t.pre.length cu) t.pre.reverse (.slice none 0 0) [] w3 :=
      ⟨hq3.blk BR.out (by simp), hr0, FRow.nil _ _ _ _, by simp [Value.ownBlock], HQ.out.trans hq3, by have := hq3.size; omega⟩
    obtain ⟨hrun, hfold⟩ := made_run HSD.out
    have hpre : (Ft.pl t).pre.reverse = t.pre.reverse.map Ft.pl := by
      show (Tr.map Hd.n t).pre.reverse = _
      rw [Tr.map_pre, List.map_reverse]
      rfl
    rw [hpre] at hrun hfold
    have hnd : ∀ n, n ∈ t.pre.reverse → wrong (Ft.pl n) = 0 := fun n hn => HSD.out (Ft.pl n) (by
      have : Ft.pl n ∈ (Ft.pl t).pre.reverse := by rw [hpre]; exact List.mem_map_of_mem hn
      simpa using this)
    have hNl : t.pre.reverse.length = t.pre.length := List.length_reverse
    have hK : 4 * (Ft.pl t).size ≤ 40000 := by
      have : (Ft.pl t).size = t.size := Tr.map_size _ _
      have := HSZ.out
      omega
    have HK := Go.Lib.hid hK
    have HNT := Go.Lib.hid hl9
    clear hlen hown hinn hq3 hr0 hpre HU HI HI1 HSD B BR HQ c0 c1 c2 c3 c4 c5 c6 hbas hK
    generalize t.pre.reverse = N at *
    generalize t.pre.length = nN at *
    have HNL := Go.Lib.hid hNl
    have HND := Go.Lib.hid hnd
    have HA := Go.Lib.hid hA
    have HRUN := Go.Lib.hid hrun
    have HFOLD := Go.Lib.hid hfold
    clear hNl hnd hA hrun hfold
    go_wp2
    go_loopw [3, 16] (fun mv i wr => ∃ (k : Nat) (M : List Ft), k ≤ nN ∧ i = .int .i64 k ∧ Tr.runOk (OnStack (4 * (Ft.pl t).size)) become (M.map Ft.pl) ((N.drop k).map Ft.pl) ∧ ((N.drop k).map Ft.pl).foldl (Tr.stack become) (M.map Ft.pl) = [made (Ft.pl t)] ∧ M.length ≤ k ∧ (∀ m, m ∈ M.map Ft.pl → OnStack (4 * (Ft.pl t).size) m) ∧ NormAt D w (.slice (some ⟨gu, 0, none⟩) nN cu) N mv M wr) (fun _ i _ => nN - (intOf i).toNat)
    case atStart => exact ⟨0, [], Nat.zero_le _, rfl, HRUN.out, HFOLD.out, Nat.le_refl _, by simp, HA.out⟩
    case round =>
      clear HA HRUN HFOLD
      obtain ⟨k, M, hk, rfl, hrun, hfold, hMk, hon, hA⟩ := hrel
      generalize u3 = mv at *
      by_cases hlt : k < nN
      · have hltN : k < N.length := by rw [HNL.out]; exact hlt
        obtain ⟨cs, hb, -, -, -, -, hrr⟩ := own_block (n := nN) (by have := hA.rows; rw [HNL.out] at this; exact this)
        obtain ⟨d0, d1, d2, d3, d4, d5, d6⟩ := (show AtP wr gu (k * 7) N[k] from fun j u hu => hb.cell _ (hrr k N[k] (by simp [hltN]) j u hu)).seven
        have hw := HND.out N[k] (by simp)
        rw [List.drop_eq_getElem_cons hltN] at hrun hfold
        simp only [List.map_cons, List.foldl_cons] at hrun hfold
        generalize N[k] = n at *
        obtain ⟨h1, h12, hkl, -, -⟩ := wrong_zero (by rw [pl_eta] at hw; exact hw)
        rw [List.length_map] at hkl
        have hk2 := kids_le2 n.top.n.op
        rw [← hkl] at hk2
        have hcases : n.kids.length = 0 ∨ n.kids.length = 1 ∨ n.kids.length = 2 := by omega
        clear hkl hw hb hrr
        rcases hcases with hk0 | hk0 | hk0
        · rw [hk0] at d6
          obtain ⟨A, c, rfl⟩ := hA.made.form
          have hAc : (∃ gm, A = some ⟨gm, 0, none⟩) ∨ (A = none ∧ M = [] ∧ c = 0) := by
            rcases hA.made.1.2 with ⟨hv, h0⟩ | ⟨g', c', cur, hv, _⟩
            · have h7 : A = none ∧ M.length = 0 ∧ c = 0 := by simpa using hv
              exact .inr ⟨h7.1, List.eq_nil_of_length_eq_zero h0, h7.2.2⟩
            · have h7 : A = some ⟨g', 0, none⟩ ∧ c = c' := by simpa using hv
              exact .inl ⟨_, h7.1⟩
          rcases hAc with ⟨gm, rfl⟩ | ⟨rfl, rfl, rfl⟩
          · by_cases hcM : c = M.length
            · subst hcM
              have hcn : #[.int .i64 n.top.n.op, .string n.top.n.nm, .int .i64 n.top.n.cmp, .int .i64 n.top.n.val, .int .i64 n.top.n.lo, .int .i64 n.top.n.hi, .slice n.top.a 0 n.top.cap] = (Ft.cells n).toArray := by simp [Ft.cells, hk0]
              have hq6 : Quiet wr (((wr.alloc (.cells #[.int .i64 n.top.n.op, .string n.top.n.nm, .int .i64 n.top.n.cmp, .int .i64 n.top.n.val, .int .i64 n.top.n.lo, .int .i64 n.top.n.hi, .slice n.top.a 0 n.top.cap] 28)).alloc (.cells #[.int .i64 0, .string ⟨#[]⟩, .int .i64 0, .int .i64 0, .int .i64 0, .int .i64 0, .slice none 0 0] 28)).alloc (.cells #[.int .i64 0, .string ⟨#[]⟩, .int .i64 0, .int .i64 0, .int .i64 0, .int .i64 0, .slice none 0 0] 28)) := (((Alters.refl _).alloc _).alloc _).alloc _
              have hs15 : At15 D w (.slice (some ⟨gu, 0, none⟩) nN cu) N n (.nd ⟨z0, none, 0⟩ []) (.nd ⟨z0, none, 0⟩ []) wr.heap.size (some gm) (.slice (some ⟨gm, 0, none⟩) M.length M.length) M (((wr.alloc (.cells #[.int .i64 n.top.n.op, .string n.top.n.nm, .int .i64 n.top.n.cmp, .int .i64 n.top.n.val, .int .i64 n.top.n.lo, .int .i64 n.top.n.hi, .slice n.top.a 0 n.top.cap] 28)).alloc (.cells #[.int .i64 0, .string ⟨#[]⟩, .int .i64 0, .int .i64 0, .int .i64 0, .int .i64 0, .slice none 0 0] 28)).alloc (.cells #[.int .i64 0, .string ⟨#[]⟩, .int .i64 0, .int .i64 0, .int .i64 0, .int .i64 0, .slice none 0 0] 28)) :=
                ⟨by rw [← hcn]; exact ((Blk.new _ _ _).alloc _).alloc _, (alloc2 _ _ _ _).alloc _, alloc3 _ _ _ _ _, hA.quiet' hq6, In.leaf _ _ _, In.leaf _ _ _⟩
              have hr2 := hrun.2.1
              have hr3 := hrun.2.2
              rw [stack0 n _ hk0] at hr3 hfold
              have hF5 : OnStack (4 * (Ft.pl t).size) (leaf 0) → Has4 (leaf 0) ∧ (leaf 0).size ≤ 100000 := fun _ => ⟨Has4.leaf (by decide), by rw [leaf_size]; omega⟩
              have HF4 : Hid (Has4 (leaf 0) ∧ (leaf 0).size ≤ 100000) := ⟨Has4.leaf (by decide), by rw [leaf_size]; omega⟩
              have HF5 : Hid (Has4 (leaf 0) ∧ (leaf 0).size ≤ 100000) := HF4
              have HRUN2 : Hid (∀ t9, Ft.pl t9 = become2 n.top.n (leaf 0) (leaf 0) → Tr.runOk (OnStack (4 * (Ft.pl t).size)) become ((M ++ [t9]).map Ft.pl) ((N.drop (k + 1)).map Ft.pl)) := fun t9 h9 => by rw [List.map_append, List.map_singleton, h9]; exact hr3
              have HFOLD2 : Hid (∀ t9, Ft.pl t9 = become2 n.top.n (leaf 0) (leaf 0) → ((N.drop (k + 1)).map Ft.pl).foldl (Tr.stack become) ((M ++ [t9]).map Ft.pl) = [made (Ft.pl t)]) := fun t9 h9 => by rw [List.map_append, List.map_singleton, h9]; exact hfold
              have HON2 : Hid (∀ t9, Ft.pl t9 = become2 n.top.n (leaf 0) (leaf 0) → ∀ m, m ∈ (M ++ [t9]).map Ft.pl → OnStack (4 * (Ft.pl t).size) m) := fun t9 h9 m hm => by
                rw [List.map_append, List.mem_append] at hm
                rcases hm with hm | hm
                · exact hon m hm
                · obtain rfl : m = Ft.pl t9 := by simpa using hm
                  rw [h9]
                  have h7 := hr2
                  rw [pl_kids, pl_op, show (n.kids.map Ft.pl).length = 0 by rw [List.length_map]; exact hk0, Nat.sub_zero, List.drop_length] at h7
                  exact h7
              have HMK : Hid (M.length ≤ 10000) := Nat.le_trans hMk (by have h8 := HNT.out; omega)
              have HMK2 : Hid (M.length ≤ k) := hMk
              have hmlv : M.length ≤ 10000 := HMK.out
              have hcp : M.length ≤ M.length := row_room9 hA.made.1
              have HS15 := Go.Lib.hid hs15
              have HK0 := Go.Lib.hid hk0
              clear hA hrun hr2 hr3 hfold hon hk2 hcn hq6 hs15 hMk hF5
              go_upto_region 14 with (fail)
              go_wp2_with (refine wpList_clear _ rfl (.tmp 48) rfl _ 0 _ rfl _ (run_clear0 _ _ _ _) ?_)
              have hv7 : .agg #[.int .i64 n.top.n.op, .string n.top.n.nm, .int .i64 n.top.n.cmp, .int .i64 n.top.n.val, .int .i64 n.top.n.lo, .int .i64 n.top.n.hi, .slice n.top.a 0 n.top.cap] = Ft.val n := by unfold Ft.val; rw [HK0.out]
              have HV7 := Go.Lib.hid hv7
              clear hv7
              clear d0 d1 d2 d3 d4 d5 d6 hk0
              generalize ((wr.alloc _).alloc _).alloc _ = w6 at *
              refine wp_region_tail 8 (by kernel_rfl) (by kernel_rfl) (by kernel_rfl) (by kernel_rfl) (by kernel_rfl) (At15 D w (.slice (some ⟨gu, 0, none⟩) nN cu) N n (.nd ⟨z0, none, 0⟩ []) (.nd ⟨z0, none, 0⟩ []) wr.heap.size (some gm) (.slice (some ⟨gm, 0, none⟩) M.length M.length) M) (fun _ _ hq h => h.keep _ _ hq) [Want.is (.slice (some ⟨gm, 0, none⟩) M.length M.length), Want.is (.int .i64 ((M.length : Int))), Want.is (.slice (some ⟨gm, 0, none⟩) M.length M.length), Want.is (.agg #[.int .i64 n.top.n.op, .string n.top.n.nm, .int .i64 n.top.n.cmp, .int .i64 n.top.n.val, .int .i64 n.top.n.lo, .int .i64 n.top.n.hi, .slice n.top.a 0 n.top.cap]), Want.fmD (fun j => (D j ∧ j ≠ w.heap.size + 1) ∧ some gm ≠ some j) (leaf 0), Want.fmD (fun j => (D j ∧ j ≠ w.heap.size + 1) ∧ some gm ≠ some j) (leaf 0), Want.fmD (fun j => (D j ∧ j ≠ w.heap.size + 1) ∧ some gm ≠ some j) (become2 n.top.n (leaf 0) (leaf 0)), Want.lay (fun j => (D j ∧ j ≠ w.heap.size + 1) ∧ some gm ≠ some j) (become2 n.top.n (leaf 0) (leaf 0))] (HS15.out.keep _ _ ((Alters.refl _).drew)) (by simp) ?_ ?_
              · refine Steps.cons ?_ (Steps.cons ?_ (Steps.cons ?_ (Steps.cons ?_ (Steps.cons ?_ (Steps.cons ?_ (Steps.cons ?_ (Steps.last ?_)))))))
                · intro u W K hS hF hK
                  simp only [putsFrom, Act.put, Nat.reduceAdd, List.setIfInBounds_toArray, List.set_cons_zero, List.set_cons_succ, List.take_succ_cons, List.take_zero] at hK ⊢
                  clear hF
                  go_simp
                  exact hK.out _ _ (Alters.refl _) rfl
                · intro u W K hS hF hK
                  simp only [putsFrom, Act.put, Nat.reduceAdd, List.setIfInBounds_toArray, List.set_cons_zero, List.set_cons_succ, List.take_succ_cons, List.take_zero] at hK ⊢
                  clear hF
                  go_simp
                  exact hK.out _ _ (Alters.refl _) rfl
                · intro u W K hS hF hK
                  have f0 : u 0 = .slice (some ⟨gm, 0, none⟩) M.length M.length := hF 0 (by kernel_rfl)
                  have f1 : u 1 = .int .i64 ((M.length : Int)) := hF 1 (by kernel_rfl)
                  simp only [putsFrom, Act.put, Nat.reduceAdd, List.setIfInBounds_toArray, List.set_cons_zero, List.set_cons_succ, List.take_succ_cons, List.take_zero, f0, f1] at hK ⊢
                  clear hF
                  go_simp
                  exact hK.out _ _ (Alters.refl _) rfl
                · intro u W K hS hF hK
                  simp only [putsFrom, Act.put, Nat.reduceAdd, List.setIfInBounds_toArray, List.set_cons_zero, List.set_cons_succ, List.take_succ_cons, List.take_zero] at hK ⊢
                  clear hF
                  obtain ⟨x0, x1, x2, x3, x4, x5, x6⟩ := (boxed_at hS.bn).seven
                  simp only [Nat.zero_add] at x0 x1 x2 x3 x4 x5 x6
                  rw [HK0.out] at x6
                  go_simp
                  exact hK.out _ _ (Alters.refl _) rfl
                · intro u W K hS hF hK
                  simp only [putsFrom, Act.put, Nat.reduceAdd, List.setIfInBounds_toArray, List.set_cons_zero, List.set_cons_succ, List.take_succ_cons, List.take_zero] at hK ⊢
                  clear hF
                  obtain ⟨x0, x1, x2, x3, x4, x5, x6⟩ := (boxed_at hS.bx).seven
                  simp only [Nat.zero_add] at x0 x1 x2 x3 x4 x5 x6
                  go_simp
                  exact hK.out _ _ (Alters.refl _) ⟨(.nd ⟨z0, none, 0⟩ []), rfl, by rfl, hS.mx⟩
                · intro u W K hS hF hK
                  simp only [putsFrom, Act.put, Nat.reduceAdd, List.setIfInBounds_toArray, List.set_cons_zero, List.set_cons_succ, List.take_succ_cons, List.take_zero] at hK ⊢
                  clear hF
                  obtain ⟨x0, x1, x2, x3, x4, x5, x6⟩ := (boxed_at hS.bz).seven
                  simp only [Nat.zero_add] at x0 x1 x2 x3 x4 x5 x6
                  go_simp
                  exact hK.out _ _ (Alters.refl _) ⟨(.nd ⟨z0, none, 0⟩ []), rfl, by rfl, hS.my⟩
                · intro u W K hS hF hK
                  have f3 : u 3 = .agg #[.int .i64 n.top.n.op, .string n.top.n.nm, .int .i64 n.top.n.cmp, .int .i64 n.top.n.val, .int .i64 n.top.n.lo, .int .i64 n.top.n.hi, .slice n.top.a 0 n.top.cap] := hF 3 (by kernel_rfl)
                  have f4 : MadeIn (fun j => (D j ∧ j ≠ w.heap.size + 1) ∧ some gm ≠ some j) (leaf 0) (u 4) W := hF 4 (by kernel_rfl)
                  have f5 : MadeIn (fun j => (D j ∧ j ≠ w.heap.size + 1) ∧ some gm ≠ some j) (leaf 0) (u 5) W := hF 5 (by kernel_rfl)
                  simp only [putsFrom, Act.put, Nat.reduceAdd, List.setIfInBounds_toArray, List.set_cons_zero, List.set_cons_succ, List.take_succ_cons, List.take_zero, f3] at hK ⊢
                  clear hF
                  go_simp
                  refine ((show Calls Tryd.prog 75 #[.agg #[.int .i64 n.top.n.op, .string n.top.n.nm, .int .i64 n.top.n.cmp, .int .i64 n.top.n.val, .int .i64 n.top.n.lo, .int .i64 n.top.n.hi, .slice n.top.a 0 n.top.cap], u 4, u 5] W (Gives (fun j => (D j ∧ j ≠ w.heap.size + 1) ∧ some gm ≠ some j) (become2 n.top.n (leaf 0) (leaf 0)) W) from by rw [HV7.out]; exact become_v n (fun k hk => ⟨⟨HD.out k (by have := hS.at'.quiet.size; omega), by have := hS.at'.big; omega⟩, fun e => by have := (hS.at'.made.1.lt k e).2; omega⟩) f4 f5 HF4.out.1 HF5.out.1 HF5.out.2 h1 h12)).mono ?_
                  rintro e W2 ⟨v, rfl, hm, hq⟩
                  exact hK.out _ _ hq hm
                · intro u W K hS hF hK
                  have f6 : MadeIn (fun j => (D j ∧ j ≠ w.heap.size + 1) ∧ some gm ≠ some j) (become2 n.top.n (leaf 0) (leaf 0)) (u 6) W := hF 6 (by kernel_rfl)
                  obtain ⟨t9, e9, hp9, hi9⟩ := f6
                  simp only [putsFrom, Act.put, Nat.reduceAdd, List.setIfInBounds_toArray, List.set_cons_zero, List.set_cons_succ, List.take_succ_cons, List.take_zero, e9] at hK ⊢
                  clear hF e9
                  unfold Ft.val at hK ⊢
                  go_simp
                  exact hK.out _ _ ((Alters.refl _).alloc _) ⟨_, t9, rfl, Blk.new _ _ _, hp9, hi9.quiet ((Alters.refl _).alloc _)⟩
              · intro u W hS hF
                have f2 : u 2 = .slice (some ⟨gm, 0, none⟩) M.length M.length := hF 2 (by decide)
                obtain ⟨b9, t9, e9, hb9, hp9, hi9⟩ : ∃ b t, u 7 = .slice (some ⟨b, 0, none⟩) 1 1 ∧ Blk W b (Ft.cells t).toArray 28 ∧ Ft.pl t = become2 n.top.n (leaf 0) (leaf 0) ∧ In (fun j => (D j ∧ j ≠ w.heap.size + 1) ∧ some gm ≠ some j) W t := hF 7 (by decide)
                simp only [putsFrom, Act.put, Nat.reduceAdd, List.setIfInBounds_toArray, List.set_cons_zero, List.set_cons_succ, List.take_succ_cons, List.take_zero, f2, e9, List.drop_succ_cons, List.drop_zero]
                clear hF f2 e9
                have HS := Go.Lib.hid hS
                have HB9 := Go.Lib.hid hb9
                have HP9 := Go.Lib.hid hp9
                have HI9 := Go.Lib.hid hi9
                have hrd : Reads W (some ⟨b9, 0, none⟩) 7 1 (Ft.cells t9) := ⟨rfl, fun _ => ⟨_, rfl, World.news_of_block hb9⟩⟩
                have HRD := Go.Lib.hid hrd
                have hml : M.length ≤ 20000 := by have := HMK.out; omega
                clear hS hb9 hp9 hi9 hrd
                obtain ⟨i0, hi0, hz0, hz1, hz2⟩ := info_parts info28
                refine wpList_append_reads _ rfl (.tmp 51) (.tmp 56) 26 rfl (w.heap.size + 2) 28 i0 _ 7 80 Tryd.underlying26 hi0 hz0 hz1 hz2 rfl (by decide) (.slice (some ⟨gm, 0, none⟩) M.length M.length) M.length (M.flatMap Ft.cells) rfl HS.out.at'.made.1 (some ⟨b9, 0, none⟩) 1 1 (Ft.cells t9) rfl HRD.out (cells_one t9) (by unfold maxLen; omega) (by omega) HS.out.at'.big ?_
                intro v9 w9 hown9 hgrow9 hat9
                obtain ⟨g9, c9, rfl⟩ := ownsRow_succ hown9
                have hnew := HS.out.at'.step HI9.out hown9 hgrow9 hat9
                have HNEW := Go.Lib.hid hnew
                clear hnew hown9 hgrow9 hat9 HRD
                go_wp2
                go_roundw
                case rel => exact ⟨k + 1, M ++ [t9], by omega, by go_num, HRUN2.out _ HP9.out, HFOLD2.out _ HP9.out, by have := HMK2.out; simp at this ⊢ <;> omega, HON2.out _ HP9.out, by simpa using HNEW.out⟩
                case measure => simp [intOf]; omega
            · have hcn : #[.int .i64 n.top.n.op, .string n.top.n.nm, .int .i64 n.top.n.cmp, .int .i64 n.top.n.val, .int .i64 n.top.n.lo, .int .i64 n.top.n.hi, .slice n.top.a 0 n.top.cap] = (Ft.cells n).toArray := by simp [Ft.cells, hk0]
              have hq6 : Quiet wr (((wr.alloc (.cells #[.int .i64 n.top.n.op, .string n.top.n.nm, .int .i64 n.top.n.cmp, .int .i64 n.top.n.val, .int .i64 n.top.n.lo, .int .i64 n.top.n.hi, .slice n.top.a 0 n.top.cap] 28)).alloc (.cells #[.int .i64 0, .string ⟨#[]⟩, .int .i64 0, .int .i64 0, .int .i64 0, .int .i64 0, .slice none 0 0] 28)).alloc (.cells #[.int .i64 0, .string ⟨#[]⟩, .int .i64 0, .int .i64 0, .int .i64 0, .int .i64 0, .slice none 0 0] 28)) := (((Alters.refl _).alloc _).alloc _).alloc _
              have hs15 : At15 D w (.slice (some ⟨gu, 0, none⟩) nN cu) N n (.nd ⟨z0, none, 0⟩ []) (.nd ⟨z0, none, 0⟩ []) wr.heap.size (some gm) (.slice (some ⟨gm, 0, none⟩) M.length c) M (((wr.alloc (.cells #[.int .i64 n.top.n.op, .string n.top.n.nm, .int .i64 n.top.n.cmp, .int .i64 n.top.n.val, .int .i64 n.top.n.lo, .int .i64 n.top.n.hi, .slice n.top.a 0 n.top.cap] 28)).alloc (.cells #[.int .i64 0, .string ⟨#[]⟩, .int .i64 0, .int .i64 0, .int .i64 0, .int .i64 0, .slice none 0 0] 28)).alloc (.cells #[.int .i64 0, .string ⟨#[]⟩, .int .i64 0, .int .i64 0, .int .i64 0, .int .i64 0, .slice none 0 0] 28)) :=
                ⟨by rw [← hcn]; exact ((Blk.new _ _ _).alloc _).alloc _, (alloc2 _ _ _ _).alloc _, alloc3 _ _ _ _ _, hA.quiet' hq6, In.leaf _ _ _, In.leaf _ _ _⟩
              have hr2 := hrun.2.1
              have hr3 := hrun.2.2
              rw [stack0 n _ hk0] at hr3 hfold
              have hF5 : OnStack (4 * (Ft.pl t).size) (leaf 0) → Has4 (leaf 0) ∧ (leaf 0).size ≤ 100000 := fun _ => ⟨Has4.leaf (by decide), by rw [leaf_size]; omega⟩
              have HF4 : Hid (Has4 (leaf 0) ∧ (leaf 0).size ≤ 100000) := ⟨Has4.leaf (by decide), by rw [leaf_size]; omega⟩
              have HF5 : Hid (Has4 (leaf 0) ∧ (leaf 0).size ≤ 100000) := HF4
              have HRUN2 : Hid (∀ t9, Ft.pl t9 = become2 n.top.n (leaf 0) (leaf 0) → Tr.runOk (OnStack (4 * (Ft.pl t).size)) become ((M ++ [t9]).map Ft.pl) ((N.drop (k + 1)).map Ft.pl)) := fun t9 h9 => by rw [List.map_append, List.map_singleton, h9]; exact hr3
              have HFOLD2 : Hid (∀ t9, Ft.pl t9 = become2 n.top.n (leaf 0) (leaf 0) → ((N.drop (k + 1)).map Ft.pl).foldl (Tr.stack become) ((M ++ [t9]).map Ft.pl) = [made (Ft.pl t)]) := fun t9 h9 => by rw [List.map_append, List.map_singleton, h9]; exact hfold
              have HON2 : Hid (∀ t9, Ft.pl t9 = become2 n.top.n (leaf 0) (leaf 0) → ∀ m, m ∈ (M ++ [t9]).map Ft.pl → OnStack (4 * (Ft.pl t).size) m) := fun t9 h9 m hm => by
                rw [List.map_append, List.mem_append] at hm
                rcases hm with hm | hm
                · exact hon m hm
                · obtain rfl : m = Ft.pl t9 := by simpa using hm
                  rw [h9]
                  have h7 := hr2
                  rw [pl_kids, pl_op, show (n.kids.map Ft.pl).length = 0 by rw [List.length_map]; exact hk0, Nat.sub_zero, List.drop_length] at h7
                  exact h7
              have HMK : Hid (M.length ≤ 10000) := Nat.le_trans hMk (by have h8 := HNT.out; omega)
              have HMK2 : Hid (M.length ≤ k) := hMk
              have hmlv : M.length ≤ 10000 := HMK.out
              have hcp : M.length ≤ c := row_room9 hA.made.1
              have HS15 := Go.Lib.hid hs15
              have HK0 := Go.Lib.hid hk0
              clear hA hrun hr2 hr3 hfold hon hk2 hcn hq6 hs15 hMk hF5
              go_upto_region 14 with (fail)
              go_wp2_with (refine wpList_clear _ rfl (.tmp 48) rfl _ 0 _ rfl _ (run_clear0 _ _ _ _) ?_)
              have hv7 : .agg #[.int .i64 n.top.n.op, .string n.top.n.nm, .int .i64 n.top.n.cmp, .int .i64 n.top.n.val, .int .i64 n.top.n.lo, .int .i64 n.top.n.hi, .slice n.top.a 0 n.top.cap] = Ft.val n := by unfold Ft.val; rw [HK0.out]
              have HV7 := Go.Lib.hid hv7
              clear hv7
              clear d0 d1 d2 d3 d4 d5 d6 hk0
              generalize ((wr.alloc _).alloc _).alloc _ = w6 at *
              refine wp_region_tail 8 (by kernel_rfl) (by kernel_rfl) (by kernel_rfl) (by kernel_rfl) (by kernel_rfl) (At15 D w (.slice (some ⟨gu, 0, none⟩) nN cu) N n (.nd ⟨z0, none, 0⟩ []) (.nd ⟨z0, none, 0⟩ []) wr.heap.size (some gm) (.slice (some ⟨gm, 0, none⟩) M.length c) M) (fun _ _ hq h => h.keep _ _ hq) [Want.is (.slice (some ⟨gm, 0, none⟩) M.length c), Want.is (.int .i64 ((M.length : Int))), Want.is (.slice (some ⟨gm, 0, none⟩) M.length c), Want.is (.agg #[.int .i64 n.top.n.op, .string n.top.n.nm, .int .i64 n.top.n.cmp, .int .i64 n.top.n.val, .int .i64 n.top.n.lo, .int .i64 n.top.n.hi, .slice n.top.a 0 n.top.cap]), Want.fmD (fun j => (D j ∧ j ≠ w.heap.size + 1) ∧ some gm ≠ some j) (leaf 0), Want.fmD (fun j => (D j ∧ j ≠ w.heap.size + 1) ∧ some gm ≠ some j) (leaf 0), Want.fmD (fun j => (D j ∧ j ≠ w.heap.size + 1) ∧ some gm ≠ some j) (become2 n.top.n (leaf 0) (leaf 0)), Want.lay (fun j => (D j ∧ j ≠ w.heap.size + 1) ∧ some gm ≠ some j) (become2 n.top.n (leaf 0) (leaf 0))] (HS15.out.keep _ _ ((Alters.refl _).drew)) (by simp) ?_ ?_
              · refine Steps.cons ?_ (Steps.cons ?_ (Steps.cons ?_ (Steps.cons ?_ (Steps.cons ?_ (Steps.cons ?_ (Steps.cons ?_ (Steps.last ?_)))))))
                · intro u W K hS hF hK
                  simp only [putsFrom, Act.put, Nat.reduceAdd, List.setIfInBounds_toArray, List.set_cons_zero, List.set_cons_succ, List.take_succ_cons, List.take_zero] at hK ⊢
                  clear hF
                  go_simp
                  exact hK.out _ _ (Alters.refl _) rfl
                · intro u W K hS hF hK
                  simp only [putsFrom, Act.put, Nat.reduceAdd, List.setIfInBounds_toArray, List.set_cons_zero, List.set_cons_succ, List.take_succ_cons, List.take_zero] at hK ⊢
                  clear hF
                  go_simp
                  exact hK.out _ _ (Alters.refl _) rfl
                · intro u W K hS hF hK
                  have f0 : u 0 = .slice (some ⟨gm, 0, none⟩) M.length c := hF 0 (by kernel_rfl)
                  have f1 : u 1 = .int .i64 ((M.length : Int)) := hF 1 (by kernel_rfl)
                  simp only [putsFrom, Act.put, Nat.reduceAdd, List.setIfInBounds_toArray, List.set_cons_zero, List.set_cons_succ, List.take_succ_cons, List.take_zero, f0, f1] at hK ⊢
                  clear hF
                  go_simp
                  exact hK.out _ _ (Alters.refl _) rfl
                · intro u W K hS hF hK
                  simp only [putsFrom, Act.put, Nat.reduceAdd, List.setIfInBounds_toArray, List.set_cons_zero, List.set_cons_succ, List.take_succ_cons, List.take_zero] at hK ⊢
                  clear hF
                  obtain ⟨x0, x1, x2, x3, x4, x5, x6⟩ := (boxed_at hS.bn).seven
                  simp only [Nat.zero_add] at x0 x1 x2 x3 x4 x5 x6
                  rw [HK0.out] at x6
                  go_simp
                  exact hK.out _ _ (Alters.refl _) rfl
                · intro u W K hS hF hK
                  simp only [putsFrom, Act.put, Nat.reduceAdd, List.setIfInBounds_toArray, List.set_cons_zero, List.set_cons_succ, List.take_succ_cons, List.take_zero] at hK ⊢
                  clear hF
                  obtain ⟨x0, x1, x2, x3, x4, x5, x6⟩ := (boxed_at hS.bx).seven
                  simp only [Nat.zero_add] at x0 x1 x2 x3 x4 x5 x6
                  go_simp
                  exact hK.out _ _ (Alters.refl _) ⟨(.nd ⟨z0, none, 0⟩ []), rfl, by rfl, hS.mx⟩
                · intro u W K hS hF hK
                  simp only [putsFrom, Act.put, Nat.reduceAdd, List.setIfInBounds_toArray, List.set_cons_zero, List.set_cons_succ, List.take_succ_cons, List.take_zero] at hK ⊢
                  clear hF
                  obtain ⟨x0, x1, x2, x3, x4, x5, x6⟩ := (boxed_at hS.bz).seven
                  simp only [Nat.zero_add] at x0 x1 x2 x3 x4 x5 x6
                  go_simp
                  exact hK.out _ _ (Alters.refl _) ⟨(.nd ⟨z0, none, 0⟩ []), rfl, by rfl, hS.my⟩
                · intro u W K hS hF hK
                  have f3 : u 3 = .agg #[.int .i64 n.top.n.op, .string n.top.n.nm, .int .i64 n.top.n.cmp, .int .i64 n.top.n.val, .int .i64 n.top.n.lo, .int .i64 n.top.n.hi, .slice n.top.a 0 n.top.cap] := hF 3 (by kernel_rfl)
                  have f4 : MadeIn (fun j => (D j ∧ j ≠ w.heap.size + 1) ∧ some gm ≠ some j) (leaf 0) (u 4) W := hF 4 (by kernel_rfl)
                  have f5 : MadeIn (fun j => (D j ∧ j ≠ w.heap.size + 1) ∧ some gm ≠ some j) (leaf 0) (u 5) W := hF 5 (by kernel_rfl)
                  simp only [putsFrom, Act.put, Nat.reduceAdd, List.setIfInBounds_toArray, List.set_cons_zero, List.set_cons_succ, List.take_succ_cons, List.take_zero, f3] at hK ⊢
                  clear hF
                  go_simp
                  refine ((show Calls Tryd.prog 75 #[.agg #[.int .i64 n.top.n.op, .string n.top.n.nm, .int .i64 n.top.n.cmp, .int .i64 n.top.n.val, .int .i64 n.top.n.lo, .int .i64 n.top.n.hi, .slice n.top.a 0 n.top.cap], u 4, u 5] W (Gives (fun j => (D j ∧ j ≠ w.heap.size + 1) ∧ some gm ≠ some j) (become2 n.top.n (leaf 0) (leaf 0)) W) from by rw [HV7.out]; exact become_v n (fun k hk => ⟨⟨HD.out k (by have := hS.at'.quiet.size; omega), by have := hS.at'.big; omega⟩, fun e => by have := (hS.at'.made.1.lt k e).2; omega⟩) f4 f5 HF4.out.1 HF5.out.1 HF5.out.2 h1 h12)).mono ?_
                  rintro e W2 ⟨v, rfl, hm, hq⟩
                  exact hK.out _ _ hq hm
                · intro u W K hS hF hK
                  have f6 : MadeIn (fun j => (D j ∧ j ≠ w.heap.size + 1) ∧ some gm ≠ some j) (become2 n.top.n (leaf 0) (leaf 0)) (u 6) W := hF 6 (by kernel_rfl)
                  obtain ⟨t9, e9, hp9, hi9⟩ := f6
                  simp only [putsFrom, Act.put, Nat.reduceAdd, List.setIfInBounds_toArray, List.set_cons_zero, List.set_cons_succ, List.take_succ_cons, List.take_zero, e9] at hK ⊢
                  clear hF e9
                  unfold Ft.val at hK ⊢
                  go_simp
                  exact hK.out _ _ ((Alters.refl _).alloc _) ⟨_, t9, rfl, Blk.new _ _ _, hp9, hi9.quiet ((Alters.refl _).alloc _)⟩
              · intro u W hS hF
                have f2 : u 2 = .slice (some ⟨gm, 0, none⟩) M.length c := hF 2 (by decide)
                obtain ⟨b9, t9, e9, hb9, hp9, hi9⟩ : ∃ b t, u 7 = .slice (some ⟨b, 0, none⟩) 1 1 ∧ Blk W b (Ft.cells t).toArray 28 ∧ Ft.pl t = become2 n.top.n (leaf 0) (leaf 0) ∧ In (fun j => (D j ∧ j ≠ w.heap.size + 1) ∧ some gm ≠ some j) W t := hF 7 (by decide)
                simp only [putsFrom, Act.put, Nat.reduceAdd, List.setIfInBounds_toArray, List.set_cons_zero, List.set_cons_succ, List.take_succ_cons, List.take_zero, f2, e9, List.drop_succ_cons, List.drop_zero]
                clear hF f2 e9
                have HS := Go.Lib.hid hS
                have HB9 := Go.Lib.hid hb9
                have HP9 := Go.Lib.hid hp9
                have HI9 := Go.Lib.hid hi9
                have hrd : Reads W (some ⟨b9, 0, none⟩) 7 1 (Ft.cells t9) := ⟨rfl, fun _ => ⟨_, rfl, World.news_of_block hb9⟩⟩
                have HRD := Go.Lib.hid hrd
                have hml : M.length ≤ 20000 := by have := HMK.out; omega
                clear hS hb9 hp9 hi9 hrd
                obtain ⟨i0, hi0, hz0, hz1, hz2⟩ := info_parts info28
                refine wpList_append_reads _ rfl (.tmp 51) (.tmp 56) 26 rfl (w.heap.size + 2) 28 i0 _ 7 80 Tryd.underlying26 hi0 hz0 hz1 hz2 rfl (by decide) (.slice (some ⟨gm, 0, none⟩) M.length c) M.length (M.flatMap Ft.cells) rfl HS.out.at'.made.1 (some ⟨b9, 0, none⟩) 1 1 (Ft.cells t9) rfl HRD.out (cells_one t9) (by unfold maxLen; omega) (by omega) HS.out.at'.big ?_
                intro v9 w9 hown9 hgrow9 hat9
                obtain ⟨g9, c9, rfl⟩ := ownsRow_succ hown9
                have hnew := HS.out.at'.step HI9.out hown9 hgrow9 hat9
                have HNEW := Go.Lib.hid hnew
                clear hnew hown9 hgrow9 hat9 HRD
                go_wp2
                go_roundw
                case rel => exact ⟨k + 1, M ++ [t9], by omega, by go_num, HRUN2.out _ HP9.out, HFOLD2.out _ HP9.out, by have := HMK2.out; simp at this ⊢ <;> omega, HON2.out _ HP9.out, by simpa using HNEW.out⟩
                case measure => simp [intOf]; omega
          · simp only [List.length_nil]
            have hcn : #[.int .i64 n.top.n.op, .string n.top.n.nm, .int .i64 n.top.n.cmp, .int .i64 n.top.n.val, .int .i64 n.top.n.lo, .int .i64 n.top.n.hi, .slice n.top.a 0 n.top.cap] = (Ft.cells n).toArray := by simp [Ft.cells, hk0]
            have hq6 : Quiet wr (((wr.alloc (.cells #[.int .i64 n.top.n.op, .string n.top.n.nm, .int .i64 n.top.n.cmp, .int .i64 n.top.n.val, .int .i64 n.top.n.lo, .int .i64 n.top.n.hi, .slice n.top.a 0 n.top.cap] 28)).alloc (.cells #[.int .i64 0, .string ⟨#[]⟩, .int .i64 0, .int .i64 0, .int .i64 0, .int .i64 0, .slice none 0 0] 28)).alloc (.cells #[.int .i64 0, .string ⟨#[]⟩, .int .i64 0, .int .i64 0, .int .i64 0, .int .i64 0, .slice none 0 0] 28)) := (((Alters.refl _).alloc _).alloc _).alloc _
            have hs15 : At15 D w (.slice (some ⟨gu, 0, none⟩) nN cu) N n (.nd ⟨z0, none, 0⟩ []) (.nd ⟨z0, none, 0⟩ []) wr.heap.size ((none : Option Nat)) (.slice none 0 0) ([] : List Ft) (((wr.alloc (.cells #[.int .i64 n.top.n.op, .string n.top.n.nm, .int .i64 n.top.n.cmp, .int .i64 n.top.n.val, .int .i64 n.top.n.lo, .int .i64 n.top.n.hi, .slice n.top.a 0 n.top.cap] 28)).alloc (.cells #[.int .i64 0, .string ⟨#[]⟩, .int .i64 0, .int .i64 0, .int .i64 0, .int .i64 0, .slice none 0 0] 28)).alloc (.cells #[.int .i64 0, .string ⟨#[]⟩, .int .i64 0, .int .i64 0, .int .i64 0, .int .i64 0, .slice none 0 0] 28)) :=
              ⟨by rw [← hcn]; exact ((Blk.new _ _ _).alloc _).alloc _, (alloc2 _ _ _ _).alloc _, alloc3 _ _ _ _ _, hA.quiet' hq6, In.leaf _ _ _, In.leaf _ _ _⟩
            have hr2 := hrun.2.1
            have hr3 := hrun.2.2
            rw [stack0 n _ hk0] at hr3 hfold
            have hF5 : OnStack (4 * (Ft.pl t).size) (leaf 0) → Has4 (leaf 0) ∧ (leaf 0).size ≤ 100000 := fun _ => ⟨Has4.leaf (by decide), by rw [leaf_size]; omega⟩
            have HF4 : Hid (Has4 (leaf 0) ∧ (leaf 0).size ≤ 100000) := ⟨Has4.leaf (by decide), by rw [leaf_size]; omega⟩
            have HF5 : Hid (Has4 (leaf 0) ∧ (leaf 0).size ≤ 100000) := HF4
            have HRUN2 : Hid (∀ t9, Ft.pl t9 = become2 n.top.n (leaf 0) (leaf 0) → Tr.runOk (OnStack (4 * (Ft.pl t).size)) become ((([] : List Ft) ++ [t9]).map Ft.pl) ((N.drop (k + 1)).map Ft.pl)) := fun t9 h9 => by rw [List.map_append, List.map_singleton, h9]; exact hr3
            have HFOLD2 : Hid (∀ t9, Ft.pl t9 = become2 n.top.n (leaf 0) (leaf 0) → ((N.drop (k + 1)).map Ft.pl).foldl (Tr.stack become) ((([] : List Ft) ++ [t9]).map Ft.pl) = [made (Ft.pl t)]) := fun t9 h9 => by rw [List.map_append, List.map_singleton, h9]; exact hfold
            have HON2 : Hid (∀ t9, Ft.pl t9 = become2 n.top.n (leaf 0) (leaf 0) → ∀ m, m ∈ (([] : List Ft) ++ [t9]).map Ft.pl → OnStack (4 * (Ft.pl t).size) m) := fun t9 h9 m hm => by
              rw [List.map_append, List.mem_append] at hm
              rcases hm with hm | hm
              · exact hon m hm
              · obtain rfl : m = Ft.pl t9 := by simpa using hm
                rw [h9]
                have h7 := hr2
                rw [pl_kids, pl_op, show (n.kids.map Ft.pl).length = 0 by rw [List.length_map]; exact hk0, Nat.sub_zero, List.drop_length] at h7
                exact h7
            have HMK : Hid (([] : List Ft).length ≤ 10000) := Nat.le_trans hMk (by have h8 := HNT.out; omega)
            have HMK2 : Hid (([] : List Ft).length ≤ k) := hMk
            have hmlv : ([] : List Ft).length ≤ 10000 := HMK.out
            
            have HS15 := Go.Lib.hid hs15
            have HK0 := Go.Lib.hid hk0
            clear hA hrun hr2 hr3 hfold hon hk2 hcn hq6 hs15 hMk hF5
            go_upto_region 14 with (fail)
            go_wp2_with (refine wpList_clear _ rfl (.tmp 48) rfl _ 0 _ rfl _ (run_clear0 _ _ _ _) ?_)
            have hv7 : .agg #[.int .i64 n.top.n.op, .string n.top.n.nm, .int .i64 n.top.n.cmp, .int .i64 n.top.n.val, .int .i64 n.top.n.lo, .int .i64 n.top.n.hi, .slice n.top.a 0 n.top.cap] = Ft.val n := by unfold Ft.val; rw [HK0.out]
            have HV7 := Go.Lib.hid hv7
            clear hv7
            clear d0 d1 d2 d3 d4 d5 d6 hk0
            generalize ((wr.alloc _).alloc _).alloc _ = w6 at *
            refine wp_region_tail 8 (by kernel_rfl) (by kernel_rfl) (by kernel_rfl) (by kernel_rfl) (by kernel_rfl) (At15 D w (.slice (some ⟨gu, 0, none⟩) nN cu) N n (.nd ⟨z0, none, 0⟩ []) (.nd ⟨z0, none, 0⟩ []) wr.heap.size ((none : Option Nat)) (.slice none 0 0) ([] : List Ft)) (fun _ _ hq h => h.keep _ _ hq) [Want.is (.slice none 0 0), Want.is (.int .i64 (0)), Want.is (.slice none 0 0), Want.is (.agg #[.int .i64 n.top.n.op, .string n.top.n.nm, .int .i64 n.top.n.cmp, .int .i64 n.top.n.val, .int .i64 n.top.n.lo, .int .i64 n.top.n.hi, .slice n.top.a 0 n.top.cap]), Want.fmD (fun j => (D j ∧ j ≠ w.heap.size + 1) ∧ (none : Option Nat) ≠ some j) (leaf 0), Want.fmD (fun j => (D j ∧ j ≠ w.heap.size + 1) ∧ (none : Option Nat) ≠ some j) (leaf 0), Want.fmD (fun j => (D j ∧ j ≠ w.heap.size + 1) ∧ (none : Option Nat) ≠ some j) (become2 n.top.n (leaf 0) (leaf 0)), Want.lay (fun j => (D j ∧ j ≠ w.heap.size + 1) ∧ (none : Option Nat) ≠ some j) (become2 n.top.n (leaf 0) (leaf 0))] (HS15.out.keep _ _ ((Alters.refl _).drew)) (by simp) ?_ ?_
            · refine Steps.cons ?_ (Steps.cons ?_ (Steps.cons ?_ (Steps.cons ?_ (Steps.cons ?_ (Steps.cons ?_ (Steps.cons ?_ (Steps.last ?_)))))))
              · intro u W K hS hF hK
                simp only [putsFrom, Act.put, Nat.reduceAdd, List.setIfInBounds_toArray, List.set_cons_zero, List.set_cons_succ, List.take_succ_cons, List.take_zero] at hK ⊢
                clear hF
                go_simp
                exact hK.out _ _ (Alters.refl _) rfl
              · intro u W K hS hF hK
                simp only [putsFrom, Act.put, Nat.reduceAdd, List.setIfInBounds_toArray, List.set_cons_zero, List.set_cons_succ, List.take_succ_cons, List.take_zero] at hK ⊢
                clear hF
                go_simp
                exact hK.out _ _ (Alters.refl _) rfl
              · intro u W K hS hF hK
                have f0 : u 0 = .slice none 0 0 := hF 0 (by kernel_rfl)
                have f1 : u 1 = .int .i64 (0) := hF 1 (by kernel_rfl)
                simp only [putsFrom, Act.put, Nat.reduceAdd, List.setIfInBounds_toArray, List.set_cons_zero, List.set_cons_succ, List.take_succ_cons, List.take_zero, f0, f1] at hK ⊢
                clear hF
                go_simp
                exact hK.out _ _ (Alters.refl _) rfl
              · intro u W K hS hF hK
                simp only [putsFrom, Act.put, Nat.reduceAdd, List.setIfInBounds_toArray, List.set_cons_zero, List.set_cons_succ, List.take_succ_cons, List.take_zero] at hK ⊢
                clear hF
                obtain ⟨x0, x1, x2, x3, x4, x5, x6⟩ := (boxed_at hS.bn).seven
                simp only [Nat.zero_add] at x0 x1 x2 x3 x4 x5 x6
                rw [HK0.out] at x6
                go_simp
                exact hK.out _ _ (Alters.refl _) rfl
              · intro u W K hS hF hK
                simp only [putsFrom, Act.put, Nat.reduceAdd, List.setIfInBounds_toArray, List.set_cons_zero, List.set_cons_succ, List.take_succ_cons, List.take_zero] at hK ⊢
                clear hF
                obtain ⟨x0, x1, x2, x3, x4, x5, x6⟩ := (boxed_at hS.bx).seven
                simp only [Nat.zero_add] at x0 x1 x2 x3 x4 x5 x6
                go_simp
                exact hK.out _ _ (Alters.refl _) ⟨(.nd ⟨z0, none, 0⟩ []), rfl, by rfl, hS.mx⟩
              · intro u W K hS hF hK
                simp only [putsFrom, Act.put, Nat.reduceAdd, List.setIfInBounds_toArray, List.set_cons_zero, List.set_cons_succ, List.take_succ_cons, List.take_zero] at hK ⊢
                clear hF
                obtain ⟨x0, x1, x2, x3, x4, x5, x6⟩ := (boxed_at hS.bz).seven
                simp only [Nat.zero_add] at x0 x1 x2 x3 x4 x5 x6
                go_simp
                exact hK.out _ _ (Alters.refl _) ⟨(.nd ⟨z0, none, 0⟩ []), rfl, by rfl, hS.my⟩
              · intro u W K hS hF hK
                have f3 : u 3 = .agg #[.int .i64 n.top.n.op, .string n.top.n.nm, .int .i64 n.top.n.cmp, .int .i64 n.top.n.val, .int .i64 n.top.n.lo, .int .i64 n.top.n.hi, .slice n.top.a 0 n.top.cap] := hF 3 (by kernel_rfl)
                have f4 : MadeIn (fun j => (D j ∧ j ≠ w.heap.size + 1) ∧ (none : Option Nat) ≠ some j) (leaf 0) (u 4) W := hF 4 (by kernel_rfl)
                have f5 : MadeIn (fun j => (D j ∧ j ≠ w.heap.size + 1) ∧ (none : Option Nat) ≠ some j) (leaf 0) (u 5) W := hF 5 (by kernel_rfl)
                simp only [putsFrom, Act.put, Nat.reduceAdd, List.setIfInBounds_toArray, List.set_cons_zero, List.set_cons_succ, List.take_succ_cons, List.take_zero, f3] at hK ⊢
                clear hF
                go_simp
                refine ((show Calls Tryd.prog 75 #[.agg #[.int .i64 n.top.n.op, .string n.top.n.nm, .int .i64 n.top.n.cmp, .int .i64 n.top.n.val, .int .i64 n.top.n.lo, .int .i64 n.top.n.hi, .slice n.top.a 0 n.top.cap], u 4, u 5] W (Gives (fun j => (D j ∧ j ≠ w.heap.size + 1) ∧ (none : Option Nat) ≠ some j) (become2 n.top.n (leaf 0) (leaf 0)) W) from by rw [HV7.out]; exact become_v n (fun k hk => ⟨⟨HD.out k (by have := hS.at'.quiet.size; omega), by have := hS.at'.big; omega⟩, fun e => by have := (hS.at'.made.1.lt k e).2; omega⟩) f4 f5 HF4.out.1 HF5.out.1 HF5.out.2 h1 h12)).mono ?_
                rintro e W2 ⟨v, rfl, hm, hq⟩
                exact hK.out _ _ hq hm
              · intro u W K hS hF hK
                have f6 : MadeIn (fun j => (D j ∧ j ≠ w.heap.size + 1) ∧ (none : Option Nat) ≠ some j) (become2 n.top.n (leaf 0) (leaf 0)) (u 6) W := hF 6 (by kernel_rfl)
                obtain ⟨t9, e9, hp9, hi9⟩ := f6
                simp only [putsFrom, Act.put, Nat.reduceAdd, List.setIfInBounds_toArray, List.set_cons_zero, List.set_cons_succ, List.take_succ_cons, List.take_zero, e9] at hK ⊢
                clear hF e9
                unfold Ft.val at hK ⊢
                go_simp
                exact hK.out _ _ ((Alters.refl _).alloc _) ⟨_, t9, rfl, Blk.new _ _ _, hp9, hi9.quiet ((Alters.refl _).alloc _)⟩
            · intro u W hS hF
              have f2 : u 2 = .slice none 0 0 := hF 2 (by decide)
              obtain ⟨b9, t9, e9, hb9, hp9, hi9⟩ : ∃ b t, u 7 = .slice (some ⟨b, 0, none⟩) 1 1 ∧ Blk W b (Ft.cells t).toArray 28 ∧ Ft.pl t = become2 n.top.n (leaf 0) (leaf 0) ∧ In (fun j => (D j ∧ j ≠ w.heap.size + 1) ∧ (none : Option Nat) ≠ some j) W t := hF 7 (by decide)
              simp only [putsFrom, Act.put, Nat.reduceAdd, List.setIfInBounds_toArray, List.set_cons_zero, List.set_cons_succ, List.take_succ_cons, List.take_zero, f2, e9, List.drop_succ_cons, List.drop_zero]
              clear hF f2 e9
              have HS := Go.Lib.hid hS
              have HB9 := Go.Lib.hid hb9
              have HP9 := Go.Lib.hid hp9
              have HI9 := Go.Lib.hid hi9
              have hrd : Reads W (some ⟨b9, 0, none⟩) 7 1 (Ft.cells t9) := ⟨rfl, fun _ => ⟨_, rfl, World.news_of_block hb9⟩⟩
              have HRD := Go.Lib.hid hrd
              have hml : ([] : List Ft).length ≤ 20000 := by have := HMK.out; omega
              clear hS hb9 hp9 hi9 hrd
              obtain ⟨i0, hi0, hz0, hz1, hz2⟩ := info_parts info28
              refine wpList_append_reads _ rfl (.tmp 51) (.tmp 56) 26 rfl (w.heap.size + 2) 28 i0 _ 7 80 Tryd.underlying26 hi0 hz0 hz1 hz2 rfl (by decide) (.slice none 0 0) ([] : List Ft).length (([] : List Ft).flatMap Ft.cells) rfl HS.out.at'.made.1 (some ⟨b9, 0, none⟩) 1 1 (Ft.cells t9) rfl HRD.out (cells_one t9) (by unfold maxLen; omega) (by omega) HS.out.at'.big ?_
              intro v9 w9 hown9 hgrow9 hat9
              obtain ⟨g9, c9, rfl⟩ := ownsRow_succ hown9
              have hnew := HS.out.at'.step HI9.out hown9 hgrow9 hat9
              have HNEW := Go.Lib.hid hnew
              clear hnew hown9 hgrow9 hat9 HRD
              go_wp2
              go_roundw
              case rel => exact ⟨k + 1, ([] : List Ft) ++ [t9], by omega, by go_num, HRUN2.out _ HP9.out, HFOLD2.out _ HP9.out, by have := HMK2.out; simp at this ⊢ <;> omega, HON2.out _ HP9.out, by simpa using HNEW.out⟩
              case measure => simp [intOf]; omega
        · rw [hk0] at d6
          have hne : M ≠ [] := fun e => by subst e; have h7 := hrun.1; rw [pl_kids, List.length_map, hk0] at h7; simp at h7
          obtain ⟨L0, X, rfl⟩ : ∃ L0 X, M = L0 ++ [X] := by
            rcases List.eq_nil_or_concat M with e | ⟨L0, X, e⟩
            · exact absurd e hne
            · exact ⟨L0, X, by rw [e, List.concat_eq_append]⟩
          have h7 := hA.made.1
          have hL7 : (L0 ++ [X]).length = L0.length + 1 := by simp
          rw [hL7] at h7
          obtain ⟨gm, c, hmv⟩ := ownsRow_succ (k := L0.length) h7
          skip
          subst hmv
          obtain ⟨csm, hbm, -, hcp, -, -, hrm⟩ := own_block h7
          have hgm := (h7.lt gm rfl).2
          have aX : AtP wr gm (L0.length * 7) X := fun j u hu => hbm.cell _ (hrm L0.length X (by simp) j u hu)
          have hcn : #[.int .i64 n.top.n.op, .string n.top.n.nm, .int .i64 n.top.n.cmp, .int .i64 n.top.n.val, .int .i64 n.top.n.lo, .int .i64 n.top.n.hi, .slice n.top.a 1 n.top.cap] = (Ft.cells n).toArray := by simp [Ft.cells, hk0]
          have hq6 : Quiet wr (((wr.alloc (.cells #[.int .i64 n.top.n.op, .string n.top.n.nm, .int .i64 n.top.n.cmp, .int .i64 n.top.n.val, .int .i64 n.top.n.lo, .int .i64 n.top.n.hi, .slice n.top.a 1 n.top.cap] 28)).alloc (.cells #[.int .i64 0, .string ⟨#[]⟩, .int .i64 0, .int .i64 0, .int .i64 0, .int .i64 0, .slice none 0 0] 28)).alloc (.cells #[.int .i64 0, .string ⟨#[]⟩, .int .i64 0, .int .i64 0, .int .i64 0, .int .i64 0, .slice none 0 0] 28)) := (((Alters.refl _).alloc _).alloc _).alloc _
          obtain ⟨p0, p1, p2, p3, p4, p5, p6⟩ := (aX.keep hq6 (by simp)).seven
          have bN : Blk (((wr.alloc (.cells #[.int .i64 n.top.n.op, .string n.top.n.nm, .int .i64 n.top.n.cmp, .int .i64 n.top.n.val, .int .i64 n.top.n.lo, .int .i64 n.top.n.hi, .slice n.top.a 1 n.top.cap] 28)).alloc (.cells #[.int .i64 0, .string ⟨#[]⟩, .int .i64 0, .int .i64 0, .int .i64 0, .int .i64 0, .slice none 0 0] 28)).alloc (.cells #[.int .i64 0, .string ⟨#[]⟩, .int .i64 0, .int .i64 0, .int .i64 0, .int .i64 0, .slice none 0 0] 28)) wr.heap.size (Ft.cells n).toArray 28 := by rw [← hcn]; exact ((Blk.new _ _ _).alloc _).alloc _
          have bX : Blk (((wr.alloc (.cells #[.int .i64 n.top.n.op, .string n.top.n.nm, .int .i64 n.top.n.cmp, .int .i64 n.top.n.val, .int .i64 n.top.n.lo, .int .i64 n.top.n.hi, .slice n.top.a 1 n.top.cap] 28)).alloc (.cells #[.int .i64 0, .string ⟨#[]⟩, .int .i64 0, .int .i64 0, .int .i64 0, .int .i64 0, .slice none 0 0] 28)).alloc (.cells #[.int .i64 0, .string ⟨#[]⟩, .int .i64 0, .int .i64 0, .int .i64 0, .int .i64 0, .slice none 0 0] 28)) (wr.heap.size + 1) #[.int .i64 0, .string ⟨#[]⟩, .int .i64 0, .int .i64 0, .int .i64 0, .int .i64 0, .slice none 0 0] 28 := (alloc2 _ _ _ _).alloc _
          have bY : Blk (((wr.alloc (.cells #[.int .i64 n.top.n.op, .string n.top.n.nm, .int .i64 n.top.n.cmp, .int .i64 n.top.n.val, .int .i64 n.top.n.lo, .int .i64 n.top.n.hi, .slice n.top.a 1 n.top.cap] 28)).alloc (.cells #[.int .i64 0, .string ⟨#[]⟩, .int .i64 0, .int .i64 0, .int .i64 0, .int .i64 0, .slice none 0 0] 28)).alloc (.cells #[.int .i64 0, .string ⟨#[]⟩, .int .i64 0, .int .i64 0, .int .i64 0, .int .i64 0, .slice none 0 0] 28)) (wr.heap.size + 1 + 1) #[.int .i64 0, .string ⟨#[]⟩, .int .i64 0, .int .i64 0, .int .i64 0, .int .i64 0, .slice none 0 0] 28 := alloc3 _ _ _ _ _
          have fX := fun i => bX.free i
          have fY := fun i => bY.free i
          obtain ⟨z0_, z1, z2, z3, z4, z5, z6⟩ := seven_cells bX
          obtain ⟨y0_, y1, y2, y3, y4, y5, y6⟩ := seven_cells bY
          rw [stack1 n X L0 hk0] at hfold
          have hr2 := hrun.2.1
          have hr3 := hrun.2.2
          rw [stack1 n X L0 hk0] at hr3
          have hpush : OnStack (4 * (Ft.pl t).size) (become2 n.top.n (Ft.pl X) (leaf 0)) := by
            have h8 := hr2
            rw [pl_kids, pl_op, show (n.kids.map Ft.pl).length = 1 by rw [List.length_map]; exact hk0, List.map_append] at h8
            have e8 : (L0.map Ft.pl ++ ([X]).map Ft.pl).length - 1 = (L0.map Ft.pl).length := by simp
            rw [e8, List.drop_left] at h8
            exact h8
          have honX := hon (Ft.pl X) (by simp)
          have HF4 : Hid (Has4 (Ft.pl X) ∧ (Ft.pl X).size ≤ 100000) := ⟨honX.1, by have := honX.2; have := HK.out; omega⟩
          have HF5 : Hid (Has4 (leaf 0) ∧ (leaf 0).size ≤ 100000) := ⟨Has4.leaf (by decide), by rw [leaf_size]; omega⟩
          have HRUN2 : Hid (∀ t9, Ft.pl t9 = become2 n.top.n (Ft.pl X) (leaf 0) → Tr.runOk (OnStack (4 * (Ft.pl t).size)) become ((L0 ++ [t9]).map Ft.pl) ((N.drop (k + 1)).map Ft.pl)) := fun t9 h9 => by rw [List.map_append, List.map_singleton, h9]; exact hr3
          have HFOLD2 : Hid (∀ t9, Ft.pl t9 = become2 n.top.n (Ft.pl X) (leaf 0) → ((N.drop (k + 1)).map Ft.pl).foldl (Tr.stack become) ((L0 ++ [t9]).map Ft.pl) = [made (Ft.pl t)]) := fun t9 h9 => by rw [List.map_append, List.map_singleton, h9]; exact hfold
          have HON2 : Hid (∀ t9, Ft.pl t9 = become2 n.top.n (Ft.pl X) (leaf 0) → ∀ m, m ∈ (L0 ++ [t9]).map Ft.pl → OnStack (4 * (Ft.pl t).size) m) := fun t9 h9 m hm => by
            rw [List.map_append, List.mem_append] at hm
            rcases hm with hm | hm
            · exact hon m (by rw [List.map_append]; exact List.mem_append_left _ hm)
            · obtain rfl : m = Ft.pl t9 := by simpa using hm
              rw [h9]
              exact hpush
          have hMk0 : L0.length ≤ k := by rw [hL7] at hMk; omega
          have HMK : Hid (L0.length ≤ 10000) := Nat.le_trans hMk0 (by have h8 := HNT.out; omega)
          have HMK2 : Hid (L0.length ≤ k) := hMk0
          have hmlv : L0.length ≤ 10000 := HMK.out
          have hcM : ¬ c = L0.length := by omega
          have HA := Go.Lib.hid hA
          have HK0 := Go.Lib.hid hk0
          have HQ6 := Go.Lib.hid hq6
          have HBN := Go.Lib.hid bN
          have HBX := Go.Lib.hid bX
          have HBY := Go.Lib.hid bY
          clear hA hrun hr2 hr3 hfold hon hk2 hcn hq6 hMk hk0 h7 hbm hrm bN bX bY hpush honX aX hL7 hne
          go_upto_region 14 with (fail)
          have hcn : #[.int .i64 n.top.n.op, .string n.top.n.nm, .int .i64 n.top.n.cmp, .int .i64 n.top.n.val, .int .i64 n.top.n.lo, .int .i64 n.top.n.hi, .slice n.top.a 1 n.top.cap] = (Ft.cells n).toArray := by simp [Ft.cells, HK0.out]
          have hq5 : Quiet wr (((wr.alloc (.cells #[.int .i64 n.top.n.op, .string n.top.n.nm, .int .i64 n.top.n.cmp, .int .i64 n.top.n.val, .int .i64 n.top.n.lo, .int .i64 n.top.n.hi, .slice n.top.a 1 n.top.cap] 28)).alloc (.cells #[.int .i64 X.top.n.op, .string X.top.n.nm, .int .i64 X.top.n.cmp, .int .i64 X.top.n.val, .int .i64 X.top.n.lo, .int .i64 X.top.n.hi, .slice X.top.a X.kids.length X.top.cap] 28)).alloc (.cells #[.int .i64 0, .string ⟨#[]⟩, .int .i64 0, .int .i64 0, .int .i64 0, .int .i64 0, .slice none 0 0] 28)) := ((((Alters.refl _).alloc _).alloc _).alloc _)
          have bN : Blk (((wr.alloc (.cells #[.int .i64 n.top.n.op, .string n.top.n.nm, .int .i64 n.top.n.cmp, .int .i64 n.top.n.val, .int .i64 n.top.n.lo, .int .i64 n.top.n.hi, .slice n.top.a 1 n.top.cap] 28)).alloc (.cells #[.int .i64 X.top.n.op, .string X.top.n.nm, .int .i64 X.top.n.cmp, .int .i64 X.top.n.val, .int .i64 X.top.n.lo, .int .i64 X.top.n.hi, .slice X.top.a X.kids.length X.top.cap] 28)).alloc (.cells #[.int .i64 0, .string ⟨#[]⟩, .int .i64 0, .int .i64 0, .int .i64 0, .int .i64 0, .slice none 0 0] 28)) wr.heap.size (Ft.cells n).toArray 28 := by rw [← hcn]; exact ((Blk.new _ _ _).alloc _).alloc _
          have bX : Blk (((wr.alloc (.cells #[.int .i64 n.top.n.op, .string n.top.n.nm, .int .i64 n.top.n.cmp, .int .i64 n.top.n.val, .int .i64 n.top.n.lo, .int .i64 n.top.n.hi, .slice n.top.a 1 n.top.cap] 28)).alloc (.cells #[.int .i64 X.top.n.op, .string X.top.n.nm, .int .i64 X.top.n.cmp, .int .i64 X.top.n.val, .int .i64 X.top.n.lo, .int .i64 X.top.n.hi, .slice X.top.a X.kids.length X.top.cap] 28)).alloc (.cells #[.int .i64 0, .string ⟨#[]⟩, .int .i64 0, .int .i64 0, .int .i64 0, .int .i64 0, .slice none 0 0] 28)) (wr.heap.size + 1) (Ft.cells X).toArray 28 := (alloc2 _ _ _ _).alloc _
          have bY : Blk (((wr.alloc (.cells #[.int .i64 n.top.n.op, .string n.top.n.nm, .int .i64 n.top.n.cmp, .int .i64 n.top.n.val, .int .i64 n.top.n.lo, .int .i64 n.top.n.hi, .slice n.top.a 1 n.top.cap] 28)).alloc (.cells #[.int .i64 X.top.n.op, .string X.top.n.nm, .int .i64 X.top.n.cmp, .int .i64 X.top.n.val, .int .i64 X.top.n.lo, .int .i64 X.top.n.hi, .slice X.top.a X.kids.length X.top.cap] 28)).alloc (.cells #[.int .i64 0, .string ⟨#[]⟩, .int .i64 0, .int .i64 0, .int .i64 0, .int .i64 0, .slice none 0 0] 28)) (wr.heap.size + 1 + 1) (Ft.cells (.nd ⟨z0, none, 0⟩ [])).toArray 28 := alloc3 _ _ _ _ _
          have hA5 := HA.out.quiet' hq5
          clear hcn hq5 p0 p1 p2 p3 p4 p5 p6 z0_ z1 z2 z3 z4 z5 z6 y0_ y1 y2 y3 y4 y5 y6 fX fY d0 d1 d2 d3 d4 d5 d6 HBN HBX HBY HQ6 HA
          generalize ((wr.alloc _).alloc _).alloc _ = w5 at *
          have h7 := hA5.made.1
          rw [show (L0 ++ [X]).length = L0.length + 1 by simp] at h7
          obtain ⟨w7, hrun7, hown7, hgrow7⟩ := run_clear_row (ty := 0) (c := c - L0.length) (A := some ⟨gm, L0.length * 7, none⟩) h7 (by omega) (fun _ => rfl)
          obtain ⟨hcut, hT⟩ := hA5.cut hown7 hgrow7
          have hA7 : Alters (fun k => k = gm) w5 w7 := (Alters.refl _).grown hgrow7 (fun k e _ => by cases e; rfl)
          have hs15 : At15 D w (.slice (some ⟨gu, 0, none⟩) nN cu) N n X (.nd ⟨z0, none, 0⟩ []) wr.heap.size (some gm) (.slice (some ⟨gm, 0, none⟩) L0.length c) L0 w7 :=
            ⟨hA7.blk bN (by omega), hA7.blk bX (by omega), hA7.blk bY (by omega), hcut, hT X (by simp), In.leaf _ _ _⟩
          have HS15 := Go.Lib.hid hs15
          have HR7 := Go.Lib.hid hrun7
          have hcp2 : L0.length ≤ c := by omega
          clear h7 hown7 hgrow7 hcut hT hA7 hs15 bN bX bY hA5 hrun7
          go_wp2_with (refine wpList_clear _ rfl (.tmp 48) rfl _ 1 _ rfl _ HR7.out ?_)
          clear HR7
          have hv7 : .agg #[.int .i64 n.top.n.op, .string n.top.n.nm, .int .i64 n.top.n.cmp, .int .i64 n.top.n.val, .int .i64 n.top.n.lo, .int .i64 n.top.n.hi, .slice n.top.a 1 n.top.cap] = Ft.val n := by unfold Ft.val; rw [HK0.out]
          have HV7 := Go.Lib.hid hv7
          clear hv7
          refine wp_region_tail 8 (by kernel_rfl) (by kernel_rfl) (by kernel_rfl) (by kernel_rfl) (by kernel_rfl) (At15 D w (.slice (some ⟨gu, 0, none⟩) nN cu) N n X (.nd ⟨z0, none, 0⟩ []) wr.heap.size (some gm) (.slice (some ⟨gm, 0, none⟩) L0.length c) L0) (fun _ _ hq h => h.keep _ _ hq) [Want.is (.slice (some ⟨gm, 0, none⟩) (L0.length + 1) c), Want.is (.int .i64 ((L0.length : Int))), Want.is (.slice (some ⟨gm, 0, none⟩) L0.length c), Want.is (.agg #[.int .i64 n.top.n.op, .string n.top.n.nm, .int .i64 n.top.n.cmp, .int .i64 n.top.n.val, .int .i64 n.top.n.lo, .int .i64 n.top.n.hi, .slice n.top.a 1 n.top.cap]), Want.fmD (fun j => (D j ∧ j ≠ w.heap.size + 1) ∧ some gm ≠ some j) (Ft.pl X), Want.fmD (fun j => (D j ∧ j ≠ w.heap.size + 1) ∧ some gm ≠ some j) (leaf 0), Want.fmD (fun j => (D j ∧ j ≠ w.heap.size + 1) ∧ some gm ≠ some j) (become2 n.top.n (Ft.pl X) (leaf 0)), Want.lay (fun j => (D j ∧ j ≠ w.heap.size + 1) ∧ some gm ≠ some j) (become2 n.top.n (Ft.pl X) (leaf 0))] (HS15.out.keep _ _ ((Alters.refl _).drew)) (by simp) ?_ ?_
          · refine Steps.cons ?_ (Steps.cons ?_ (Steps.cons ?_ (Steps.cons ?_ (Steps.cons ?_ (Steps.cons ?_ (Steps.cons ?_ (Steps.last ?_)))))))
            · intro u W K hS hF hK
              simp only [putsFrom, Act.put, Nat.reduceAdd, List.setIfInBounds_toArray, List.set_cons_zero, List.set_cons_succ, List.take_succ_cons, List.take_zero] at hK ⊢
              clear hF
              go_simp
              exact hK.out _ _ (Alters.refl _) rfl
            · intro u W K hS hF hK
              simp only [putsFrom, Act.put, Nat.reduceAdd, List.setIfInBounds_toArray, List.set_cons_zero, List.set_cons_succ, List.take_succ_cons, List.take_zero] at hK ⊢
              clear hF
              go_simp
              exact hK.out _ _ (Alters.refl _) rfl
            · intro u W K hS hF hK
              have f0 : u 0 = .slice (some ⟨gm, 0, none⟩) (L0.length + 1) c := hF 0 (by kernel_rfl)
              have f1 : u 1 = .int .i64 ((L0.length : Int)) := hF 1 (by kernel_rfl)
              simp only [putsFrom, Act.put, Nat.reduceAdd, List.setIfInBounds_toArray, List.set_cons_zero, List.set_cons_succ, List.take_succ_cons, List.take_zero, f0, f1] at hK ⊢
              clear hF
              go_simp
              exact hK.out _ _ (Alters.refl _) rfl
            · intro u W K hS hF hK
              simp only [putsFrom, Act.put, Nat.reduceAdd, List.setIfInBounds_toArray, List.set_cons_zero, List.set_cons_succ, List.take_succ_cons, List.take_zero] at hK ⊢
              clear hF
              obtain ⟨x0, x1, x2, x3, x4, x5, x6⟩ := (boxed_at hS.bn).seven
              simp only [Nat.zero_add] at x0 x1 x2 x3 x4 x5 x6
              rw [HK0.out] at x6
              go_simp
              exact hK.out _ _ (Alters.refl _) rfl
            · intro u W K hS hF hK
              simp only [putsFrom, Act.put, Nat.reduceAdd, List.setIfInBounds_toArray, List.set_cons_zero, List.set_cons_succ, List.take_succ_cons, List.take_zero] at hK ⊢
              clear hF
              obtain ⟨x0, x1, x2, x3, x4, x5, x6⟩ := (boxed_at hS.bx).seven
              simp only [Nat.zero_add] at x0 x1 x2 x3 x4 x5 x6
              go_simp
              exact hK.out _ _ (Alters.refl _) ⟨X, rfl, by rfl, hS.mx⟩
            · intro u W K hS hF hK
              simp only [putsFrom, Act.put, Nat.reduceAdd, List.setIfInBounds_toArray, List.set_cons_zero, List.set_cons_succ, List.take_succ_cons, List.take_zero] at hK ⊢
              clear hF
              obtain ⟨x0, x1, x2, x3, x4, x5, x6⟩ := (boxed_at hS.bz).seven
              simp only [Nat.zero_add] at x0 x1 x2 x3 x4 x5 x6
              go_simp
              exact hK.out _ _ (Alters.refl _) ⟨(.nd ⟨z0, none, 0⟩ []), rfl, by rfl, hS.my⟩
            · intro u W K hS hF hK
              have f3 : u 3 = .agg #[.int .i64 n.top.n.op, .string n.top.n.nm, .int .i64 n.top.n.cmp, .int .i64 n.top.n.val, .int .i64 n.top.n.lo, .int .i64 n.top.n.hi, .slice n.top.a 1 n.top.cap] := hF 3 (by kernel_rfl)
              have f4 : MadeIn (fun j => (D j ∧ j ≠ w.heap.size + 1) ∧ some gm ≠ some j) (Ft.pl X) (u 4) W := hF 4 (by kernel_rfl)
              have f5 : MadeIn (fun j => (D j ∧ j ≠ w.heap.size + 1) ∧ some gm ≠ some j) (leaf 0) (u 5) W := hF 5 (by kernel_rfl)
              simp only [putsFrom, Act.put, Nat.reduceAdd, List.setIfInBounds_toArray, List.set_cons_zero, List.set_cons_succ, List.take_succ_cons, List.take_zero, f3] at hK ⊢
              clear hF
              go_simp
              refine ((show Calls Tryd.prog 75 #[.agg #[.int .i64 n.top.n.op, .string n.top.n.nm, .int .i64 n.top.n.cmp, .int .i64 n.top.n.val, .int .i64 n.top.n.lo, .int .i64 n.top.n.hi, .slice n.top.a 1 n.top.cap], u 4, u 5] W (Gives (fun j => (D j ∧ j ≠ w.heap.size + 1) ∧ some gm ≠ some j) (become2 n.top.n (Ft.pl X) (leaf 0)) W) from by rw [HV7.out]; exact become_v n (fun k hk => ⟨⟨HD.out k (by have := hS.at'.quiet.size; omega), by have := hS.at'.big; omega⟩, fun e => by have := (hS.at'.made.1.lt k e).2; omega⟩) f4 f5 HF4.out.1 HF5.out.1 HF5.out.2 h1 h12)).mono ?_
              rintro e W2 ⟨v, rfl, hm, hq⟩
              exact hK.out _ _ hq hm
            · intro u W K hS hF hK
              have f6 : MadeIn (fun j => (D j ∧ j ≠ w.heap.size + 1) ∧ some gm ≠ some j) (become2 n.top.n (Ft.pl X) (leaf 0)) (u 6) W := hF 6 (by kernel_rfl)
              obtain ⟨t9, e9, hp9, hi9⟩ := f6
              simp only [putsFrom, Act.put, Nat.reduceAdd, List.setIfInBounds_toArray, List.set_cons_zero, List.set_cons_succ, List.take_succ_cons, List.take_zero, e9] at hK ⊢
              clear hF e9
              unfold Ft.val at hK ⊢
              go_simp
              exact hK.out _ _ ((Alters.refl _).alloc _) ⟨_, t9, rfl, Blk.new _ _ _, hp9, hi9.quiet ((Alters.refl _).alloc _)⟩
          · intro u W hS hF
            have f2 : u 2 = .slice (some ⟨gm, 0, none⟩) L0.length c := hF 2 (by decide)
            obtain ⟨b9, t9, e9, hb9, hp9, hi9⟩ : ∃ b t, u 7 = .slice (some ⟨b, 0, none⟩) 1 1 ∧ Blk W b (Ft.cells t).toArray 28 ∧ Ft.pl t = become2 n.top.n (Ft.pl X) (leaf 0) ∧ In (fun j => (D j ∧ j ≠ w.heap.size + 1) ∧ some gm ≠ some j) W t := hF 7 (by decide)
            simp only [putsFrom, Act.put, Nat.reduceAdd, List.setIfInBounds_toArray, List.set_cons_zero, List.set_cons_succ, List.take_succ_cons, List.take_zero, f2, e9, List.drop_succ_cons, List.drop_zero]
            clear hF f2 e9
            have HS := Go.Lib.hid hS
            have HB9 := Go.Lib.hid hb9
            have HP9 := Go.Lib.hid hp9
            have HI9 := Go.Lib.hid hi9
            have hrd : Reads W (some ⟨b9, 0, none⟩) 7 1 (Ft.cells t9) := ⟨rfl, fun _ => ⟨_, rfl, World.news_of_block hb9⟩⟩
            have HRD := Go.Lib.hid hrd
            have hml : L0.length ≤ 20000 := by have := HMK.out; omega
            clear hS hb9 hp9 hi9 hrd
            obtain ⟨i0, hi0, hz0, hz1, hz2⟩ := info_parts info28
            refine wpList_append_reads _ rfl (.tmp 51) (.tmp 56) 26 rfl (w.heap.size + 2) 28 i0 _ 7 80 Tryd.underlying26 hi0 hz0 hz1 hz2 rfl (by decide) (.slice (some ⟨gm, 0, none⟩) L0.length c) L0.length (L0.flatMap Ft.cells) rfl HS.out.at'.made.1 (some ⟨b9, 0, none⟩) 1 1 (Ft.cells t9) rfl HRD.out (cells_one t9) (by unfold maxLen; omega) (by omega) HS.out.at'.big ?_
            intro v9 w9 hown9 hgrow9 hat9
            obtain ⟨g9, c9, rfl⟩ := ownsRow_succ hown9
            have hnew := HS.out.at'.step HI9.out hown9 hgrow9 hat9
            have HNEW := Go.Lib.hid hnew
            clear hnew hown9 hgrow9 hat9 HRD
            go_wp2
            go_roundw
            case rel => exact ⟨k + 1, L0 ++ [t9], by omega, by go_num, HRUN2.out _ HP9.out, HFOLD2.out _ HP9.out, by have := HMK2.out; simp at this ⊢ <;> omega, HON2.out _ HP9.out, by simpa using HNEW.out⟩
            case measure => simp [intOf]; omega
        · rw [hk0] at d6
          obtain ⟨L0, Y, X, rfl⟩ : ∃ L0 Y X, M = L0 ++ [Y, X] := by
            have h7 := hrun.1
            rw [pl_kids, List.length_map, hk0, List.length_map] at h7
            rcases List.eq_nil_or_concat M with e | ⟨L1, X, e⟩
            · rw [e] at h7; simp at h7
            · rcases List.eq_nil_or_concat L1 with e2 | ⟨L0, Y, e2⟩
              · rw [e, e2] at h7; simp at h7
              · exact ⟨L0, Y, X, by rw [e, e2]; simp⟩
          have h7 := hA.made.1
          have hL7 : (L0 ++ [Y, X]).length = L0.length + 2 := by simp
          rw [hL7] at h7
          obtain ⟨gm, c, hmv⟩ := ownsRow_succ (k := L0.length + 1) h7
          rw [show L0.length + 1 + 1 = L0.length + 2 from rfl] at hmv
          subst hmv
          obtain ⟨csm, hbm, -, hcp, -, -, hrm⟩ := own_block h7
          have hgm := (h7.lt gm rfl).2
          have aX : AtP wr gm ((L0.length + 1) * 7) X := fun j u hu => hbm.cell _ (hrm (L0.length + 1) X (by simp) j u hu)
          have aY : AtP wr gm (L0.length * 7) Y := fun j u hu => hbm.cell _ (hrm L0.length Y (by simp) j u hu)
          have hcn : #[.int .i64 n.top.n.op, .string n.top.n.nm, .int .i64 n.top.n.cmp, .int .i64 n.top.n.val, .int .i64 n.top.n.lo, .int .i64 n.top.n.hi, .slice n.top.a 2 n.top.cap] = (Ft.cells n).toArray := by simp [Ft.cells, hk0]
          have hq6 : Quiet wr (((wr.alloc (.cells #[.int .i64 n.top.n.op, .string n.top.n.nm, .int .i64 n.top.n.cmp, .int .i64 n.top.n.val, .int .i64 n.top.n.lo, .int .i64 n.top.n.hi, .slice n.top.a 2 n.top.cap] 28)).alloc (.cells #[.int .i64 0, .string ⟨#[]⟩, .int .i64 0, .int .i64 0, .int .i64 0, .int .i64 0, .slice none 0 0] 28)).alloc (.cells #[.int .i64 0, .string ⟨#[]⟩, .int .i64 0, .int .i64 0, .int .i64 0, .int .i64 0, .slice none 0 0] 28)) := (((Alters.refl _).alloc _).alloc _).alloc _
          obtain ⟨p0, p1, p2, p3, p4, p5, p6⟩ := (aX.keep hq6 (by simp)).seven
          obtain ⟨q0, q1, q2, q3, q4, q5, q6⟩ := (aY.keep hq6 (by simp)).seven
          obtain ⟨s0, s1, s2, s3, s4, s5, s6⟩ := (aY.keep (p := fun _ => False) ((((Alters.refl wr).alloc (.cells #[.int .i64 n.top.n.op, .string n.top.n.nm, .int .i64 n.top.n.cmp, .int .i64 n.top.n.val, .int .i64 n.top.n.lo, .int .i64 n.top.n.hi, .slice n.top.a 2 n.top.cap] 28)).alloc (.cells #[.int .i64 X.top.n.op, .string X.top.n.nm, .int .i64 X.top.n.cmp, .int .i64 X.top.n.val, .int .i64 X.top.n.lo, .int .i64 X.top.n.hi, .slice X.top.a X.kids.length X.top.cap] 28)).alloc (.cells #[.int .i64 0, .string ⟨#[]⟩, .int .i64 0, .int .i64 0, .int .i64 0, .int .i64 0, .slice none 0 0] 28)) (by simp)).seven
          obtain ⟨v0, v1, v2, v3, v4, v5, v6⟩ := (aX.keep (p := fun _ => False) ((((Alters.refl wr).alloc (.cells #[.int .i64 n.top.n.op, .string n.top.n.nm, .int .i64 n.top.n.cmp, .int .i64 n.top.n.val, .int .i64 n.top.n.lo, .int .i64 n.top.n.hi, .slice n.top.a 2 n.top.cap] 28)).alloc (.cells #[.int .i64 0, .string ⟨#[]⟩, .int .i64 0, .int .i64 0, .int .i64 0, .int .i64 0, .slice none 0 0] 28)).alloc (.cells #[.int .i64 Y.top.n.op, .string Y.top.n.nm, .int .i64 Y.top.n.cmp, .int .i64 Y.top.n.val, .int .i64 Y.top.n.lo, .int .i64 Y.top.n.hi, .slice Y.top.a Y.kids.length Y.top.cap] 28)) (by simp)).seven
          have bN : Blk (((wr.alloc (.cells #[.int .i64 n.top.n.op, .string n.top.n.nm, .int .i64 n.top.n.cmp, .int .i64 n.top.n.val, .int .i64 n.top.n.lo, .int .i64 n.top.n.hi, .slice n.top.a 2 n.top.cap] 28)).alloc (.cells #[.int .i64 0, .string ⟨#[]⟩, .int .i64 0, .int .i64 0, .int .i64 0, .int .i64 0, .slice none 0 0] 28)).alloc (.cells #[.int .i64 0, .string ⟨#[]⟩, .int .i64 0, .int .i64 0, .int .i64 0, .int .i64 0, .slice none 0 0] 28)) wr.heap.size (Ft.cells n).toArray 28 := by rw [← hcn]; exact ((Blk.new _ _ _).alloc _).alloc _
          have bX : Blk (((wr.alloc (.cells #[.int .i64 n.top.n.op, .string n.top.n.nm, .int .i64 n.top.n.cmp, .int .i64 n.top.n.val, .int .i64 n.top.n.lo, .int .i64 n.top.n.hi, .slice n.top.a 2 n.top.cap] 28)).alloc (.cells #[.int .i64 0, .string ⟨#[]⟩, .int .i64 0, .int .i64 0, .int .i64 0, .int .i64 0, .slice none 0 0] 28)).alloc (.cells #[.int .i64 0, .string ⟨#[]⟩, .int .i64 0, .int .i64 0, .int .i64 0, .int .i64 0, .slice none 0 0] 28)) (wr.heap.size + 1) #[.int .i64 0, .string ⟨#[]⟩, .int .i64 0, .int .i64 0, .int .i64 0, .int .i64 0, .slice none 0 0] 28 := (alloc2 _ _ _ _).alloc _
          have bY : Blk (((wr.alloc (.cells #[.int .i64 n.top.n.op, .string n.top.n.nm, .int .i64 n.top.n.cmp, .int .i64 n.top.n.val, .int .i64 n.top.n.lo, .int .i64 n.top.n.hi, .slice n.top.a 2 n.top.cap] 28)).alloc (.cells #[.int .i64 0, .string ⟨#[]⟩, .int .i64 0, .int .i64 0, .int .i64 0, .int .i64 0, .slice none 0 0] 28)).alloc (.cells #[.int .i64 0, .string ⟨#[]⟩, .int .i64 0, .int .i64 0, .int .i64 0, .int .i64 0, .slice none 0 0] 28)) (wr.heap.size + 1 + 1) #[.int .i64 0, .string ⟨#[]⟩, .int .i64 0, .int .i64 0, .int .i64 0, .int .i64 0, .slice none 0 0] 28 := alloc3 _ _ _ _ _
          have fX := fun i => bX.free i
          have fY := fun i => bY.free i
          obtain ⟨z0_, z1, z2, z3, z4, z5, z6⟩ := seven_cells bX
          obtain ⟨y0_, y1, y2, y3, y4, y5, y6⟩ := seven_cells bY
          rw [stack2 n X Y L0 hk0] at hfold
          have hr2 := hrun.2.1
          have hr3 := hrun.2.2
          rw [stack2 n X Y L0 hk0] at hr3
          have hpush : OnStack (4 * (Ft.pl t).size) (become2 n.top.n (Ft.pl X) (Ft.pl Y)) := by
            have h8 := hr2
            rw [pl_kids, pl_op, show (n.kids.map Ft.pl).length = 2 by rw [List.length_map]; exact hk0, List.map_append] at h8
            have e8 : (L0.map Ft.pl ++ ([Y, X]).map Ft.pl).length - 2 = (L0.map Ft.pl).length := by simp
            rw [e8, List.drop_left] at h8
            exact h8
          have honX := hon (Ft.pl X) (by simp)
          have honY := hon (Ft.pl Y) (by simp)
          have HF4 : Hid (Has4 (Ft.pl X) ∧ (Ft.pl X).size ≤ 100000) := ⟨honX.1, by have := honX.2; have := HK.out; omega⟩
          have HF5 : Hid (Has4 (Ft.pl Y) ∧ (Ft.pl Y).size ≤ 100000) := ⟨honY.1, by have := honY.2; have := HK.out; omega⟩
          have HRUN2 : Hid (∀ t9, Ft.pl t9 = become2 n.top.n (Ft.pl X) (Ft.pl Y) → Tr.runOk (OnStack (4 * (Ft.pl t).size)) become ((L0 ++ [t9]).map Ft.pl) ((N.drop (k + 1)).map Ft.pl)) := fun t9 h9 => by rw [List.map_append, List.map_singleton, h9]; exact hr3
          have HFOLD2 : Hid (∀ t9, Ft.pl t9 = become2 n.top.n (Ft.pl X) (Ft.pl Y) → ((N.drop (k + 1)).map Ft.pl).foldl (Tr.stack become) ((L0 ++ [t9]).map Ft.pl) = [made (Ft.pl t)]) := fun t9 h9 => by rw [List.map_append, List.map_singleton, h9]; exact hfold
          have HON2 : Hid (∀ t9, Ft.pl t9 = become2 n.top.n (Ft.pl X) (Ft.pl Y) → ∀ m, m ∈ (L0 ++ [t9]).map Ft.pl → OnStack (4 * (Ft.pl t).size) m) := fun t9 h9 m hm => by
            rw [List.map_append, List.mem_append] at hm
            rcases hm with hm | hm
            · exact hon m (by rw [List.map_append]; exact List.mem_append_left _ hm)
            · obtain rfl : m = Ft.pl t9 := by simpa using hm
              rw [h9]
              exact hpush
          have hMk0 : L0.length ≤ k := by rw [hL7] at hMk; omega
          have HMK : Hid (L0.length ≤ 10000) := Nat.le_trans hMk0 (by have h8 := HNT.out; omega)
          have HMK2 : Hid (L0.length ≤ k) := hMk0
          have hmlv : L0.length ≤ 10000 := HMK.out
          have hcM : ¬ c = L0.length := by omega
          have HA := Go.Lib.hid hA
          have HK0 := Go.Lib.hid hk0
          have HQ6 := Go.Lib.hid hq6
          have HBN := Go.Lib.hid bN
          have HBX := Go.Lib.hid bX
          have HBY := Go.Lib.hid bY
          clear hA hrun hr2 hr3 hfold hon hk2 hcn hq6 hMk hk0 h7 hbm hrm bN bX bY hpush honX honY aX aY hL7
          go_upto_region 13 with (fail)
          go_region
          go_upto_region 14 with (fail)
          have hcn : #[.int .i64 n.top.n.op, .string n.top.n.nm, .int .i64 n.top.n.cmp, .int .i64 n.top.n.val, .int .i64 n.top.n.lo, .int .i64 n.top.n.hi, .slice n.top.a 2 n.top.cap] = (Ft.cells n).toArray := by simp [Ft.cells, HK0.out]
          have hq5 : Quiet wr (((wr.alloc (.cells #[.int .i64 n.top.n.op, .string n.top.n.nm, .int .i64 n.top.n.cmp, .int .i64 n.top.n.val, .int .i64 n.top.n.lo, .int .i64 n.top.n.hi, .slice n.top.a 2 n.top.cap] 28)).alloc (.cells #[.int .i64 X.top.n.op, .string X.top.n.nm, .int .i64 X.top.n.cmp, .int .i64 X.top.n.val, .int .i64 X.top.n.lo, .int .i64 X.top.n.hi, .slice X.top.a X.kids.length X.top.cap] 28)).alloc (.cells #[.int .i64 Y.top.n.op, .string Y.top.n.nm, .int .i64 Y.top.n.cmp, .int .i64 Y.top.n.val, .int .i64 Y.top.n.lo, .int .i64 Y.top.n.hi, .slice Y.top.a Y.kids.length Y.top.cap] 28)).drew := ((((Alters.refl _).alloc _).alloc _).alloc _).drew
          have bN : Blk (((wr.alloc (.cells #[.int .i64 n.top.n.op, .string n.top.n.nm, .int .i64 n.top.n.cmp, .int .i64 n.top.n.val, .int .i64 n.top.n.lo, .int .i64 n.top.n.hi, .slice n.top.a 2 n.top.cap] 28)).alloc (.cells #[.int .i64 X.top.n.op, .string X.top.n.nm, .int .i64 X.top.n.cmp, .int .i64 X.top.n.val, .int .i64 X.top.n.lo, .int .i64 X.top.n.hi, .slice X.top.a X.kids.length X.top.cap] 28)).alloc (.cells #[.int .i64 Y.top.n.op, .string Y.top.n.nm, .int .i64 Y.top.n.cmp, .int .i64 Y.top.n.val, .int .i64 Y.top.n.lo, .int .i64 Y.top.n.hi, .slice Y.top.a Y.kids.length Y.top.cap] 28)).drew wr.heap.size (Ft.cells n).toArray 28 := by rw [← hcn]; exact ((Blk.new _ _ _).alloc _).alloc _
          have bX : Blk (((wr.alloc (.cells #[.int .i64 n.top.n.op, .string n.top.n.nm, .int .i64 n.top.n.cmp, .int .i64 n.top.n.val, .int .i64 n.top.n.lo, .int .i64 n.top.n.hi, .slice n.top.a 2 n.top.cap] 28)).alloc (.cells #[.int .i64 X.top.n.op, .string X.top.n.nm, .int .i64 X.top.n.cmp, .int .i64 X.top.n.val, .int .i64 X.top.n.lo, .int .i64 X.top.n.hi, .slice X.top.a X.kids.length X.top.cap] 28)).alloc (.cells #[.int .i64 Y.top.n.op, .string Y.top.n.nm, .int .i64 Y.top.n.cmp, .int .i64 Y.top.n.val, .int .i64 Y.top.n.lo, .int .i64 Y.top.n.hi, .slice Y.top.a Y.kids.length Y.top.cap] 28)).drew (wr.heap.size + 1) (Ft.cells X).toArray 28 := (alloc2 _ _ _ _).alloc _
          have bY : Blk (((wr.alloc (.cells #[.int .i64 n.top.n.op, .string n.top.n.nm, .int .i64 n.top.n.cmp, .int .i64 n.top.n.val, .int .i64 n.top.n.lo, .int .i64 n.top.n.hi, .slice n.top.a 2 n.top.cap] 28)).alloc (.cells #[.int .i64 X.top.n.op, .string X.top.n.nm, .int .i64 X.top.n.cmp, .int .i64 X.top.n.val, .int .i64 X.top.n.lo, .int .i64 X.top.n.hi, .slice X.top.a X.kids.length X.top.cap] 28)).alloc (.cells #[.int .i64 Y.top.n.op, .string Y.top.n.nm, .int .i64 Y.top.n.cmp, .int .i64 Y.top.n.val, .int .i64 Y.top.n.lo, .int .i64 Y.top.n.hi, .slice Y.top.a Y.kids.length Y.top.cap] 28)).drew (wr.heap.size + 1 + 1) (Ft.cells Y).toArray 28 := alloc3 _ _ _ _ _
          have hA5 := HA.out.quiet' hq5
          clear hcn hq5 p0 p1 p2 p3 p4 p5 p6 z0_ z1 z2 z3 z4 z5 z6 y0_ y1 y2 y3 y4 y5 y6 fX fY q0 q1 q2 q3 q4 q5 q6 s0 s1 s2 s3 s4 s5 s6 v0 v1 v2 v3 v4 v5 v6 d0 d1 d2 d3 d4 d5 d6 HBN HBX HBY HQ6 HA
          generalize ((wr.alloc _).alloc _).alloc _ = w5 at *
          have h7 := hA5.made.1
          rw [show (L0 ++ [Y, X]).length = L0.length + 2 by simp] at h7
          obtain ⟨w7, hrun7, hown7, hgrow7⟩ := run_clear_row (ty := 0) (c := c - L0.length) (A := some ⟨gm, L0.length * 7, none⟩) h7 (by omega) (fun _ => rfl)
          obtain ⟨hcut, hT⟩ := hA5.cut hown7 hgrow7
          have hA7 : Alters (fun k => k = gm) w5.drew w7 := (Alters.refl _).grown hgrow7 (fun k e _ => by cases e; rfl)
          have hs15 : At15 D w (.slice (some ⟨gu, 0, none⟩) nN cu) N n X Y wr.heap.size (some gm) (.slice (some ⟨gm, 0, none⟩) L0.length c) L0 w7 :=
            ⟨hA7.blk bN (by omega), hA7.blk bX (by omega), hA7.blk bY (by omega), hcut, hT X (by simp), hT Y (by simp)⟩
          have HS15 := Go.Lib.hid hs15
          have HR7 := Go.Lib.hid hrun7
          have hcp2 : L0.length ≤ c := by omega
          clear h7 hown7 hgrow7 hcut hT hA7 hs15 bN bX bY hA5 hrun7
          go_wp2_with (refine wpList_clear _ rfl (.tmp 48) rfl _ 2 _ rfl _ HR7.out ?_)
          clear HR7
          have hv7 : .agg #[.int .i64 n.top.n.op, .string n.top.n.nm, .int .i64 n.top.n.cmp, .int .i64 n.top.n.val, .int .i64 n.top.n.lo, .int .i64 n.top.n.hi, .slice n.top.a 2 n.top.cap] = Ft.val n := by unfold Ft.val; rw [HK0.out]
          have HV7 := Go.Lib.hid hv7
          clear hv7
          refine wp_region_tail 8 (by kernel_rfl) (by kernel_rfl) (by kernel_rfl) (by kernel_rfl) (by kernel_rfl) (At15 D w (.slice (some ⟨gu, 0, none⟩) nN cu) N n X Y wr.heap.size (some gm) (.slice (some ⟨gm, 0, none⟩) L0.length c) L0) (fun _ _ hq h => h.keep _ _ hq) [Want.is (.slice (some ⟨gm, 0, none⟩) (L0.length + 2) c), Want.is (.int .i64 ((L0.length : Int))), Want.is (.slice (some ⟨gm, 0, none⟩) L0.length c), Want.is (.agg #[.int .i64 n.top.n.op, .string n.top.n.nm, .int .i64 n.top.n.cmp, .int .i64 n.top.n.val, .int .i64 n.top.n.lo, .int .i64 n.top.n.hi, .slice n.top.a 2 n.top.cap]), Want.fmD (fun j => (D j ∧ j ≠ w.heap.size + 1) ∧ some gm ≠ some j) (Ft.pl X), Want.fmD (fun j => (D j ∧ j ≠ w.heap.size + 1) ∧ some gm ≠ some j) (Ft.pl Y), Want.fmD (fun j => (D j ∧ j ≠ w.heap.size + 1) ∧ some gm ≠ some j) (become2 n.top.n (Ft.pl X) (Ft.pl Y)), Want.lay (fun j => (D j ∧ j ≠ w.heap.size + 1) ∧ some gm ≠ some j) (become2 n.top.n (Ft.pl X) (Ft.pl Y))] (HS15.out.keep _ _ ((Alters.refl _).drew)) (by simp) ?_ ?_
          · refine Steps.cons ?_ (Steps.cons ?_ (Steps.cons ?_ (Steps.cons ?_ (Steps.cons ?_ (Steps.cons ?_ (Steps.cons ?_ (Steps.last ?_)))))))
            · intro u W K hS hF hK
              simp only [putsFrom, Act.put, Nat.reduceAdd, List.setIfInBounds_toArray, List.set_cons_zero, List.set_cons_succ, List.take_succ_cons, List.take_zero] at hK ⊢
              clear hF
              go_simp
              exact hK.out _ _ (Alters.refl _) rfl
            · intro u W K hS hF hK
              simp only [putsFrom, Act.put, Nat.reduceAdd, List.setIfInBounds_toArray, List.set_cons_zero, List.set_cons_succ, List.take_succ_cons, List.take_zero] at hK ⊢
              clear hF
              go_simp
              exact hK.out _ _ (Alters.refl _) rfl
            · intro u W K hS hF hK
              have f0 : u 0 = .slice (some ⟨gm, 0, none⟩) (L0.length + 2) c := hF 0 (by kernel_rfl)
              have f1 : u 1 = .int .i64 ((L0.length : Int)) := hF 1 (by kernel_rfl)
              simp only [putsFrom, Act.put, Nat.reduceAdd, List.setIfInBounds_toArray, List.set_cons_zero, List.set_cons_succ, List.take_succ_cons, List.take_zero, f0, f1] at hK ⊢
              clear hF
              go_simp
              exact hK.out _ _ (Alters.refl _) rfl
            · intro u W K hS hF hK
              simp only [putsFrom, Act.put, Nat.reduceAdd, List.setIfInBounds_toArray, List.set_cons_zero, List.set_cons_succ, List.take_succ_cons, List.take_zero] at hK ⊢
              clear hF
              obtain ⟨x0, x1, x2, x3, x4, x5, x6⟩ := (boxed_at hS.bn).seven
              simp only [Nat.zero_add] at x0 x1 x2 x3 x4 x5 x6
              rw [HK0.out] at x6
              go_simp
              exact hK.out _ _ (Alters.refl _) rfl
            · intro u W K hS hF hK
              simp only [putsFrom, Act.put, Nat.reduceAdd, List.setIfInBounds_toArray, List.set_cons_zero, List.set_cons_succ, List.take_succ_cons, List.take_zero] at hK ⊢
              clear hF
              obtain ⟨x0, x1, x2, x3, x4, x5, x6⟩ := (boxed_at hS.bx).seven
              simp only [Nat.zero_add] at x0 x1 x2 x3 x4 x5 x6
              go_simp
              exact hK.out _ _ (Alters.refl _) ⟨X, rfl, by rfl, hS.mx⟩
            · intro u W K hS hF hK
              simp only [putsFrom, Act.put, Nat.reduceAdd, List.setIfInBounds_toArray, List.set_cons_zero, List.set_cons_succ, List.take_succ_cons, List.take_zero] at hK ⊢
              clear hF
              obtain ⟨x0, x1, x2, x3, x4, x5, x6⟩ := (boxed_at hS.bz).seven
              simp only [Nat.zero_add] at x0 x1 x2 x3 x4 x5 x6
              go_simp
              exact hK.out _ _ (Alters.refl _) ⟨Y, rfl, by rfl, hS.my⟩
            · intro u W K hS hF hK
              have f3 : u 3 = .agg #[.int .i64 n.top.n.op, .string n.top.n.nm, .int .i64 n.top.n.cmp, .int .i64 n.top.n.val, .int .i64 n.top.n.lo, .int .i64 n.top.n.hi, .slice n.top.a 2 n.top.cap] := hF 3 (by kernel_rfl)
              have f4 : MadeIn (fun j => (D j ∧ j ≠ w.heap.size + 1) ∧ some gm ≠ some j) (Ft.pl X) (u 4) W := hF 4 (by kernel_rfl)
              have f5 : MadeIn (fun j => (D j ∧ j ≠ w.heap.size + 1) ∧ some gm ≠ some j) (Ft.pl Y) (u 5) W := hF 5 (by kernel_rfl)
              simp only [putsFrom, Act.put, Nat.reduceAdd, List.setIfInBounds_toArray, List.set_cons_zero, List.set_cons_succ, List.take_succ_cons, List.take_zero, f3] at hK ⊢
              clear hF
              go_simp
              refine ((show Calls Tryd.prog 75 #[.agg #[.int .i64 n.top.n.op, .string n.top.n.nm, .int .i64 n.top.n.cmp, .int .i64 n.top.n.val, .int .i64 n.top.n.lo, .int .i64 n.top.n.hi, .slice n.top.a 2 n.top.cap], u 4, u 5] W (Gives (fun j => (D j ∧ j ≠ w.heap.size + 1) ∧ some gm ≠ some j) (become2 n.top.n (Ft.pl X) (Ft.pl Y)) W) from by rw [HV7.out]; exact become_v n (fun k hk => ⟨⟨HD.out k (by have := hS.at'.quiet.size; omega), by have := hS.at'.big; omega⟩, fun e => by have := (hS.at'.made.1.lt k e).2; omega⟩) f4 f5 HF4.out.1 HF5.out.1 HF5.out.2 h1 h12)).mono ?_
              rintro e W2 ⟨v, rfl, hm, hq⟩
              exact hK.out _ _ hq hm
            · intro u W K hS hF hK
              have f6 : MadeIn (fun j => (D j ∧ j ≠ w.heap.size + 1) ∧ some gm ≠ some j) (become2 n.top.n (Ft.pl X) (Ft.pl Y)) (u 6) W := hF 6 (by kernel_rfl)
              obtain ⟨t9, e9, hp9, hi9⟩ := f6
              simp only [putsFrom, Act.put, Nat.reduceAdd, List.setIfInBounds_toArray, List.set_cons_zero, List.set_cons_succ, List.take_succ_cons, List.take_zero, e9] at hK ⊢
              clear hF e9
              unfold Ft.val at hK ⊢
              go_simp
              exact hK.out _ _ ((Alters.refl _).alloc _) ⟨_, t9, rfl, Blk.new _ _ _, hp9, hi9.quiet ((Alters.refl _).alloc _)⟩
          · intro u W hS hF
            have f2 : u 2 = .slice (some ⟨gm, 0, none⟩) L0.length c := hF 2 (by decide)
            obtain ⟨b9, t9, e9, hb9, hp9, hi9⟩ : ∃ b t, u 7 = .slice (some ⟨b, 0, none⟩) 1 1 ∧ Blk W b (Ft.cells t).toArray 28 ∧ Ft.pl t = become2 n.top.n (Ft.pl X) (Ft.pl Y) ∧ In (fun j => (D j ∧ j ≠ w.heap.size + 1) ∧ some gm ≠ some j) W t := hF 7 (by decide)
            simp only [putsFrom, Act.put, Nat.reduceAdd, List.setIfInBounds_toArray, List.set_cons_zero, List.set_cons_succ, List.take_succ_cons, List.take_zero, f2, e9, List.drop_succ_cons, List.drop_zero]
            clear hF f2 e9
            have HS := Go.Lib.hid hS
            have HB9 := Go.Lib.hid hb9
            have HP9 := Go.Lib.hid hp9
            have HI9 := Go.Lib.hid hi9
            have hrd : Reads W (some ⟨b9, 0, none⟩) 7 1 (Ft.cells t9) := ⟨rfl, fun _ => ⟨_, rfl, World.news_of_block hb9⟩⟩
            have HRD := Go.Lib.hid hrd
            have hml : L0.length ≤ 20000 := by have := HMK.out; omega
            clear hS hb9 hp9 hi9 hrd
            obtain ⟨i0, hi0, hz0, hz1, hz2⟩ := info_parts info28
            refine wpList_append_reads _ rfl (.tmp 51) (.tmp 56) 26 rfl (w.heap.size + 2) 28 i0 _ 7 80 Tryd.underlying26 hi0 hz0 hz1 hz2 rfl (by decide) (.slice (some ⟨gm, 0, none⟩) L0.length c) L0.length (L0.flatMap Ft.cells) rfl HS.out.at'.made.1 (some ⟨b9, 0, none⟩) 1 1 (Ft.cells t9) rfl HRD.out (cells_one t9) (by unfold maxLen; omega) (by omega) HS.out.at'.big ?_
            intro v9 w9 hown9 hgrow9 hat9
            obtain ⟨g9, c9, rfl⟩ := ownsRow_succ hown9
            have hnew := HS.out.at'.step HI9.out hown9 hgrow9 hat9
            have HNEW := Go.Lib.hid hnew
            clear hnew hown9 hgrow9 hat9 HRD
            go_wp2
            go_roundw
            case rel => exact ⟨k + 1, L0 ++ [t9], by omega, by go_num, HRUN2.out _ HP9.out, HFOLD2.out _ HP9.out, by have := HMK2.out; simp at this ⊢ <;> omega, HON2.out _ HP9.out, by simpa using HNEW.out⟩
            case measure => simp [intOf]; omega
      · obtain rfl : k = nN := by omega
        have hM : M.map Ft.pl = [made (Ft.pl t)] := by
          rw [List.drop_eq_nil_of_le (by rw [HNL.out]; exact Nat.le_refl _)] at hfold
          simpa using hfold
        obtain ⟨t9, rfl, hp9⟩ : ∃ t9, M = [t9] ∧ Ft.pl t9 = made (Ft.pl t) := by
          rcases M with _ | ⟨t9, _ | ⟨t8, M⟩⟩
          · simp at hM
          · exact ⟨t9, rfl, by simpa using hM⟩
          · simp at hM
        have h7 := hA.made.1
        obtain ⟨gm, c, hmv⟩ := ownsRow_succ (k := 0) h7
        subst hmv
        obtain ⟨csm, hbm, hgm, -, -, -, hrm⟩ := own_block h7
        obtain ⟨d0, d1, d2, d3, d4, d5, d6⟩ := (show AtP wr gm 0 t9 from fun j u hu => by
          have := hrm 0 t9 rfl j u hu
          rw [Nat.zero_mul] at this
          exact hbm.cell _ this).seven
        rw [Nat.zero_add] at d1 d2 d3 d4 d5 d6
        have hi9 := hA.made.2 t9 (by simp)
        obtain ⟨r0, r1, r2, r3, r4, r5, r6⟩ := seven_cells hA.res
        have fr := fun i => hA.res.free i
        have HA := Go.Lib.hid hA
        have HI9 := Go.Lib.hid hi9
        have HP9 := Go.Lib.hid hp9
        clear hA hi9 hp9 h7 hbm hrm hM hrun hfold hon
        go_wp2
        have hb7 := blk7 HA.out.res (.int .i64 t9.top.n.op) (.string t9.top.n.nm) (.int .i64 t9.top.n.cmp) (.int .i64 t9.top.n.val) (.int .i64 t9.top.n.lo) (.int .i64 t9.top.n.hi) (.slice t9.top.a t9.kids.length t9.top.cap)
        have hs7 := set7 wr (w.heap.size + 1) (.int .i64 t9.top.n.op) (.string t9.top.n.nm) (.int .i64 t9.top.n.cmp) (.int .i64 t9.top.n.val) (.int .i64 t9.top.n.lo) (.int .i64 t9.top.n.hi) (.slice t9.top.a t9.kids.length t9.top.cap)
        have hq7 : Quiet w _ := HA.out.quiet.then hs7 (fun i hi e => by omega)
        clear r0 r1 r2 r3 r4 r5 r6
        obtain ⟨r0, r1, r2, r3, r4, r5, r6⟩ := seven_cells hb7
        exact bodyPost_ret (v := Ft.val t9) (by simp [results, Tryd.results27, go_sem, Ft.val, r0, r1, r2, r3, r4, r5, r6]) rfl ⟨_, rfl, ⟨t9, rfl, HP9.out.trans HN.out.symm, (HI9.out.keep hs7 (fun k hk _ e => hk.1.2 e)).mono (fun k _ hk => hk.1.1)⟩, hq7⟩
end Go.Proofs.YtnpcakakjhiboaaDoor
