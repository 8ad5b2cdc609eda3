/- A formula's row on a word, by the machine with a stack; rows of rows in memory. No condition. Two rows are the same (39), as the model tells it. No condition. The builtin clear on the end of a row of rows. No condition. -/
import Derived.Test.YtnpcakakjhiboaaDoorWord
import Derived.Deep.OwnRows
import Derived.Test.YtnpcakakjhiboaaDoorUpward
import Derived.Laws.CopyRow
namespace Go.Proofs.YtnpcakakjhiboaaDoor
open Go.RowKit Go.Lo Go.WideShapes

/-- What a node's row is, by its kids'. -/
def rowB (w : List Pt) (n : Nd) (ks : List (List Bool)) : List Bool := (List.range w.length).map (tvN w n (rowT (ks.headD [])) (rowT (ks.tail.headD [])))

def rowsC (w : List Pt) : Fm → List Bool := Tr.cata (rowB w)

theorem rowsC_nd (w : List Pt) (n : Nd) (ks : List Fm) : rowsC w (.nd n ks) = rowB w n (ks.map (rowsC w)) := by
  show Tr.cata _ _ = _
  rw [Tr.cata, Tr.cataL_eq]
  rfl

theorem rowT_map (f : Nat → Bool) (n j : Nat) (h : j < n) : rowT ((List.range n).map f) j = f j := by simp [rowT, List.getD, h]

theorem rowsC_eq (w : List Pt) (f : Fm) : rowsC w f = (List.range w.length).map (tv w f) := by
  induction f using Tr.ind with
  | h x ks ih =>
    rw [rowsC_nd, tv_nd]
    unfold rowB
    refine List.map_congr_left fun i hi => ?_
    have hi' : i < w.length := by simpa using hi
    refine tvN_congr x hi' (fun j hj => ?_) (fun j hj => ?_)
    · rcases ks with _ | ⟨a, r⟩
      · simp [rowT, noT]
      · simp only [List.map_cons, List.headD_cons]
        rw [ih a (by simp), rowT_map _ _ _ hj]
    · rcases ks with _ | ⟨a, _ | ⟨b, r⟩⟩
      · simp [rowT, noT]
      · simp [rowT, noT]
      · simp only [List.map_cons, List.tail_cons, List.headD_cons]
        rw [ih b (by simp), rowT_map _ _ _ hj]

theorem rowsC_run (w : List Pt) (f : Fm) : Tr.runOk (fun l => l.length = w.length) (rowB w) [] f.pre.reverse ∧ f.pre.reverse.foldl (Tr.stack (rowB w)) [] = [rowsC w f] := by
  refine ⟨Tr.run_ok (rowB w) f (fun s _ => ?_) [], by rw [Tr.stack_run]; rfl⟩
  show (rowsC w s).length = _
  rw [rowsC_eq]
  simp

theorem rowF_sound {f : Fm} {w : List Pt} (h : first f = 0) (hw : wordOk w = true) : rowF f w = rowsC w f := by
  unfold rowF
  rw [if_pos ⟨h, hw⟩, rowsC_eq]

theorem made_bool (n : Nat) : madeCells #[.bool false] n = ((List.replicate n false).map Value.bool).toArray := by
  refine Array.ext (by simp [size_madeCells]) fun i h1 h2 => ?_
  simp [madeCells, Nat.mod_one]

/-- A row that is filled up to the i-th place. -/
def fills (f : Nat → Bool) (i n : Nat) : List Bool := (List.range i).map f ++ List.replicate (n - i) false

theorem fills_zero (f : Nat → Bool) (n : Nat) : fills f 0 n = List.replicate n false := by simp [fills]
theorem fills_all (f : Nat → Bool) (n : Nat) : fills f n n = (List.range n).map f := by simp [fills]
theorem fills_len (f : Nat → Bool) {i n : Nat} (h : i ≤ n) : (fills f i n).length = n := by simp [fills]; omega

theorem fills_step (f : Nat → Bool) {i n : Nat} (h : i < n) : ((fills f i n).map Value.bool).toArray.setIfInBounds i (.bool (f i)) = ((fills f (i + 1) n).map Value.bool).toArray := by
  obtain ⟨d, rfl⟩ : ∃ d, n = i + 1 + d := ⟨n - (i + 1), by omega⟩
  simp only [fills, List.setIfInBounds_toArray]
  congr 1
  rw [show i + 1 + d - i = d + 1 by omega, show i + 1 + d - (i + 1) = d by omega, List.replicate_succ, List.range_succ]
  simp only [List.map_append, List.map_cons, List.map_nil, List.append_assoc, List.cons_append, List.nil_append]
  rw [List.set_append_right _ _ (by simp)]
  simp

theorem pl_eta2 (n : Ft) : Ft.pl n = .nd n.top.n (n.kids.map Ft.pl) := by
  obtain ⟨⟨m, a, c⟩, ks⟩ := n
  exact pl_nd m a c ks

/-- A row of Booleans as it lies in memory. -/
structure Re where
  a : Option Addr
  c : Nat
  l : List Bool

def Re.cell (r : Re) : Value := .slice r.a r.l.length r.c

/-- It lies in a block of its own. -/
def Re.Ok (W : World) (r : Re) : Prop := r.l ≠ [] → ∃ b, r.a = some ⟨b, 0, none⟩ ∧ Blk W b (r.l.map Value.bool).toArray 4

theorem Re.Ok.bl {W : World} {r : Re} (h : r.Ok W) : BlAt W r.a r.l := fun hn => by
  obtain ⟨b, e, hb⟩ := h hn
  refine ⟨b, 0, e, fun i x hi => ?_⟩
  rw [Nat.zero_add]
  exact hb.cell i (by simp [hi])

theorem Re.Ok.keep {p : Nat → Prop} {W W' : World} {r : Re} (h : r.Ok W) (hA : Alters p W W') (hp : ∀ k xs, p k → ¬ Blk W k xs 4) : r.Ok W' := fun hn => by
  obtain ⟨b, e, hb⟩ := h hn
  exact ⟨b, e, hA.blk hb (fun hk => hp b _ hk hb)⟩

theorem Re.Ok.quiet {W W' : World} {r : Re} (h : r.Ok W) (hA : Quiet W W') : r.Ok W' := h.keep hA (by simp)

/-- Where truth.Row's loop stands: the nodes, the rows. -/
structure RowAt (w : World) (n : Nat) (uv : Value) (N : List Ft) (mv : Value) (M : List Re) (W : World) : Prop where
  rows : W.ownsRow (w.heap.size + 1) 28 7 uv N.length (N.flatMap Ft.cells)
  made : W.ownsRow (w.heap.size + 1) 47 1 mv M.length (M.map Re.cell)
  ok : ∀ r, r ∈ M → r.Ok W ∧ r.l.length = n
  quiet : Quiet w W

theorem own_type {W : World} {base size n : Nat} {e : TypeId} {v : Value} {xs : List Value} {g : Nat} (h : W.ownsRow base e size v n xs) (hg : v.ownBlock = some g) : ∃ cur, W.heap[g]? = some (.cells cur e (0, 0)) := by
  rcases h.2 with ⟨rfl, _⟩ | ⟨g', c, cur, rfl, _, hb, _⟩
  · cases hg
  · obtain rfl : g' = g := by simpa [Value.ownBlock] using hg
    exact ⟨cur, hb⟩

theorem RowAt.quiet' {w : World} {n : Nat} {uv mv : Value} {N : List Ft} {M : List Re} {W W' : World} (h : RowAt w n uv N mv M W) (hq : Quiet W W') : RowAt w n uv N mv M W' :=
  ⟨row_keep h.rows hq (by simp), row_keep h.made hq (by simp), fun r hr => ⟨(h.ok r hr).1.quiet hq, (h.ok r hr).2⟩, h.quiet.trans hq⟩

/-- What touches the rows' own block alone leaves all else. -/
theorem RowAt.other {w : World} {n : Nat} {uv mv mv2 : Value} {N : List Ft} {M M2 : List Re} {W W' : World} (h : RowAt w n uv N mv M W) (hA : Alters (fun k => mv.ownBlock = some k) W W') (hm : W'.ownsRow (w.heap.size + 1) 47 1 mv2 M2.length (M2.map Re.cell)) (hok : ∀ r, r ∈ M2 → r.Ok W ∧ r.l.length = n) : RowAt w n uv N mv2 M2 W' := by
  have ht : ∀ g, mv.ownBlock = some g → ∃ cur, W.heap[g]? = some (.cells cur 47 (0, 0)) := fun g hg => own_type h.made hg
  refine ⟨row_keep h.rows hA (fun k hk hk2 => ?_), hm, fun r hr => ⟨(hok r hr).1.keep hA (fun k xs hk hb => ?_), (hok r hr).2⟩, h.quiet.then hA (fun i hi hk => ?_)⟩
  · obtain ⟨c1, e1⟩ := own_type h.rows hk
    obtain ⟨c2, e2⟩ := ht k hk2
    rw [e1] at e2
    simp at e2
  · obtain ⟨c2, e2⟩ := ht k hk
    unfold Blk at hb
    rw [hb] at e2
    simp at e2
  · have := (h.made.lt i hk).1
    omega

end Go.Proofs.YtnpcakakjhiboaaDoor

namespace Go.Proofs.YtnpcakakjhiboaaDoor
open Go Go.RowKit Go.Lo Go.WideShapes

theorem same_split {l m : List Bool} {k : Nat} {x y : Bool} (h : l.length = m.length) (hx : l[k]? = some x) (hy : m[k]? = some y) : decide (l.drop k = m.drop k) = ((x == y) && decide (l.drop (k + 1) = m.drop (k + 1))) := by
  have h1 : k < l.length := by
    rcases Nat.lt_or_ge k l.length with h | h
    · exact h
    · rw [List.getElem?_eq_none h] at hx; cases hx
  have h2 : k < m.length := by omega
  rw [List.getElem?_eq_getElem h1] at hx
  rw [List.getElem?_eq_getElem h2] at hy
  rw [List.drop_eq_getElem_cons h1, List.drop_eq_getElem_cons h2]
  simp only [Option.some.injEq] at hx hy
  rw [hx, hy]
  simp only [List.cons.injEq, Bool.decide_and]
  congr 1

set_option maxRecDepth 100000 in
set_option maxHeartbeats 2000000 in
theorem same39_walk (a1 : Option Addr) (c1 : Nat) (l1 : List Bool) (a2 : Option Addr) (c2 : Nat) (l2 : List Bool) (w : World) (h1 : BlAt w a1 l1) (h2 : BlAt w a2 l2) (hl : l1.length ≤ 10000) : Calls Tryd.prog 39 #[.slice a1 l1.length c1, .slice a2 l2.length c2] w (Said (.bool (decide (l1 = l2))) w) := by
  have H1 := Go.Lib.hid h1
  have H2 := Go.Lib.hid h2
  clear h1 h2
  go_enter Tryd.func39, Tryd.ntmps39
  by_cases he : l1.length = l2.length
  rotate_left
  · have hb : ((l1.length : Int) == (l2.length : Int)) = false := by simp; omega
    have hb2 : (l1.length == l2.length) = false := by simpa using he
    have hv : decide (l1 = l2) = false := by simpa using fun e : l1 = l2 => he (by rw [e])
    rw [hv]
    clear hv he
    go_wp2
    go_ret
    exact ⟨rfl, Alters.refl _⟩
  · have HE := Go.Lib.hid he
    rw [← he]
    clear he
    go_wp2
    go_loopw [5] (fun i wr => ∃ k : Nat, k ≤ l1.length ∧ i = .int .i64 k ∧ decide (l1.drop k = l2.drop k) = decide (l1 = l2) ∧ Quiet w wr) (fun i _ => l1.length - (intOf i).toNat)
    case atStart => exact ⟨0, Nat.zero_le _, rfl, rfl, Alters.refl _⟩
    case round =>
      obtain ⟨k, hk, rfl, hD, hQ⟩ := hrel
      have HQ := Go.Lib.hid hQ
      by_cases hlt : k < l1.length
      · have n1 : l1 ≠ [] := fun h => by subst h; simp at hlt
        have n2 : l2 ≠ [] := fun h => by have := HE.out; rw [h] at this; simp at this; rw [this] at hlt; simp at hlt
        obtain ⟨b1, o1, rfl, hc1⟩ := H1.out n1
        obtain ⟨b2, o2, rfl, hc2⟩ := H2.out n2
        obtain ⟨x, hx⟩ : ∃ x, l1[k]? = some x := ⟨_, List.getElem?_eq_getElem hlt⟩
        obtain ⟨y, hy⟩ : ∃ y, l2[k]? = some y := ⟨_, List.getElem?_eq_getElem (by have := HE.out; omega)⟩
        have d1 := hQ.cell (hc1 k x hx) (by simp)
        have d2 := hQ.cell (hc2 k y hy) (by simp)
        have HD := Go.Lib.hid ((same_split HE.out hx hy).symm.trans hD)
        clear hD hQ hc1 hc2 hx hy n1 n2
        cases hxy : (x == y)
        · rw [hxy] at HD
          have hnx : (x != y) = true := by rw [bne, hxy]; rfl
          go_upto_region 6 with (fail)
          go_quiet (fail)
          go_wp2_with fail
          go_ret
          exact ⟨by rw [← HD.out]; rfl, HQ.out.drewN _⟩
        · rw [hxy] at HD
          have hnx : (x != y) = false := by rw [bne, hxy]; rfl
          go_upto_region 6 with (fail)
          go_quiet (fail)
          go_wp2_with fail
          go_roundw
          case rel => exact ⟨k + 1, by omega, by go_num, by rw [← HD.out]; simp, HQ.out.drewN _⟩
          case measure => simp [intOf]; omega
      · obtain rfl : k = l1.length := by omega
        have HD : Hid (decide (l1 = l2) = true) := Go.Lib.hid (by rw [← hD, List.drop_length, HE.out, List.drop_length]; rfl)
        clear hD hQ
        go_wp2_with fail
        go_ret
        exact ⟨by rw [HD.out]; rfl, HQ.out⟩
end Go.Proofs.YtnpcakakjhiboaaDoor

namespace Go.Proofs.YtnpcakakjhiboaaDoor
open Go Go.RowKit Go.Lo Go.WideShapes

theorem info47 : (Tryd.prog.info? 47).map (fun i => (i.zero, i.size, i.bytes)) = some (some (.slice none 0 0), 1, 24) := by kernel_rfl

theorem run_clear0B (A : Option Addr) (c : Nat) (ty : TypeId) (w : World) : (Builtin.clear_ #[96] ty #[.slice A 0 c]).run Tryd.prog w = .ok (.tuple #[]) w := by
  cases A <;> simp [Builtin.clear_, run_underlying Tryd.underlying96]

theorem run_zero47 (w : World) : (zeroValue 47).run Tryd.prog w = .ok (.slice none 0 0) w := by
  obtain ⟨i, hi, hz, -, -⟩ := info_parts info47
  simp [zeroValue, typeInfo, hi, hz]

/-- What clear leaves of a row: its first l. -/
theorem run_clear_rowB {w : World} {base g l m cap c : Nat} {A : Option Addr} {xs : List Value} {ty : TypeId} (h : w.ownsRow base 47 1 (.slice (some ⟨g, 0, none⟩) (l + m) cap) (l + m) xs) (hm : m ≤ 2) (hA : m ≠ 0 → A = some ⟨g, l, none⟩) :
    ∃ w', (Builtin.clear_ #[96] ty #[.slice A m c]).run Tryd.prog w = .ok (.tuple #[]) w' ∧ w'.ownsRow base 47 1 (.slice (some ⟨g, 0, none⟩) l cap) l (xs.take l) ∧ w.grownBy w' (some g) := by
  have hcut := row_cut (m := l) h (by omega)
  rw [Nat.mul_one] at hcut
  by_cases h0 : m = 0
  · subst h0
    exact ⟨w, run_clear0B _ _ _ _, hcut, ⟨rfl, rfl, rfl, Nat.le_refl _, fun _ _ _ => rfl⟩⟩
  · obtain rfl := hA h0
    rcases h.2 with ⟨hv, _⟩ | ⟨g', c', cur, hv, hb, hg, hnc, hcm, hcs, htake⟩
    · cases hv
    · obtain ⟨rfl, rfl⟩ : g = g' ∧ cap = c' := by simpa using hv
      obtain ⟨zs, hzs, hzl, hz1⟩ : ∃ zs : List Value, (Builtin.zeroCells (Value.slice none 0 0).cells m).toList = zs ∧ zs.length = m ∧ ∀ v ∈ zs, v.oneCell' = true := by
        have hm2 : m = 1 ∨ m = 2 := by omega
        rcases hm2 with rfl | rfl
        · exact ⟨_, rfl, by kernel_rfl, List.all_eq_true.1 (by kernel_rfl)⟩
        · exact ⟨_, rfl, by kernel_rfl, List.all_eq_true.1 (by kernel_rfl)⟩
      have hst := run_storeCells_at (P := Tryd.prog) g l 47 zs 0 cur w hg (by rw [hzl, hcs]; omega) hz1
      refine ⟨w.setRow g (cur.toList.take (l + 0) ++ zs ++ cur.toList.drop (l + 0 + zs.length)).toArray, ?_, ?_, ?_⟩
      · obtain ⟨k, rfl⟩ : ∃ k, m = k + 1 := ⟨m - 1, by omega⟩
        simp [Builtin.clear_, run_underlying Tryd.underlying96, hzs, hst]
      · have hlen : (cur.toList.take (l + 0) ++ zs ++ cur.toList.drop (l + 0 + zs.length)).length = cur.size := by
          simp [hzl]
          omega
        refine ⟨hcut.1, .inr ⟨g, cap, _, rfl, hb, setRow_heap w g cur _ 47 (0, 0) hg, by omega, hcm, by simpa [hcs] using hlen, ?_⟩⟩
        have hl7 : l ≤ cur.size := by omega
        rw [List.toList_toArray, List.append_assoc, Nat.mul_one, List.take_left' (by simp; omega), Nat.add_zero, ← htake, List.take_take]
        congr 1
        omega
      · exact ⟨rfl, rfl, rfl, by simp, fun k _ hk => setRow_other w g k _ (fun e => hk (by rw [e]))⟩

/-- The builtin clear in a walk. -/
theorem wpList_clearB (w : World) {ops : Array Oper} {rest : List Oper} {o : Oper} {a : Act} {Q : Exit → Act → World → Prop} (hgd : o.guard = none) (x : Operand)
    (ho : o.op = .call { callee := .builtin .clear, args := #[x], argTypes := #[96] }) (A : Option Addr) (m c : Nat) (hx : a.eval x = .slice A m c) (w' : World)
    (hrun : (Builtin.clear_ #[96] o.type #[.slice A m c]).run Tryd.prog w = .ok (.tuple #[]) w')
    (h : wpList Tryd.prog ops Q rest (a.put o.dst (.tuple #[])) w') : wpList Tryd.prog ops Q (o :: rest) a w := by
  refine wpList_plain hgd fun K hK => ?_
  unfold Oper.wp execOp
  simp only [ho, resolve, invoke, builtin, Sem.run_bind, Sem.run_pure, Result.andThen_ok, List.map_toArray, List.map_cons, List.map_nil, hx, hrun]
  exact hK _ _ h
end Go.Proofs.YtnpcakakjhiboaaDoor
