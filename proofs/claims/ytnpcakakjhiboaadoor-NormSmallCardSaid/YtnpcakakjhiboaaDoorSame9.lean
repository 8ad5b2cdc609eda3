/- Are two formulas the same, as the program tells it. No condition. -/
import Derived.Test.YtnpcakakjhiboaaDoorPairs
import Derived.Test.YtnpcakakjhiboaaDoorMem
import Derived.Test.YtnpcakakjhiboaaDoorWrong9
import Derived.Deep.RegionLaw
import Derived.Deep.AppendLies
import Derived.Laws.OwnMore
import Derived.RangeFuncBox
namespace Go.Proofs.YtnpcakakjhiboaaDoor
open Go.RowKit Go.Lo Go.WideShapes

theorem info92 : (Tryd.prog.info? 92).map (fun i => (i.zero, i.size, i.bytes)) = some (some (.agg #[.slice none 0 0, .slice none 0 0]), 2, 48) := by kernel_rfl

/-- How much is still to be compared. -/
def wt : List Pr → Nat
  | [] => 0
  | p :: P => p.size + 1 + wt P

theorem wt_len (P : List Pr) : P.length ≤ wt P := by
  induction P with
  | nil => simp
  | cons q P ih => simp only [List.length_cons, wt]; omega

theorem wt_append (P R : List Pr) : wt (P ++ R) = wt P + wt R := by
  induction P with
  | nil => simp [wt]
  | cons p P ih => simp only [List.cons_append, wt, ih]; omega

/-- Where the loops stand: what is open. -/
structure OpenAt (D : Nat → Prop) (w : World) (lo : Nat) (v : Value) (P : List Pr) (wr : World) : Prop where
  row : wr.ownsRow lo 92 2 v P.length (P.flatMap Pr.cells)
  ok : ∀ p, p ∈ P → p.Ok D wr
  quiet : Quiet w wr
  big : lo ≤ wr.heap.size

theorem OpenAt.keep {D p : Nat → Prop} {w : World} {lo : Nat} {v : Value} {P : List Pr} {W W' : World} (h : OpenAt D w lo v P W) (hA : Alters p W W') (h1 : ∀ k, v.ownBlock = some k → ¬ p k) (h2 : ∀ k, k < lo → ¬ p k) (hD : ∀ k, D k → k < lo) (hw : w.heap.size ≤ lo) : OpenAt D w lo v P W' :=
  ⟨row_keep h.row hA h1, fun q hq => (h.ok q hq).keep hA (fun k hk _ => h2 k (hD k hk)), h.quiet.then hA (fun i hi hp => absurd hp (h2 i (by omega))), Nat.le_trans h.big hA.size⟩

theorem OpenAt.pop {D : Nat → Prop} {w : World} {lo g n cap : Nat} {P : List Pr} {p : Pr} {W : World} (h : OpenAt D w lo (.slice (some ⟨g, 0, none⟩) n cap) (P ++ [p]) W) (hn : n = P.length + 1) : OpenAt D w lo (.slice (some ⟨g, 0, none⟩) P.length cap) P W := by
  subst hn
  have h1 := h.row
  rw [List.length_append, List.length_singleton] at h1
  have := row_cut (m := P.length) h1 (by omega)
  refine ⟨?_, fun q hq => h.ok q (by simp [hq]), h.quiet, h.big⟩
  have e : ((P ++ [p]).flatMap Pr.cells).take (P.length * 2) = P.flatMap Pr.cells := by
    rw [List.flatMap_append, List.take_left' (pr_flat_length P)]
  rw [e] at this
  exact this

theorem OpenAt.push {D : Nat → Prop} {w : World} {lo : Nat} {v v2 : Value} {P : List Pr} {p : Pr} {W w2 : World} {o : Obj} (h : OpenAt D w lo v P W) (hp : p.Ok D W) (hD : ∀ k, D k → k < lo) (hw : w.heap.size ≤ lo) (hown : w2.ownsRow lo 92 2 v2 (P.length + 1) (P.flatMap Pr.cells ++ p.cells)) (hgrow : (W.alloc o).grownBy w2 v.ownBlock) : OpenAt D w lo v2 (P ++ [p]) w2 := by
  have hA : Alters (fun k => v.ownBlock = some k) W w2 := ((Alters.refl W).alloc o).grown hgrow (fun k e _ => e)
  have hx : ∀ k, k < lo → ¬ v.ownBlock = some k := fun k hk e => by have := (h.row.lt k e).1; omega
  refine ⟨by simpa using hown, fun q hq => ?_, h.quiet.then hA (fun i hi hp => absurd hp (hx i (by omega))), Nat.le_trans h.big hA.size⟩
  rcases List.mem_append.1 hq with hq | hq
  · exact (h.ok q hq).keep hA (fun k hk _ => hx k (hD k hk))
  · obtain rfl : q = p := by simpa using hq
    exact hp.keep hA (fun k hk _ => hx k (hD k hk))

theorem OpenAt.top {D : Nat → Prop} {w : World} {lo g n cap : Nat} {P : List Pr} {p : Pr} {W : World} (h : OpenAt D w lo (.slice (some ⟨g, 0, none⟩) n cap) (P ++ [p]) W) (hn : n = P.length + 1) :
    W.cell? ⟨g, P.length * 2, none⟩ = some (.slice p.a p.xs.length p.ca) ∧ W.cell? ⟨g, P.length * 2 + 1, none⟩ = some (.slice p.b p.ys.length p.cb) := by
  subst hn
  have h1 := h.row
  rw [List.length_append, List.length_singleton] at h1
  have h2 : (P ++ [p])[P.length]? = some p := by simp
  refine ⟨?_, ?_⟩
  · rw [h1.cellAt _ (by omega)]
    exact pr_flat_at _ P.length p 0 _ h2 rfl
  · rw [h1.cellAt _ (by omega)]
    exact pr_flat_at _ P.length p 1 _ h2 rfl

theorem row_room9 {w : World} {base g n cap size : Nat} {e : TypeId} {xs : List Value} (h : w.ownsRow base e size (.slice (some ⟨g, 0, none⟩) n cap) n xs) : n ≤ cap := by
  rcases h.2 with ⟨hv, _⟩ | ⟨g', c, cur, hv, _, _, hle, _⟩
  · cases hv
  · obtain ⟨-, rfl⟩ : g = g' ∧ cap = c := by simpa using hv
    exact hle

theorem five (w : World) (a b c d e : Array Value) (he : e.size = 2) :
    Quiet w (((((w.alloc (.cells a 28)).alloc (.cells b 28)).alloc (.cells c 28)).alloc (.cells d 28)).alloc (.cells e 92)) ∧ Blk (((((w.alloc (.cells a 28)).alloc (.cells b 28)).alloc (.cells c 28)).alloc (.cells d 28)).alloc (.cells e 92)) (w.heap.size + 1 + 1) c 28 ∧
    Blk (((((w.alloc (.cells a 28)).alloc (.cells b 28)).alloc (.cells c 28)).alloc (.cells d 28)).alloc (.cells e 92)) (w.heap.size + 1 + 1 + 1) d 28 ∧
    (((((w.alloc (.cells a 28)).alloc (.cells b 28)).alloc (.cells c 28)).alloc (.cells d 28)).alloc (.cells e 92)).ownsRow (w.heap.size + 4) 92 2 (.slice (some ⟨w.heap.size + 1 + 1 + 1 + 1, 0, none⟩) 1 1) 1 e.toList ∧
    w.heap.size + 5 ≤ (((((w.alloc (.cells a 28)).alloc (.cells b 28)).alloc (.cells c 28)).alloc (.cells d 28)).alloc (.cells e 92)).heap.size := by
  refine ⟨(((((Alters.refl _).alloc _).alloc _).alloc _).alloc _).alloc _, ((alloc3 _ _ _ _ _).alloc _).alloc _, (alloc4 _ _ _ _ _ _).alloc _, ?_, by simp⟩
  have := World.ownsRow_lit (base := w.heap.size + 4) (size := 2) (e := 92) ((((w.alloc (.cells a 28)).alloc (.cells b 28)).alloc (.cells c 28)).alloc (.cells d 28)) e 1 (by simp) (by simp [maxLen]) (by omega)
  simp only [World.size_alloc] at this
  exact this

def allEq (P : List Pr) : Bool := P.all Pr.eq

theorem allEq_append (P R : List Pr) : allEq (P ++ R) = (allEq P && allEq R) := List.all_append

theorem same_ft (x y : Ft) : same x.pl y.pl = (decide (x.top.n = y.top.n) && sameL (x.kids.map Ft.pl) (y.kids.map Ft.pl)) := by
  obtain ⟨⟨n, a, c⟩, ks⟩ := x
  obtain ⟨⟨m, a2, c2⟩, ls⟩ := y
  exact same_nd n m a a2 c c2 ks ls

theorem nd_ext {n m : Nd} (h1 : n.op = m.op) (h2 : n.nm = m.nm) (h3 : n.cmp = m.cmp) (h4 : n.val = m.val) (h5 : n.lo = m.lo) (h6 : n.hi = m.hi) : n = m := by
  cases n; cases m; simp only at *; subst h1 h2 h3 h4 h5 h6; rfl

set_option maxRecDepth 100000 in
set_option maxHeartbeats 4000000 in
theorem same9_walk (D : Nat → Prop) (x y : Ft) (w : World) (hx : In D w x) (hy : In D w y) (hsz : x.size ≤ 1000000) : Calls Tryd.prog 32 #[x.val, y.val] w (Said (.bool (same x.pl y.pl)) w) := by
  have hx1 : In (fun k => k < w.heap.size + 4) w x := hx.mono (fun k hk _ => by omega)
  have hy1 : In (fun k => k < w.heap.size + 4) w y := hy.mono (fun k hk _ => by omega)
  have HX := Go.Lib.hid hx1
  have HY := Go.Lib.hid hy1
  have HSZ := Go.Lib.hid hsz
  clear hx hy hx1 hy1 hsz
  unfold Ft.val
  go_enter Tryd.func32, Tryd.ntmps32
  go_wp2
  obtain ⟨hq, hb2, hb3, hrow, hsz5⟩ := five w #[.int .i64 x.top.n.op, .string x.top.n.nm, .int .i64 x.top.n.cmp, .int .i64 x.top.n.val, .int .i64 x.top.n.lo, .int .i64 x.top.n.hi, .slice x.top.a x.kids.length x.top.cap] #[.int .i64 y.top.n.op, .string y.top.n.nm, .int .i64 y.top.n.cmp, .int .i64 y.top.n.val, .int .i64 y.top.n.lo, .int .i64 y.top.n.hi, .slice y.top.a y.kids.length y.top.cap] #[.int .i64 x.top.n.op, .string x.top.n.nm, .int .i64 x.top.n.cmp, .int .i64 x.top.n.val, .int .i64 x.top.n.lo, .int .i64 x.top.n.hi, .slice x.top.a x.kids.length x.top.cap] #[.int .i64 y.top.n.op, .string y.top.n.nm, .int .i64 y.top.n.cmp, .int .i64 y.top.n.val, .int .i64 y.top.n.lo, .int .i64 y.top.n.hi, .slice y.top.a y.kids.length y.top.cap] #[.slice (some ⟨w.heap.size + 1 + 1, 0, none⟩) 1 1, .slice (some ⟨w.heap.size + 1 + 1 + 1, 0, none⟩) 1 1] rfl
  generalize ((((w.alloc _).alloc _).alloc _).alloc _).alloc _ = w1 at *
  have hO : OpenAt (fun k => k < w.heap.size + 4) w (w.heap.size + 4) (.slice (some ⟨w.heap.size + 1 + 1 + 1 + 1, 0, none⟩) 1 1) [⟨some ⟨w.heap.size + 1 + 1, 0, none⟩, 1, [x], some ⟨w.heap.size + 1 + 1 + 1, 0, none⟩, 1, [y]⟩] w1 := by
    refine ⟨hrow, fun p hp => ?_, hq, by omega⟩
    obtain rfl : p = ⟨some ⟨w.heap.size + 1 + 1, 0, none⟩, 1, [x], some ⟨w.heap.size + 1 + 1 + 1, 0, none⟩, 1, [y]⟩ := by simpa using hp
    refine ⟨rfl, by simp [maxLen], (fs_block (T := [x]) (ty := 28) hb2).mono (fun k _ e => by omega), (fs_block (T := [y]) (ty := 28) hb3).mono (fun k _ e => by omega), fun t ht => ?_, fun t ht => ?_⟩
    · obtain rfl : t = x := by simpa using ht
      exact HX.out.quiet hq
    · obtain rfl : t = y := by simpa using ht
      exact HY.out.quiet hq
  have he0 : allEq [⟨some ⟨w.heap.size + 1 + 1, 0, none⟩, 1, [x], some ⟨w.heap.size + 1 + 1 + 1, 0, none⟩, 1, [y]⟩] = same x.pl y.pl := by simp [allEq, Pr.eq, sameL]
  have HO := Go.Lib.hid hO
  have HE0 := Go.Lib.hid he0
  clear hq hb2 hb3 hrow hO he0 HX HY
  go_loopg [5] (x.size + 1) (fun k v wr => ∃ P : List Pr, wt P ≤ k ∧ k ≤ x.size + 1 ∧ OpenAt (fun k => k < w.heap.size + 4) w (w.heap.size + 4) v P wr ∧ allEq P = same x.pl y.pl)
  case atStart => exact ⟨_, by simp [wt, Pr.size, Tr.sizeL], Nat.le_refl _, HO.out, HE0.out⟩
  case round =>
    clear HO HE0
    obtain ⟨P, hwt, hgk, hO, hE⟩ := hrel
    have HE := Go.Lib.hid hE
    clear hE
    rcases List.eq_nil_or_concat P with rfl | ⟨P0, p, rfl⟩
    · have hs : same x.pl y.pl = true := HE.out.symm
      have HS := Go.Lib.hid hs
      clear hs
      rcases hO.row.2 with ⟨rfl, -⟩ | ⟨g, cap, cur, rfl, -, -, -, -, -, -⟩
      all_goals
        have HO := Go.Lib.hid hO
        clear hO
        go_wp2
        go_ret
        exact ⟨by rw [HS.out]; rfl, HO.out.quiet⟩
    · rw [List.concat_eq_append] at *
      have h1 := hO.row
      rw [List.length_append, List.length_singleton] at h1
      obtain ⟨g, cap, rfl⟩ := ownsRow_succ h1
      obtain ⟨t0, t1⟩ := hO.top rfl
      have hlen : P0.length ≤ 3000000 := by
        have h2 := wt_len P0
        rw [wt_append] at hwt
        have := HSZ.out
        omega
      have hcap := row_room9 h1
      have hgl := (h1.lt g rfl)
      have HO := Go.Lib.hid hO
      clear hO h1
      have hlt0 : wr.heap.size < (wr.alloc (.cells #[.slice p.a p.xs.length p.ca, .slice p.b p.ys.length p.cb] 92)).heap.size := by simp
      have hpk := (HO.out.ok p (by simp)).keep (p := fun _ => False) ((Alters.refl wr).alloc (.cells #[.slice p.a p.xs.length p.ca, .slice p.b p.ys.length p.cb] 92)) (by simp)
      have hO2 := (HO.out.pop rfl).keep (p := fun _ => False) ((Alters.refl wr).alloc (.cells #[.slice p.a p.xs.length p.ca, .slice p.b p.ys.length p.cb] 92)) (by simp) (by simp) (fun k hk => hk) (by omega)
      have hbx := Blk.new wr #[.slice p.a p.xs.length p.ca, .slice p.b p.ys.length p.cb] 92
      have hE2 : (allEq P0 && sameL ((p.xs.drop 0).map Ft.pl) ((p.ys.drop 0).map Ft.pl)) = same x.pl y.pl := by
        rw [← HE.out, allEq_append]
        simp [allEq, Pr.eq]
      have hwt2 : wt P0 + Tr.sizeL (p.xs.drop 0) < gk := by rw [wt_append] at hwt; simp [wt, Pr.size] at hwt ⊢; omega
      have hbl := HO.out.big
      have HO2 := Go.Lib.hid hO2
      have HPK := Go.Lib.hid hpk
      have HBX := Go.Lib.hid hbx
      have HE2 := Go.Lib.hid hE2
      have HLN := Go.Lib.hid hpk.len
      have hmx := hpk.max
      unfold maxLen at hmx
      clear hO2 hpk hbx hE2
      go_wp2
      clear t0 t1
      generalize hbe : wr.heap.size = bx at *
      clear hbe
      generalize wr.alloc _ = w2 at *
      go_loopw [5, 33] (fun v i wr2 => ∃ (P : List Pr) (j : Nat), j ≤ p.xs.length ∧ i = .int .i64 j ∧ wt P + Tr.sizeL (p.xs.drop j) < gk ∧ OpenAt (fun k => k < w.heap.size + 4) w (w.heap.size + 4) v P wr2 ∧ p.Ok (fun k => k < w.heap.size + 4) wr2 ∧ Blk wr2 bx #[.slice p.a p.xs.length p.ca, .slice p.b p.ys.length p.cb] 92 ∧ (∀ k, v.ownBlock = some k → k ≠ bx) ∧
        (allEq P && sameL ((p.xs.drop j).map Ft.pl) ((p.ys.drop j).map Ft.pl)) = same x.pl y.pl) (fun _ i _ => p.xs.length - (intOf i).toNat)
      case atStart => exact ⟨P0, 0, Nat.zero_le _, rfl, hwt2, HO2.out, HPK.out, HBX.out, fun k e => by simp [Value.ownBlock] at e; omega, HE2.out⟩
      case round =>
        clear HO2 HPK HBX HE2 hwt2 HO hwt
        obtain ⟨P, j, hj, rfl, hwt2, hO, hp, hbx, hvb, hE2⟩ := hrel
        have q0 := hbx.cell 0 rfl
        have q1 := hbx.cell 1 rfl
        have HO := Go.Lib.hid hO
        have HPK := Go.Lib.hid hp
        have HBX := Go.Lib.hid hbx
        have HE2 := Go.Lib.hid hE2
        have HVB := Go.Lib.hid hvb
        have hbl2 := hO.big
        clear hO hp hbx hE2 hvb
        by_cases hlt : j < p.xs.length
        · have hlt2 : j < p.ys.length := by rw [← HLN.out]; exact hlt
          obtain ⟨b1, o1, ha1, -, hc1⟩ := HPK.out.fa (fun h => by rw [h] at hlt; simp at hlt)
          obtain ⟨b2, o2, ha2, -, hc2⟩ := HPK.out.fb (fun h => by rw [h] at hlt2; simp at hlt2)
          have hia := HPK.out.ia p.xs[j] (by simp)
          have hib := HPK.out.ib p.ys[j] (by simp)
          obtain ⟨d0, d1, d2, d3, d4, d5, d6⟩ := (hc1 j p.xs[j] (by simp [hlt])).seven
          obtain ⟨e0, e1, e2, e3, e4, e5, e6⟩ := (hc2 j p.ys[j] (by simp [hlt2])).seven
          have hsd := sameL_drop (p.xs.map Ft.pl) (p.ys.map Ft.pl) j (by simpa using hlt) (by simpa using hlt2)
          rw [show (p.xs.map Ft.pl)[j]'(by simpa using hlt) = Ft.pl p.xs[j] by simp, show (p.ys.map Ft.pl)[j]'(by simpa using hlt2) = Ft.pl p.ys[j] by simp, same_ft] at hsd
          have hdr : Tr.sizeL (p.xs.drop j) = p.xs[j].size + Tr.sizeL (p.xs.drop (j + 1)) := by rw [List.drop_eq_getElem_cons hlt, Tr.sizeL]
          have hln := hlt2
          rw [← HLN.out] at q1
          rw [ha1] at q0
          rw [ha2] at q1
          have HIA := Go.Lib.hid hia
          have HIB := Go.Lib.hid hib
          have HSD := Go.Lib.hid hsd
          have HDR := Go.Lib.hid hdr
          clear hc1 hc2 hia hib hsd hdr hln ha1 ha2
          generalize p.xs[j] = tx at *
          generalize p.ys[j] = ty at *
          go_wp2_with fail
          go_quiet (fail)
          revert nq
          intro nqa
          go_wp2_with fail
          by_cases hop : tx.top.n.op = ty.top.n.op
          rotate_left
          · have b1 : (tx.top.n.op == ty.top.n.op) = false := by simpa using hop
            have b2 : (tx.top.n.op != ty.top.n.op) = true := by simpa using hop
            have hf : same x.pl y.pl = false := by
              have := HE2.out
              rw [List.map_drop, List.map_drop] at this
              rw [← this]
              clear this
              rw [HSD.out, decide_eq_false (fun h => hop (congrArg Nd.op h))]
              simp
            have HF := Go.Lib.hid hf
            clear hf hop
            go_quiet (fail)
            go_wp2
            go_ret
            exact ⟨by rw [HF.out]; rfl, (HO.out.quiet.drewN _).drewN _⟩
          have bop : (tx.top.n.op == ty.top.n.op) = true := by simpa using hop
          have cop : (tx.top.n.op != ty.top.n.op) = false := by simpa using hop
          have Hop := Go.Lib.hid hop
          clear hop
          by_cases hnm : tx.top.n.nm = ty.top.n.nm
          rotate_left
          · have b1 : (tx.top.n.nm.toList == ty.top.n.nm.toList) = false := by simpa [bytes_eq] using hnm
            have b2 : (tx.top.n.nm.toList != ty.top.n.nm.toList) = true := by simpa [bytes_eq] using hnm
            have hf : same x.pl y.pl = false := by
              have := HE2.out
              rw [List.map_drop, List.map_drop] at this
              rw [← this]
              clear this
              rw [HSD.out, decide_eq_false (fun h => hnm (congrArg Nd.nm h))]
              simp
            have HF := Go.Lib.hid hf
            clear hf hnm
            go_quiet (fail)
            go_wp2
            go_ret
            exact ⟨by rw [HF.out]; rfl, (HO.out.quiet.drewN _).drewN _⟩
          have bnm : (tx.top.n.nm.toList == ty.top.n.nm.toList) = true := by simpa [bytes_eq] using hnm
          have cnm : (tx.top.n.nm.toList != ty.top.n.nm.toList) = false := by simpa [bytes_eq] using hnm
          have Hnm := Go.Lib.hid hnm
          clear hnm
          by_cases hcmp : tx.top.n.cmp = ty.top.n.cmp
          rotate_left
          · have b1 : (tx.top.n.cmp == ty.top.n.cmp) = false := by simpa using hcmp
            have b2 : (tx.top.n.cmp != ty.top.n.cmp) = true := by simpa using hcmp
            have hf : same x.pl y.pl = false := by
              have := HE2.out
              rw [List.map_drop, List.map_drop] at this
              rw [← this]
              clear this
              rw [HSD.out, decide_eq_false (fun h => hcmp (congrArg Nd.cmp h))]
              simp
            have HF := Go.Lib.hid hf
            clear hf hcmp
            go_quiet (fail)
            go_wp2
            go_ret
            exact ⟨by rw [HF.out]; rfl, (HO.out.quiet.drewN _).drewN _⟩
          have bcmp : (tx.top.n.cmp == ty.top.n.cmp) = true := by simpa using hcmp
          have ccmp : (tx.top.n.cmp != ty.top.n.cmp) = false := by simpa using hcmp
          have Hcmp := Go.Lib.hid hcmp
          clear hcmp
          by_cases hval : tx.top.n.val = ty.top.n.val
          rotate_left
          · have b1 : (tx.top.n.val == ty.top.n.val) = false := by simpa using hval
            have b2 : (tx.top.n.val != ty.top.n.val) = true := by simpa using hval
            have hf : same x.pl y.pl = false := by
              have := HE2.out
              rw [List.map_drop, List.map_drop] at this
              rw [← this]
              clear this
              rw [HSD.out, decide_eq_false (fun h => hval (congrArg Nd.val h))]
              simp
            have HF := Go.Lib.hid hf
            clear hf hval
            go_quiet (fail)
            go_wp2
            go_ret
            exact ⟨by rw [HF.out]; rfl, (HO.out.quiet.drewN _).drewN _⟩
          have bval : (tx.top.n.val == ty.top.n.val) = true := by simpa using hval
          have cval : (tx.top.n.val != ty.top.n.val) = false := by simpa using hval
          have Hval := Go.Lib.hid hval
          clear hval
          by_cases hlo : tx.top.n.lo = ty.top.n.lo
          rotate_left
          · have b1 : (tx.top.n.lo == ty.top.n.lo) = false := by simpa using hlo
            have b2 : (tx.top.n.lo != ty.top.n.lo) = true := by simpa using hlo
            have hf : same x.pl y.pl = false := by
              have := HE2.out
              rw [List.map_drop, List.map_drop] at this
              rw [← this]
              clear this
              rw [HSD.out, decide_eq_false (fun h => hlo (congrArg Nd.lo h))]
              simp
            have HF := Go.Lib.hid hf
            clear hf hlo
            go_quiet (fail)
            go_wp2
            go_ret
            exact ⟨by rw [HF.out]; rfl, (HO.out.quiet.drewN _).drewN _⟩
          have blo : (tx.top.n.lo == ty.top.n.lo) = true := by simpa using hlo
          have clo : (tx.top.n.lo != ty.top.n.lo) = false := by simpa using hlo
          have Hlo := Go.Lib.hid hlo
          clear hlo
          by_cases hhi : tx.top.n.hi = ty.top.n.hi
          rotate_left
          · have b1 : (tx.top.n.hi == ty.top.n.hi) = false := by simpa using hhi
            have b2 : (tx.top.n.hi != ty.top.n.hi) = true := by simpa using hhi
            have hf : same x.pl y.pl = false := by
              have := HE2.out
              rw [List.map_drop, List.map_drop] at this
              rw [← this]
              clear this
              rw [HSD.out, decide_eq_false (fun h => hhi (congrArg Nd.hi h))]
              simp
            have HF := Go.Lib.hid hf
            clear hf hhi
            go_quiet (fail)
            go_wp2
            go_ret
            exact ⟨by rw [HF.out]; rfl, (HO.out.quiet.drewN _).drewN _⟩
          have bhi : (tx.top.n.hi == ty.top.n.hi) = true := by simpa using hhi
          have chi : (tx.top.n.hi != ty.top.n.hi) = false := by simpa using hhi
          have Hhi := Go.Lib.hid hhi
          clear hhi
          by_cases hkl : tx.kids.length = ty.kids.length
          rotate_left
          · have b1 : ((tx.kids.length : Int) == (ty.kids.length : Int)) = false := by simp; omega
            have b2 : ((tx.kids.length : Int) != (ty.kids.length : Int)) = true := by simp; omega
            have hf : same x.pl y.pl = false := by
              have := HE2.out
              rw [List.map_drop, List.map_drop] at this
              rw [← this]
              clear this
              rw [HSD.out]
              cases h : sameL (tx.kids.map Ft.pl) (ty.kids.map Ft.pl)
              · simp
              · have := sameL_len _ _ h
                simp at this
                omega
            have HF := Go.Lib.hid hf
            clear hf hkl
            go_quiet (fail)
            go_wp2
            go_ret
            exact ⟨by rw [HF.out]; rfl, (HO.out.quiet.drewN _).drewN _⟩
          have bkl : ((tx.kids.length : Int) == (ty.kids.length : Int)) = true := by rw [hkl]; simp
          have ckl : ((tx.kids.length : Int) != (ty.kids.length : Int)) = false := by rw [hkl]; simp
          have hnd : tx.top.n = ty.top.n := nd_ext Hop.out Hnm.out Hcmp.out Hval.out Hlo.out Hhi.out
          have hnext : (allEq P && sameL (tx.kids.map Ft.pl) (ty.kids.map Ft.pl) && sameL ((p.xs.drop (j + 1)).map Ft.pl) ((p.ys.drop (j + 1)).map Ft.pl)) = same x.pl y.pl := by
            have := HE2.out
            rw [List.map_drop, List.map_drop] at this
            rw [← this, HSD.out, decide_eq_true hnd, List.map_drop, List.map_drop, Bool.true_and, Bool.and_assoc]
          have HNX := Go.Lib.hid hnext
          have HKL := Go.Lib.hid hkl
          clear hkl hnd hnext
          go_quiet (fail)
          revert nq
          intro nqb
          by_cases hk0 : 0 < tx.kids.length
          · go_wp2_with fail
            have hO5 : OpenAt (fun k => k < w.heap.size + 4) w (w.heap.size + 4) u5 P (wr.drewN (nqa + nqb)) := HO.out.keep ((Alters.refl (p := fun _ => False) wr).drewN _) (fun k _ h => h) (fun k _ h => h) (fun k hk => hk) (by omega)
            have hp5 : p.Ok (fun k => k < w.heap.size + 4) (wr.drewN (nqa + nqb)) := HPK.out.keep ((Alters.refl (p := fun _ => False) wr).drewN _) (fun k _ _ h => h)
            have hb5 : Blk (wr.drewN (nqa + nqb)) bx #[.slice p.a p.xs.length p.ca, .slice p.b p.ys.length p.cb] 92 := HBX.out
            have f6 : (wr.drewN (nqa + nqb)).cell? ⟨b1, o1 + j * 7 + 6, none⟩ = some (.slice tx.top.a tx.kids.length tx.top.cap) := d6
            have g6 : (wr.drewN (nqa + nqb)).cell? ⟨b2, o2 + j * 7 + 6, none⟩ = some (.slice ty.top.a ty.kids.length ty.top.cap) := e6
            have hpr : Pr.Ok (fun k => k < w.heap.size + 4) (wr.drewN (nqa + nqb)) ⟨tx.top.a, tx.top.cap, tx.kids, ty.top.a, ty.top.cap, ty.kids⟩ := by
              have ha := HIA.out.quiet ((Alters.refl wr).drewN (nqa + nqb))
              have hb := HIB.out.quiet ((Alters.refl wr).drewN (nqa + nqb))
              exact ⟨HKL.out, ha.len, ha.fs, hb.fs, fun t ht => ha.kid ht, fun t ht => hb.kid ht⟩
            have hbl5 : bx < (wr.drewN (nqa + nqb)).heap.size := HBX.out.lt
            clear d0 d1 d2 d3 d4 d5 d6 e0 e1 e2 e3 e4 e5 e6 q0 q1 bop cop bnm cnm bcmp ccmp bval cval blo clo bhi chi bkl ckl
            generalize wr.drewN _ = w5 at *
            have hpl : P.length ≤ 3000000 := by
              have h2 := wt_len P
              have := HSZ.out
              omega
            have HRW : Hid ((w5.drew.alloc (.cells #[.slice tx.top.a tx.kids.length tx.top.cap, .slice ty.top.a ty.kids.length ty.top.cap] 92)).ownsRow (w.heap.size + 4) 92 2 u5 P.length (P.flatMap Pr.cells)) := hO5.row.drew.alloc _
            have HNW : Hid (∀ i u, (Pr.cells ⟨tx.top.a, tx.top.cap, tx.kids, ty.top.a, ty.top.cap, ty.kids⟩)[i]? = some u → (w5.drew.alloc (.cells #[.slice tx.top.a tx.kids.length tx.top.cap, .slice ty.top.a ty.kids.length ty.top.cap] 92)).cell? ((⟨w5.heap.size, 0, none⟩ : Addr).add i) = some u) := World.news_of_block (Blk.new w5.drew _ 92)
            have HBG : Hid (w.heap.size + 4 ≤ (w5.drew.alloc (.cells #[.slice tx.top.a tx.kids.length tx.top.cap, .slice ty.top.a ty.kids.length ty.top.cap] 92)).heap.size) := Nat.le_trans hO5.big (((Alters.refl (p := fun _ => False) w5).drew.alloc _).size)
            have HO5 := Go.Lib.hid hO5
            have HP5 := Go.Lib.hid hp5
            have HB5 := Go.Lib.hid hb5
            have HPR := Go.Lib.hid hpr
            clear hO5 hp5 hb5 hpr HO HPK HBX HIA HIB
            obtain ⟨i0, hi0, hz0, hz1, hz2⟩ := info_parts info92
            go_region_law ((refine step_append_lies (w := w5.drew.alloc (.cells #[.slice tx.top.a tx.kids.length tx.top.cap, .slice ty.top.a ty.kids.length ty.top.cap] 92)) rfl (.tmp 94) (.tmp 104) 93 rfl (w.heap.size + 4) 92 i0 _ 2 48 Tryd.underlying93 hi0 hz0 hz1 hz2 rfl (by decide) u5 P.length (P.flatMap Pr.cells) (by simp [Act.eval]) HRW.out ⟨w5.heap.size, 0, none⟩ 1 1 (Pr.cells ⟨tx.top.a, tx.top.cap, tx.kids, ty.top.a, ty.top.cap, ty.kids⟩) (by simp [Act.eval]) rfl HNW.out (by intro u hu; simp [Pr.cells] at hu; rcases hu with rfl | rfl <;> rfl) (by decide) (by unfold maxLen; omega) (by omega) HBG.out (w5.heap.size + 1) (by simp) ?_; intro g2 cp w6 hown hgrow hat hlt6))
            all_goals
              have hA6 : Alters (fun k => u5.ownBlock = some k) w5 w6 := (((Alters.refl w5).drew).alloc _).grown hgrow (fun k e _ => e)
              have hO5d := HO5.out.keep (p := fun _ => False) ((Alters.refl w5).drew) (fun k _ h => h) (fun k _ h => h) (fun k hk => hk) (by omega)
              have hPRd := HPR.out.keep (p := fun _ => False) ((Alters.refl w5).drew) (fun k _ _ h => h)
              have hO6 := hO5d.push hPRd (fun k hk => hk) (by omega) hown hgrow
              have hx6 : ∀ k, k < w.heap.size + 4 → ¬ u5.ownBlock = some k := fun k hk e => by have := (HO5.out.row.lt k e).1; omega
              have hp6 := HP5.out.keep hA6 (fun k hk _ => hx6 k hk)
              have hb6 := hA6.blk HB5.out (fun e => HVB.out bx e rfl)
              have hn6 : (allEq (P ++ [⟨tx.top.a, tx.top.cap, tx.kids, ty.top.a, ty.top.cap, ty.kids⟩]) && sameL ((p.xs.drop (j + 1)).map Ft.pl) ((p.ys.drop (j + 1)).map Ft.pl)) = same x.pl y.pl := by
                rw [← HNX.out, allEq_append]
                simp [allEq, Pr.eq]
              have hv6 : ∀ k, (Value.slice (some ⟨g2, 0, none⟩) (P.length + 1) cp).ownBlock = some k → k ≠ bx := fun k e e2 => by
                have e : g2 = k := by simpa [Value.ownBlock] using e
                rcases hat with h | h
                · exact HVB.out g2 h (e.trans e2)
                · omega
              have hw6 : wt (P ++ [⟨tx.top.a, tx.top.cap, tx.kids, ty.top.a, ty.top.cap, ty.kids⟩]) + Tr.sizeL (p.xs.drop (j + 1)) < gk := by
                have := HDR.out
                rw [wt_append]
                have h9 : tx.size = 1 + Tr.sizeL tx.kids := by cases tx; rfl
                simp only [wt, Pr.size]
                omega
              have HO6 := Go.Lib.hid hO6
              have HP6 := Go.Lib.hid hp6
              have HB6 := Go.Lib.hid hb6
              have HN6 := Go.Lib.hid hn6
              have HV6 := Go.Lib.hid hv6
              clear hA6 hO5d hPRd hO6 hx6 hp6 hb6 hn6 hv6 hown hgrow hat HRW HNW HBG HNX
              go_wp2
              go_roundw
              case rel => exact ⟨P ++ [⟨tx.top.a, tx.top.cap, tx.kids, ty.top.a, ty.top.cap, ty.kids⟩], j + 1, by omega, by go_num, hw6, by simpa using HO6.out, HP6.out, HB6.out, HV6.out, HN6.out⟩
              case measure => simp [intOf]; omega
          · have hk1 : tx.kids = [] := List.eq_nil_of_length_eq_zero (by omega)
            have hk2 : ty.kids = [] := List.eq_nil_of_length_eq_zero (by have := HKL.out; omega)
            have hnx2 : (allEq P && sameL ((p.xs.drop (j + 1)).map Ft.pl) ((p.ys.drop (j + 1)).map Ft.pl)) = same x.pl y.pl := by
              have := HNX.out
              rw [hk1, hk2] at this
              simpa [sameL] using this
            have HN2 := Go.Lib.hid hnx2
            clear hk1 hk2 hnx2
            go_wp2
            go_roundw
            case rel => exact ⟨P, j + 1, by omega, by go_num, by have := HDR.out; omega, HO.out.keep ((Alters.refl (p := fun _ => False) wr).drewN _) (fun k _ h => h) (fun k _ h => h) (fun k hk => hk) (by omega), HPK.out.keep ((Alters.refl (p := fun _ => False) wr).drewN _) (fun k _ _ h => h), HBX.out, HVB.out, HN2.out⟩
            case measure => simp [intOf]; omega
        · obtain rfl : j = p.xs.length := by omega
          have hfin : allEq P = same x.pl y.pl := by
            rw [← HE2.out, List.drop_length, List.drop_eq_nil_of_le (by rw [← HLN.out]; exact Nat.le_refl _)]
            simp [sameL]
          have HFIN := Go.Lib.hid hfin
          have hb9 : gk ≤ x.size + 1 := hgk
          clear hfin
          go_wp2
          go_roundg (wt P)
          case measure => omega
          case rel => exact ⟨P, Nat.le_refl _, by omega, HO.out, HFIN.out⟩
end Go.Proofs.YtnpcakakjhiboaaDoor
