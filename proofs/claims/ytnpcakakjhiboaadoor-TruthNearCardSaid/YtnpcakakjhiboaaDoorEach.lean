/- formula.each: the nodes, each ahead of its kids. No condition. formula.Sound: whether nothing is wrong with any node. No condition. -/
import Derived.Test.YtnpcakakjhiboaaDoorMem
import Derived.Test.YtnpcakakjhiboaaDoorRangeZ
import Derived.Sort.LoopGhostIn
import Derived.Maps.OwnIn
import Derived.Maps.AppendAt
import Derived.Test.YtnpcakakjhiboaaDoorWrong9
import Derived.Shelf.Abstract
namespace Go.Proofs.YtnpcakakjhiboaaDoor
open Go.RowKit Go.Lo Go.WideShapes
attribute [local go_sem] Oper.semAt_some

theorem info26 : (Tryd.prog.info? 26).map (fun i => (i.zero, i.size, i.bytes)) = some (some (.slice none 0 0), 1, 24) := by kernel_rfl

def Vi.enc (v : Vi) : Array Value := #[.pointer (some v.ad), .int .i64 v.dp]

theorem each_walk (p : Option Addr) (w : World) : Calls Tryd.prog 78 #[.pointer p] w fun e w' => e = .returned (.func (.func 110) #[] #[.pointer (some ⟨w.heap.size, 0, none⟩)]) ∧ w' = w.alloc (.cells #[.pointer p] 89) := by
  go_enter Tryd.func78, Tryd.ntmps78
  go_wp2
  go_ret
  exact ⟨rfl, rfl⟩

/-- Where the loop stands: what is open. -/
structure EachAt (D : Nat → Prop) (lo : Nat) (v : Value) (S : List En) (W : World) : Prop where
  row : W.ownsRow lo 26 1 v S.length (S.reverse.map En.val)
  ok : ∀ e, e ∈ S → e.Ok D W

theorem row_room {w : World} {base g n cap size : Nat} {e : TypeId} {xs : List Value} (h : w.ownsRow base e size (.slice (some ⟨g, 0, none⟩) n cap) n xs) : n ≤ cap := by
  rcases h.2 with ⟨hv, _⟩ | ⟨g', c, cur, hv, _, _, hle, _⟩
  · cases hv
  · obtain ⟨-, rfl⟩ : g = g' ∧ cap = c := by simpa using hv
    exact hle

theorem EachAt.keep {D p : Nat → Prop} {lo : Nat} {v : Value} {S : List En} {W W' : World} (h : EachAt D lo v S W) (hA : Alters p W W') (h1 : ∀ k, v.ownBlock = some k → ¬ p k) (h2 : ∀ k, D k → ¬ p k) : EachAt D lo v S W' :=
  ⟨row_keep h.row hA h1, fun e he => (h.ok e he).keep hA (fun k hk _ => h2 k hk)⟩

theorem EachAt.pop {D : Nat → Prop} {lo g n cap : Nat} {e : En} {S : List En} {W : World} (h : EachAt D lo (.slice (some ⟨g, 0, none⟩) n cap) (e :: S) W) (hn : n = S.length + 1) : EachAt D lo (.slice (some ⟨g, 0, none⟩) S.length cap) S W := by
  subst hn
  have := row_cut (m := S.length) h.row (by simp)
  refine ⟨?_, fun e he => h.ok e (by simp [he])⟩
  have e2 : ((e :: S).reverse.map En.val).take (S.length * 1) = S.reverse.map En.val := by simp
  rw [e2] at this
  exact this

theorem EachAt.put {D : Nat → Prop} {lo g n cap : Nat} {e e' : En} {S : List En} {W : World} (h : EachAt D lo (.slice (some ⟨g, 0, none⟩) n cap) (e :: S) W) (hn : n = S.length + 1) (hD : ∀ k, D k → k < lo) (he : e'.Ok D W) : EachAt D lo (.slice (some ⟨g, 0, none⟩) n cap) (e' :: S) (W.setCell ⟨g, S.length, none⟩ e'.val) := by
  subst hn
  have hg := (h.row.lt g rfl).1
  have := (h.row.stored S.length e'.val).1
  have e2 : ((e :: S).reverse.map En.val).set S.length e'.val = (e' :: S).reverse.map En.val := by
    simp [List.set_append_right]
  rw [e2] at this
  have hs : Alters (fun k => k = g) W (W.setCell ⟨g, S.length, none⟩ e'.val) := (Alters.refl (p := fun k => k = g) W).set (q := ⟨g, S.length, none⟩) (fun _ => rfl) _
  refine ⟨this, fun x hx => ?_⟩
  rcases List.mem_cons.1 hx with rfl | hx
  · exact he.keep hs (fun k hk _ e => by have := hD k hk; omega)
  · exact (h.ok x (by simp [hx])).keep hs (fun k hk _ e => by have := hD k hk; omega)

theorem EachAt.push {D : Nat → Prop} {lo : Nat} {v v2 : Value} {e : En} {S : List En} {W w2 : World} {o : Obj} (h : EachAt D lo v S W) (he : e.Ok D W) (hD : ∀ k, D k → k < lo) (hown : w2.ownsRow lo 26 1 v2 (S.length + 1) (S.reverse.map En.val ++ [e.val])) (hgrow : (W.alloc o).grownBy w2 v.ownBlock) : EachAt D lo v2 (e :: S) w2 := by
  have hA : Alters (fun k => v.ownBlock = some k) W w2 := ((Alters.refl W).alloc o).grown hgrow (fun k e _ => e)
  have hp : ∀ k, D k → ¬ v.ownBlock = some k := fun k hk e => by have := (h.row.lt k e).1; have := hD k hk; omega
  refine ⟨by simpa using hown, fun x hx => ?_⟩
  rcases List.mem_cons.1 hx with rfl | hx
  · exact he.keep hA (fun k hk _ => hp k hk)
  · exact (h.ok x hx).keep hA (fun k hk _ => hp k hk)

set_option maxRecDepth 100000 in
set_option maxHeartbeats 2000000 in
theorem each1_seq (D Z : Nat → Prop) (B b o : Nat) (t : Ft) (w : World) (hB : w.cell? ⟨B, 0, none⟩ = some (.pointer (some ⟨b, o, none⟩))) (hB2 : ¬ Z B) (hD : ∀ k, D k → ¬ Z k) (ha : AtP w b o t) (hb : D b) (hin : In D w t) (hsz : t.size ≤ 1000000) :
    SeqC Fence.wide 8 Tryd.prog 110 #[.pointer (some ⟨B, 0, none⟩)] Vi.enc Z (vis ⟨b, o, none⟩ 1 t) w := by
  intro l J Jx W D0 hW hl hD0 hJ hY h0 hJx
  have hBlt := block_lt_of_cell hB
  have hc0 : W.cell? ⟨B, 0, none⟩ = some (.pointer (some ⟨b, o, none⟩)) := (hW.cell (p := ⟨B, 0, none⟩) hBlt).trans hB
  have hq : Quiet w W := (Alters.of_below hW (p := fun k => w.heap.size ≤ k) (fun k hk hh => hh)).mono (fun k hk h => by omega)
  have hW2 := ha.keep hq (by simp)
  have hin2 : In (fun k => (D k ∧ ¬ Z k) ∧ k < W.heap.size) W t := (hin.quiet hq).mono (fun k hk hd => ⟨⟨hd, hD k hd⟩, hk⟩)
  have hb2 : (D b ∧ ¬ Z b) ∧ b < W.heap.size := ⟨⟨hb, hD b hb⟩, hW2.lt⟩
  have hz := hW.size
  obtain ⟨x, hx⟩ : ∃ x : Vi, x = ⟨⟨b, o, none⟩, 1, t⟩ := ⟨_, rfl⟩
  have hvr := vis_rest ⟨b, o, none⟩ t
  have hlen := vis_length ⟨b, o, none⟩ 1 t
  generalize vis ⟨b, o, none⟩ 1 t = L at *
  have hL : L = [] ++ x :: rest [⟨t.top.a, t.top.cap, t.kids⟩] := by rw [hvr, hx]; rfl
  obtain ⟨fn, tmps, assign, body, hy, hR⟩ := hY [] x _ W D0 hL h0 (Nat.le_refl _)
  have HY := Go.Lib.hid hY
  have HJ := Go.Lib.hid hJ
  have HI := Go.Lib.hid hin2
  have HA := Go.Lib.hid hW2
  have HD0 := Go.Lib.hid hD0
  have HR := Go.Lib.hid hR
  have HL := Go.Lib.hid hL
  have HB2 := Go.Lib.hid hb2
  have HX := Go.Lib.hid hx
  have HLEN := Go.Lib.hid hlen
  have he : x.enc = #[.pointer (some ⟨b, o, none⟩), .int .i64 1] := by rw [hx]; rfl
  rw [he] at hy
  clear hY hJ h0 hW hB hq hW2 ha hin hD hD0 hin2 hR hL hvr hx he hb hb2 hlen
  refine callsIn_of_wp Tryd.func110 rfl trivial ?_ rfl
  simp only [Tryd.ntmps110, List.size_toArray, List.length_cons, List.length_nil, Nat.reduceAdd, Nat.reduceSub, Array.replicate_succ, Array.replicate_zero, List.push_toArray, List.append_toArray, List.nil_append, List.cons_append]
  gi_wp2_with fail
  refine HR.out.mono ?_
  rintro e W3 (⟨rfl, D', hJ3, hk3, hg3⟩ | ⟨rfl, D', hJx3⟩)
  rotate_left
  · gi_wp2
    refine bodyPost_ret (results_none rfl _ _ _) rfl ?_
    exact ⟨⟨_, rfl⟩, .inr ⟨_, _, _, _, HL.out, hJx3⟩⟩
  have hz3 := hk3.size
  have nb : ¬ (D0 b ∨ (Z b ∧ b < W.heap.size)) := fun h => HB2.out.1.2 (h.elim (fun h => (HD0.out b h).1) (fun h => h.1))
  have hc3 : W3.cell? ⟨B, 0, none⟩ = some (.pointer (some ⟨b, o, none⟩)) := hk3.cell hc0 (fun h => hB2 (h.elim (fun h => (HD0.out B h).1) (fun h => h.1)))
  obtain ⟨d0, d1, d2, d3, d4, d5, d6⟩ := (HA.out.keep hk3 nb).seven
  have hI3 : In (fun k => (D k ∧ ¬ Z k) ∧ k < W.heap.size) W3 t := HI.out.keep hk3 (fun k hk _ h => hk.1.2 (h.elim (fun h => (HD0.out k h).1) (fun h => h.1)))
  have hD3 : ∀ k, D' k → (Z k ∧ k < W.heap.size) ∨ (W.heap.size ≤ k ∧ k < W3.heap.size) := fun k hk => (hg3 k hk).elim (fun h => .inl (HD0.out k h)) (fun h => .inr h)
  have hok : (⟨t.top.a, t.top.cap, t.kids⟩ : En).Ok (fun k => (D k ∧ ¬ Z k) ∧ k < W.heap.size) W3 := ⟨hI3.len, hI3.room, hI3.fs, fun k hk => hI3.kid hk⟩
  have HOK := Go.Lib.hid hok
  have HD3 := Go.Lib.hid hD3
  have HJ3 := Go.Lib.hid hJ3
  clear hJ3 hk3 hg3 hI3 hD3 hok HR nb HD0 hy hc0 hBlt
  gi_wp2_with fail
  have hg0 : W3.heap.size < (W3.alloc (.cells #[.slice t.top.a t.kids.length t.top.cap] 26)).heap.size := by simp
  have hrow : (W3.alloc (.cells #[.slice t.top.a t.kids.length t.top.cap] 26)).ownsRow W.heap.size 26 1 (.slice (some ⟨W3.heap.size, 0, none⟩) 1 1) 1 ((([⟨t.top.a, t.top.cap, t.kids⟩] : List En).reverse).map En.val) := World.ownsRow_lit W3 #[.slice t.top.a t.kids.length t.top.cap] 1 hz3 (by simp [maxLen]) rfl
  have hst : Stable W.heap.size J := HJ.out
  have hJ4 := hst _ _ _ _ ((Alters.refl W3).alloc (.cells #[.slice t.top.a t.kids.length t.top.cap] 26)) HJ3.out
  have hE0 : EachAt (fun k => (D k ∧ ¬ Z k) ∧ k < W.heap.size) W.heap.size (.slice (some ⟨W3.heap.size, 0, none⟩) 1 1) [⟨t.top.a, t.top.cap, t.kids⟩] (W3.alloc (.cells #[.slice t.top.a t.kids.length t.top.cap] 26)) :=
    ⟨hrow, fun e he => by
      obtain rfl : e = ⟨t.top.a, t.top.cap, t.kids⟩ := by simpa using he
      exact HOK.out.keep (p := fun _ => False) ((Alters.refl _).alloc _) (by simp)⟩
  have HST := Go.Lib.hid hst
  have HE0 := Go.Lib.hid hE0
  have HJ4 := Go.Lib.hid hJ4
  clear hrow hst hJ4 hE0 HOK HJ HJ3 d0 d1 d2 d3 d4 d5 d6 hc3
  generalize W3.alloc _ = W4 at *
  gi_loopg [3] (2 * L.length + 1) (fun k v wr => ∃ (S : List En) (pre : List Vi) (Dj : Nat → Prop), 2 * (rest S).length + S.length ≤ k ∧ k ≤ 2 * L.length + 1 ∧ L = pre ++ rest S ∧ J pre Dj wr ∧ (∀ j, Dj j → (Z j ∧ j < W.heap.size) ∨ (W.heap.size ≤ j ∧ j < wr.heap.size)) ∧ (∀ j, v.ownBlock = some j → ¬ Dj j) ∧ W.heap.size ≤ wr.heap.size ∧ EachAt (fun k => (D k ∧ ¬ Z k) ∧ k < W.heap.size) W.heap.size v S wr)
  case atStart =>
    refine ⟨_, [x], D', ?_, Nat.le_refl _, HL.out, HJ4.out, fun j hj => (HD3.out j hj).imp_right (fun h => ⟨h.1, by omega⟩), fun j e h => ?_, by omega, HE0.out⟩
    · have h1 := congrArg List.length HL.out
      simp at h1
      simp
      omega
    · have e : W3.heap.size = j := by simpa [Value.ownBlock] using e
      subst e
      rcases HD3.out _ h with ⟨-, h2⟩ | h2 <;> omega
  case round =>
    clear HJ4 HE0 HD3
    obtain ⟨S, pre, Dj, hgk, hgl2, hL, hJs, hDj, hvD, hzw, hE⟩ := hrel
    have HS := Go.Lib.hid hL
    have HJs := Go.Lib.hid hJs
    have HDj := Go.Lib.hid hDj
    have HVD := Go.Lib.hid hvD
    clear hL hJs hDj hvD
    cases S with
    | nil =>
      have hfin : L = pre := by rw [HS.out]; simp [rest]
      have HF := Go.Lib.hid (show J L Dj wr by rw [hfin]; exact HJs.out)
      clear hfin
      rcases hE.row.2 with ⟨rfl, -⟩ | ⟨g, cap, cur, rfl, -, -, -, -, -, -⟩
      · gi_wp2
        go_end0
        exact ⟨⟨_, rfl⟩, .inl ⟨_, HF.out⟩⟩
      · gi_wp2
        go_end0
        exact ⟨⟨_, rfl⟩, .inl ⟨_, HF.out⟩⟩
    | cons e S =>
      obtain ⟨g, cap, rfl⟩ := ownsRow_succ (k := S.length) hE.row
      have hsl : S.length ≤ 3000000 := by have := HLEN.out; simp at hgk; omega
      have hcell : wr.cell? ⟨g, S.length, none⟩ = some e.val := by
        rw [hE.row.cellAt S.length (by simp)]
        simp
      have hfz := hE.row.frozenAt S.length
      have hgl := hE.row.lt g rfl
      have hcp : S.length + 1 ≤ cap := row_room hE.row
      have HE := Go.Lib.hid hE
      clear hE
      obtain ⟨ea, ec, ks⟩ := e
      unfold En.val at hcell
      simp only at hcell
      cases ks with
      | nil =>
        gi_wp2
        gi_roundg (2 * (rest S).length + S.length)
        case measure => rw [rest_pop rfl] at hgk; simp at hgk; omega
        case rel => exact ⟨S, pre, Dj, Nat.le_refl _, by rw [rest_pop rfl] at hgk; simp at hgk; omega, by rw [HS.out, rest_pop rfl], HJs.out, HDj.out, fun j e h => HVD.out j e h, hzw, by simpa using HE.out.pop rfl⟩
      | cons k ks =>
        obtain ⟨b2, o2, he2, hDb, hc⟩ := (HE.out.ok _ (List.mem_cons_self ..)).fs (by simp)
        simp only at he2
        subst he2
        have hcap := (HE.out.ok _ (List.mem_cons_self ..)).room
        have hmax := (HE.out.ok _ (List.mem_cons_self ..)).max
        simp only [List.length_cons] at hcap hmax
        unfold maxLen at hmax
        by_cases hec : ec = 1
        · subst hec
          obtain rfl : ks = [] := List.eq_nil_of_length_eq_zero (by omega)
          have hnx : AtP wr b2 o2 k ∧ ((D b2 ∧ ¬ Z b2) ∧ b2 < W.heap.size) ∧ En.Ok (fun k => (D k ∧ ¬ Z k) ∧ k < W.heap.size) wr ⟨k.top.a, k.top.cap, k.kids⟩ ∧ En.Ok (fun k => (D k ∧ ¬ Z k) ∧ k < W.heap.size) wr ⟨some ⟨b2, o2, none⟩, 0, []⟩ := by
            have h1 := En.Ok.next (a2 := some ⟨b2, o2, none⟩) (HE.out.ok _ (List.mem_cons_self ..)) (fun h => absurd rfl h)
            exact h1
          have HN := Go.Lib.hid hnx
          have hst := rest_step (b := b2) (o := o2) (c := 1) (a2 := some ⟨b2, o2, none⟩) (c2 := 0) (k := k) (ks := []) (S := S) (fun h => absurd rfl h)
          have HRS := Go.Lib.hid hst
          clear hnx hst hcap hmax
          gi_wp2_with fail
          have hput := HE.out.put (e' := ⟨some ⟨b2, o2, none⟩, 0, []⟩) rfl (fun k hk => hk.2) HN.out.2.2.2
          have HP := Go.Lib.hid hput
          have hAs : Alters (fun k => W.heap.size ≤ k ∧ ¬ Dj k) wr (wr.setCell ⟨g, S.length, none⟩ (En.val ⟨some ⟨b2, o2, none⟩, 0, []⟩)) := (Alters.refl (p := fun k => W.heap.size ≤ k ∧ ¬ Dj k) wr).set (q := ⟨g, S.length, none⟩) (fun _ => ⟨hgl.1, HVD.out g rfl⟩) _
          have hJ5 := HST.out _ _ _ _ hAs HJs.out
          have hat := HN.out.1.keep hAs (fun h => by have := HN.out.2.1.2; omega)
          have hok5 := HN.out.2.2.1.keep hAs (fun k hk _ h => by have := hk.2; omega)
          have hz5 : wr.heap.size = (wr.setCell ⟨g, S.length, none⟩ (En.val ⟨some ⟨b2, o2, none⟩, 0, []⟩)).heap.size := by simp
          have HJ5 := Go.Lib.hid hJ5
          have HAT := Go.Lib.hid hat
          have HOK5 := Go.Lib.hid hok5
          have HZ5 := Go.Lib.hid hz5
          clear hput hAs hJ5 hat hok5 hz5 HE HJs hcell hfz
          unfold En.val at HJ5 HAT HOK5 HZ5
          have HP2 : Hid (EachAt (fun k => (D k ∧ ¬ Z k) ∧ k < W.heap.size) W.heap.size (.slice (some ⟨g, 0, none⟩) (S.length + 1) cap) (⟨some ⟨b2, o2, none⟩, 0, []⟩ :: S) (wr.setCell ⟨g, S.length, none⟩ (.slice (some ⟨b2, o2, none⟩) 0 0))) := HP.out
          clear HP
          generalize wr.setCell _ _ = w5 at *
          obtain ⟨x5, hx5⟩ : ∃ x5 : Vi, x5 = ⟨⟨b2, o2, none⟩, S.length + 2, k⟩ := ⟨_, rfl⟩
          have hL5 : L = pre ++ x5 :: rest (⟨k.top.a, k.top.cap, k.kids⟩ :: ⟨some ⟨b2, o2, none⟩, 0, []⟩ :: S) := by rw [HS.out, HRS.out, hx5]
          obtain ⟨fn, tmps, assign, body, hy, hR⟩ := HY.out pre x5 _ w5 Dj hL5 HJ5.out (by rw [← HZ5.out]; exact hzw)
          have HR := Go.Lib.hid hR
          have HL5 := Go.Lib.hid hL5
          have HX5 := Go.Lib.hid hx5
          have he : x5.enc = #[.pointer (some ⟨b2, o2, none⟩), .int .i64 ((S.length : Int) + 2)] := by rw [hx5]; simp [Vi.enc]
          rw [he] at hy
          clear he hR hL5 hx5 HJ5
          gi_wp2_with fail
          rw [hy]
          clear hy
          gi_wp2_with fail
          refine HR.out.mono ?_
          rintro e W6 (⟨rfl, D6, hJ6, hk6, hg6⟩ | ⟨rfl, D6, hJx6⟩)
          rotate_left
          · gi_wp2
            refine bodyPost_ret (results_none rfl _ _ _) rfl ?_
            exact ⟨⟨_, rfl⟩, .inr ⟨_, _, _, _, HL5.out, hJx6⟩⟩
          have nd : ∀ j, (D j ∧ ¬ Z j) ∧ j < W.heap.size → ¬ (Dj j ∨ (Z j ∧ j < W.heap.size)) := fun j hj h => by
            rcases h with h | h
            · rcases HDj.out j h with h2 | h2
              · exact hj.1.2 h2.1
              · have := hj.2; omega
            · exact hj.1.2 h.1
          have ng : ¬ (Dj g ∨ (Z g ∧ g < W.heap.size)) := fun h => h.elim (HVD.out g rfl) (fun h => by omega)
          have hE6 := HP2.out.keep hk6 (fun j e => by
            have e : g = j := by simpa [Value.ownBlock] using e
            subst e
            exact ng) nd
          have hok6 := HOK5.out.keep hk6 (fun j hj _ => nd j hj)
          obtain ⟨d0, d1, d2, d3, d4, d5, d6⟩ := (HAT.out.keep hk6 (nd _ HN.out.2.1)).seven
          have hz6 := hk6.size
          have hD6 : ∀ j, D6 j → (Z j ∧ j < W.heap.size) ∨ (W.heap.size ≤ j ∧ j < W6.heap.size) := fun j hj => by
            rcases hg6 j hj with h | h
            · exact (HDj.out j h).imp_right (fun h => ⟨h.1, by have := HZ5.out; omega⟩)
            · exact .inr ⟨by have := HZ5.out; omega, h.2⟩
          have hg6' : ¬ D6 g := fun h => by
            rcases hg6 g h with h | h
            · exact HVD.out g rfl h
            · have := HZ5.out; omega
          have HE6 := Go.Lib.hid hE6
          have HOK6 := Go.Lib.hid hok6
          have HD6 := Go.Lib.hid hD6
          have HG6 := Go.Lib.hid hg6'
          have HJ6 := Go.Lib.hid hJ6
          obtain ⟨i0, hi, hz0, hzz1, hz2⟩ := info_parts info26
          have hzw6 : W.heap.size ≤ W6.heap.size := by have := HZ5.out; omega
          clear hE6 hok6 hD6 hg6' hJ6 hk6 hg6 nd ng hz6 HP2 HOK5 HAT HN HR d0 d1 d2 d3 d4 d5 HDj HVD
          have HEE : Hid (En.val ⟨k.top.a, k.top.cap, k.kids⟩ = .slice k.top.a k.kids.length k.top.cap) := rfl
          gi_wp2_with (gi_at_builtin; refine wpListIn_append_own_at _ rfl (.tmp 49) (.tmp 54) 137 rfl W.heap.size 26 i0 (.slice none 0 0) 1 24 Tryd.underlying137 hi hz0 hzz1 hz2 rfl (by decide) _ _ _ rfl (HE6.out.row.alloc _) ⟨W6.heap.size, 0, none⟩ 1 1 [.slice k.top.a k.kids.length k.top.cap] rfl rfl ?c1 ?c2 ?c3 ?c4 ?c5 ?c6)
          case c1 => intro j u hu; cases j with
            | zero => simp at hu; subst hu; exact (Blk.new W6 #[.slice k.top.a k.kids.length k.top.cap] 26).cell 0 rfl
            | succ j => simp at hu
          case c2 => intro u hu; simp at hu; subst hu; rfl
          case c3 => unfold maxLen; simp; omega
          case c4 => simp; omega
          case c5 => simp; omega
          case c6 =>
            intro v2 w2 hown hgrow _ hat
            have hE7 := HE6.out.push HOK6.out (fun k hk => hk.2) (by simpa [En.val] using hown) hgrow
            have hA7 : Alters (fun j => W.heap.size ≤ j ∧ ¬ D6 j) W6 w2 := ((Alters.refl W6).alloc _).grown hgrow (fun j e _ => by
              have e : g = j := by simpa [Value.ownBlock] using e
              subst e
              exact ⟨hgl.1, HG6.out⟩)
            have hJ7 := HST.out _ _ _ _ hA7 HJ6.out
            have hz7 := hA7.size
            have hd7 : ∀ j, v2.ownBlock = some j → ¬ D6 j := fun j e h => by
              rcases hat with h2 | h2
              · rw [h2] at e
                have e : g = j := by simpa [Value.ownBlock] using e
                subst e
                exact HG6.out h
              · rw [h2] at e
                simp at e
                subst e
                rcases HD6.out _ h with h3 | h3
                · have := h3.2; omega
                · omega
            have HE7 := Go.Lib.hid hE7
            have HJ7 := Go.Lib.hid hJ7
            have HD7 := Go.Lib.hid hd7
            clear hE7 hJ7 hd7 hown hgrow hat hA7
            gi_wp2
            gi_roundg (2 * (rest (⟨k.top.a, k.top.cap, k.kids⟩ :: ⟨some ⟨b2, o2, none⟩, 0, []⟩ :: S)).length + (S.length + 2))
            case measure => rw [HRS.out] at hgk; simp only [List.length_cons] at hgk ⊢; omega
            case rel => exact ⟨⟨k.top.a, k.top.cap, k.kids⟩ :: ⟨some ⟨b2, o2, none⟩, 0, []⟩ :: S, pre ++ [x5], D6, by simp, by rw [HRS.out] at hgk; simp only [List.length_cons] at hgk ⊢; omega, by rw [HL5.out]; simp, HJ7.out, fun j hj => (HD6.out j hj).imp_right (fun h => ⟨h.1, by omega⟩), HD7.out, by omega, HE7.out⟩
        · have hnx : AtP wr b2 o2 k ∧ ((D b2 ∧ ¬ Z b2) ∧ b2 < W.heap.size) ∧ En.Ok (fun k => (D k ∧ ¬ Z k) ∧ k < W.heap.size) wr ⟨k.top.a, k.top.cap, k.kids⟩ ∧ En.Ok (fun k => (D k ∧ ¬ Z k) ∧ k < W.heap.size) wr ⟨some ⟨b2, o2 + 7, none⟩, ec - 1, ks⟩ := by
            have h1 := En.Ok.next (a2 := some ⟨b2, o2 + 7, none⟩) (HE.out.ok _ (List.mem_cons_self ..)) (fun _ => rfl)
            exact h1
          have HN := Go.Lib.hid hnx
          have hst := rest_step (b := b2) (o := o2) (c := ec) (a2 := some ⟨b2, o2 + 7, none⟩) (c2 := ec - 1) (k := k) (ks := ks) (S := S) (fun _ => rfl)
          have HRS := Go.Lib.hid hst
          clear hnx hst hcap hmax
          gi_wp2_with fail
          have hput := HE.out.put (e' := ⟨some ⟨b2, o2 + 7, none⟩, ec - 1, ks⟩) rfl (fun k hk => hk.2) HN.out.2.2.2
          have HP := Go.Lib.hid hput
          have hAs : Alters (fun k => W.heap.size ≤ k ∧ ¬ Dj k) wr (wr.setCell ⟨g, S.length, none⟩ (En.val ⟨some ⟨b2, o2 + 7, none⟩, ec - 1, ks⟩)) := (Alters.refl (p := fun k => W.heap.size ≤ k ∧ ¬ Dj k) wr).set (q := ⟨g, S.length, none⟩) (fun _ => ⟨hgl.1, HVD.out g rfl⟩) _
          have hJ5 := HST.out _ _ _ _ hAs HJs.out
          have hat := HN.out.1.keep hAs (fun h => by have := HN.out.2.1.2; omega)
          have hok5 := HN.out.2.2.1.keep hAs (fun k hk _ h => by have := hk.2; omega)
          have hz5 : wr.heap.size = (wr.setCell ⟨g, S.length, none⟩ (En.val ⟨some ⟨b2, o2 + 7, none⟩, ec - 1, ks⟩)).heap.size := by simp
          have HJ5 := Go.Lib.hid hJ5
          have HAT := Go.Lib.hid hat
          have HOK5 := Go.Lib.hid hok5
          have HZ5 := Go.Lib.hid hz5
          clear hput hAs hJ5 hat hok5 hz5 HE HJs hcell hfz
          unfold En.val at HJ5 HAT HOK5 HZ5
          have HP2 : Hid (EachAt (fun k => (D k ∧ ¬ Z k) ∧ k < W.heap.size) W.heap.size (.slice (some ⟨g, 0, none⟩) (S.length + 1) cap) (⟨some ⟨b2, o2 + 7, none⟩, ec - 1, ks⟩ :: S) (wr.setCell ⟨g, S.length, none⟩ (.slice (some ⟨b2, o2 + 7, none⟩) ks.length (ec - 1)))) := HP.out
          clear HP
          generalize wr.setCell _ _ = w5 at *
          obtain ⟨x5, hx5⟩ : ∃ x5 : Vi, x5 = ⟨⟨b2, o2, none⟩, S.length + 2, k⟩ := ⟨_, rfl⟩
          have hL5 : L = pre ++ x5 :: rest (⟨k.top.a, k.top.cap, k.kids⟩ :: ⟨some ⟨b2, o2 + 7, none⟩, ec - 1, ks⟩ :: S) := by rw [HS.out, HRS.out, hx5]
          obtain ⟨fn, tmps, assign, body, hy, hR⟩ := HY.out pre x5 _ w5 Dj hL5 HJ5.out (by rw [← HZ5.out]; exact hzw)
          have HR := Go.Lib.hid hR
          have HL5 := Go.Lib.hid hL5
          have HX5 := Go.Lib.hid hx5
          have he : x5.enc = #[.pointer (some ⟨b2, o2, none⟩), .int .i64 ((S.length : Int) + 2)] := by rw [hx5]; simp [Vi.enc]
          rw [he] at hy
          clear he hR hL5 hx5 HJ5
          gi_wp2_with fail
          rw [hy]
          clear hy
          gi_wp2_with fail
          refine HR.out.mono ?_
          rintro e W6 (⟨rfl, D6, hJ6, hk6, hg6⟩ | ⟨rfl, D6, hJx6⟩)
          rotate_left
          · gi_wp2
            refine bodyPost_ret (results_none rfl _ _ _) rfl ?_
            exact ⟨⟨_, rfl⟩, .inr ⟨_, _, _, _, HL5.out, hJx6⟩⟩
          have nd : ∀ j, (D j ∧ ¬ Z j) ∧ j < W.heap.size → ¬ (Dj j ∨ (Z j ∧ j < W.heap.size)) := fun j hj h => by
            rcases h with h | h
            · rcases HDj.out j h with h2 | h2
              · exact hj.1.2 h2.1
              · have := hj.2; omega
            · exact hj.1.2 h.1
          have ng : ¬ (Dj g ∨ (Z g ∧ g < W.heap.size)) := fun h => h.elim (HVD.out g rfl) (fun h => by omega)
          have hE6 := HP2.out.keep hk6 (fun j e => by
            have e : g = j := by simpa [Value.ownBlock] using e
            subst e
            exact ng) nd
          have hok6 := HOK5.out.keep hk6 (fun j hj _ => nd j hj)
          obtain ⟨d0, d1, d2, d3, d4, d5, d6⟩ := (HAT.out.keep hk6 (nd _ HN.out.2.1)).seven
          have hz6 := hk6.size
          have hD6 : ∀ j, D6 j → (Z j ∧ j < W.heap.size) ∨ (W.heap.size ≤ j ∧ j < W6.heap.size) := fun j hj => by
            rcases hg6 j hj with h | h
            · exact (HDj.out j h).imp_right (fun h => ⟨h.1, by have := HZ5.out; omega⟩)
            · exact .inr ⟨by have := HZ5.out; omega, h.2⟩
          have hg6' : ¬ D6 g := fun h => by
            rcases hg6 g h with h | h
            · exact HVD.out g rfl h
            · have := HZ5.out; omega
          have HE6 := Go.Lib.hid hE6
          have HOK6 := Go.Lib.hid hok6
          have HD6 := Go.Lib.hid hD6
          have HG6 := Go.Lib.hid hg6'
          have HJ6 := Go.Lib.hid hJ6
          obtain ⟨i0, hi, hz0, hzz1, hz2⟩ := info_parts info26
          have hzw6 : W.heap.size ≤ W6.heap.size := by have := HZ5.out; omega
          clear hE6 hok6 hD6 hg6' hJ6 hk6 hg6 nd ng hz6 HP2 HOK5 HAT HN HR d0 d1 d2 d3 d4 d5 HDj HVD
          have HEE : Hid (En.val ⟨k.top.a, k.top.cap, k.kids⟩ = .slice k.top.a k.kids.length k.top.cap) := rfl
          gi_wp2_with (gi_at_builtin; refine wpListIn_append_own_at _ rfl (.tmp 49) (.tmp 54) 137 rfl W.heap.size 26 i0 (.slice none 0 0) 1 24 Tryd.underlying137 hi hz0 hzz1 hz2 rfl (by decide) _ _ _ rfl (HE6.out.row.alloc _) ⟨W6.heap.size, 0, none⟩ 1 1 [.slice k.top.a k.kids.length k.top.cap] rfl rfl ?c1 ?c2 ?c3 ?c4 ?c5 ?c6)
          case c1 => intro j u hu; cases j with
            | zero => simp at hu; subst hu; exact (Blk.new W6 #[.slice k.top.a k.kids.length k.top.cap] 26).cell 0 rfl
            | succ j => simp at hu
          case c2 => intro u hu; simp at hu; subst hu; rfl
          case c3 => unfold maxLen; simp; omega
          case c4 => simp; omega
          case c5 => simp; omega
          case c6 =>
            intro v2 w2 hown hgrow _ hat
            have hE7 := HE6.out.push HOK6.out (fun k hk => hk.2) (by simpa [En.val] using hown) hgrow
            have hA7 : Alters (fun j => W.heap.size ≤ j ∧ ¬ D6 j) W6 w2 := ((Alters.refl W6).alloc _).grown hgrow (fun j e _ => by
              have e : g = j := by simpa [Value.ownBlock] using e
              subst e
              exact ⟨hgl.1, HG6.out⟩)
            have hJ7 := HST.out _ _ _ _ hA7 HJ6.out
            have hz7 := hA7.size
            have hd7 : ∀ j, v2.ownBlock = some j → ¬ D6 j := fun j e h => by
              rcases hat with h2 | h2
              · rw [h2] at e
                have e : g = j := by simpa [Value.ownBlock] using e
                subst e
                exact HG6.out h
              · rw [h2] at e
                simp at e
                subst e
                rcases HD6.out _ h with h3 | h3
                · have := h3.2; omega
                · omega
            have HE7 := Go.Lib.hid hE7
            have HJ7 := Go.Lib.hid hJ7
            have HD7 := Go.Lib.hid hd7
            clear hE7 hJ7 hd7 hown hgrow hat hA7
            gi_wp2
            gi_roundg (2 * (rest (⟨k.top.a, k.top.cap, k.kids⟩ :: ⟨some ⟨b2, o2 + 7, none⟩, ec - 1, ks⟩ :: S)).length + (S.length + 2))
            case measure => rw [HRS.out] at hgk; simp only [List.length_cons] at hgk ⊢; omega
            case rel => exact ⟨⟨k.top.a, k.top.cap, k.kids⟩ :: ⟨some ⟨b2, o2 + 7, none⟩, ec - 1, ks⟩ :: S, pre ++ [x5], D6, by simp, by rw [HRS.out] at hgk; simp only [List.length_cons] at hgk ⊢; omega, by rw [HL5.out]; simp, HJ7.out, fun j hj => (HD6.out j hj).imp_right (fun h => ⟨h.1, by omega⟩), HD7.out, by omega, HE7.out⟩
end Go.Proofs.YtnpcakakjhiboaaDoor

namespace Go.Proofs.YtnpcakakjhiboaaDoor
open Go.RowKit Go.Lo Go.WideShapes
attribute [local go_sem] Oper.semAt_some

theorem Shapes.keep {p : Nat → Prop} {w w' : World} (h : Shapes w) (hA : Alters p w w') (hp : ¬ p 0) : Shapes w' := fun k h1 h2 => hA.cell (h k h1 h2) hp

theorem Shapes.lt {w : World} (h : Shapes w) : 0 < w.heap.size := block_lt_of_cell (h 1 (by omega) (by omega))

/-- What stands where formula.Sound goes round: the formula, its box, the result. -/
structure SoundAt (D : Nat → Prop) (w : World) (t : Ft) (r : Bool) (W : World) : Prop where
  box : AtP W w.heap.size 0 t
  inn : In D W t
  res : Blk W (w.heap.size + 1) #[.bool r] 4
  shapes : Shapes W
  quiet : Quiet w W

theorem SoundAt.keep {D p : Nat → Prop} {w : World} {t : Ft} {r : Bool} {W W' : World} (h : SoundAt D w t r W) (hA : Alters p W W') (hD : ∀ k, D k → k < w.heap.size) (hp : ∀ k, k ≤ w.heap.size + 1 → ¬ p k) : SoundAt D w t r W' :=
  ⟨h.box.keep hA (hp _ (by omega)), h.inn.keep hA (fun k hk _ => hp k (by have := hD k hk; omega)), hA.blk h.res (hp _ (by omega)), h.shapes.keep hA (hp 0 (by omega)), h.quiet.then hA (fun i hi hpi => absurd hpi (hp i (by omega)))⟩

theorem boxed_at {w : World} {b : Nat} {ty : TypeId} {t : Ft} (h : Blk w b (Ft.cells t).toArray ty) : AtP w b 0 t := fun j u hu => by
  rw [Nat.zero_add]
  exact h.cell j (by simpa using hu)

theorem sound_iff (t : Ft) (A : Addr) (d : Nat) : sound t.pl ↔ ∀ v, v ∈ vis A d t → wrong v.t.pl = 0 := by
  have e : t.pl.pre = (vis A d t).map (fun v => Ft.pl v.t) := by
    show (Tr.map Hd.n t).pre = _
    rw [Tr.map_pre, ← vis_pre t A d, List.map_map]
    rfl
  unfold sound
  rw [e]
  simp

set_option maxRecDepth 100000 in
set_option maxHeartbeats 2000000 in
theorem sound_walk (D : Nat → Prop) (t : Ft) (w : World) (hin : In D w t) (hS : Shapes w) (hsz : t.size ≤ 1000000) : Calls Tryd.prog 31 #[t.val] w (Said (.bool (decide (first t.pl = 0))) w) := by
  have hin1 : In (fun k => k < w.heap.size) w t := hin.mono (fun k hk _ => hk)
  obtain ⟨⟨⟨op, nm, cmp, val, lo, hi⟩, a, cap⟩, ks⟩ := t
  unfold Ft.val
  simp only [Tr.top, Tr.kids]
  refine (callsIn_wide (n := 9)).1 ?_
  refine callsIn_of_wp_marks Tryd.func31 rfl trivial ?_ rfl
  simp only [Tryd.ntmps31, List.size_toArray, List.length_cons, List.length_nil, Nat.reduceAdd, Nat.reduceSub, Array.replicate_succ, Array.replicate_zero, List.push_toArray, List.append_toArray, List.nil_append, List.cons_append]
  gi_wp2_with fail
  refine ⟨trivial, (callsIn_wide.2 (each_walk _ _)).mono ?_⟩
  rintro e w1 ⟨rfl, rfl⟩
  gi_wp2_with fail
  have hb0 : Blk (((w.alloc (.cells #[.int .i64 op, .string nm, .int .i64 cmp, .int .i64 val, .int .i64 lo, .int .i64 hi, .slice a ks.length cap] 28)).alloc (.cells #[.bool false] 4)).alloc (.cells #[.pointer (some ⟨w.heap.size, 0, none⟩)] 89)) w.heap.size (Ft.cells (.nd ⟨⟨op, nm, cmp, val, lo, hi⟩, a, cap⟩ ks)).toArray 28 := ((Blk.new _ _ _).alloc _).alloc _
  have hb1 : Blk (((w.alloc (.cells #[.int .i64 op, .string nm, .int .i64 cmp, .int .i64 val, .int .i64 lo, .int .i64 hi, .slice a ks.length cap] 28)).alloc (.cells #[.bool false] 4)).alloc (.cells #[.pointer (some ⟨w.heap.size, 0, none⟩)] 89)) (w.heap.size + 1) #[.bool false] 4 := (alloc2 _ _ _ _).alloc _
  have hb2 : Blk (((w.alloc (.cells #[.int .i64 op, .string nm, .int .i64 cmp, .int .i64 val, .int .i64 lo, .int .i64 hi, .slice a ks.length cap] 28)).alloc (.cells #[.bool false] 4)).alloc (.cells #[.pointer (some ⟨w.heap.size, 0, none⟩)] 89)) (w.heap.size + 1 + 1) #[.pointer (some ⟨w.heap.size, 0, none⟩)] 89 := alloc3 _ _ _ _ _
  have hq : Quiet w (((w.alloc (.cells #[.int .i64 op, .string nm, .int .i64 cmp, .int .i64 val, .int .i64 lo, .int .i64 hi, .slice a ks.length cap] 28)).alloc (.cells #[.bool false] 4)).alloc (.cells #[.pointer (some ⟨w.heap.size, 0, none⟩)] 89)) := (((Alters.refl _).alloc _).alloc _).alloc _
  have hz : (((w.alloc (.cells #[.int .i64 op, .string nm, .int .i64 cmp, .int .i64 val, .int .i64 lo, .int .i64 hi, .slice a ks.length cap] 28)).alloc (.cells #[.bool false] 4)).alloc (.cells #[.pointer (some ⟨w.heap.size, 0, none⟩)] 89)).heap.size = w.heap.size + 3 := by simp
  generalize ((w.alloc _).alloc _).alloc _ = w0 at *
  have hT : SoundAt (fun k => k < w.heap.size) w (.nd ⟨⟨op, nm, cmp, val, lo, hi⟩, a, cap⟩ ks) false w0 := ⟨boxed_at hb0, hin1.quiet hq, hb1, hS.keep hq (by simp), hq⟩
  have hseq := each1_seq (fun k => k ≤ w.heap.size) (fun k => k = w.heap.size + 1 ∨ w.heap.size + 3 ≤ k) (w.heap.size + 1 + 1) w.heap.size 0 (.nd ⟨⟨op, nm, cmp, val, lo, hi⟩, a, cap⟩ ks) w0 (hb2.cell 0 rfl) (by omega) (fun k hk => by omega) hT.box (Nat.le_refl _) (hT.inn.mono (fun k _ hk => Nat.le_of_lt hk)) hsz
  have hsi := sound_iff (.nd ⟨⟨op, nm, cmp, val, lo, hi⟩, a, cap⟩ ks) ⟨w.heap.size, 0, none⟩ 1
  have hva : ∀ W : World, SoundAt (fun k => k < w.heap.size) w (.nd ⟨⟨op, nm, cmp, val, lo, hi⟩, a, cap⟩ ks) false W → ∀ v, v ∈ vis ⟨w.heap.size, 0, none⟩ 1 (.nd ⟨⟨op, nm, cmp, val, lo, hi⟩, a, cap⟩ ks) → ∃ b o, v.ad = ⟨b, o, none⟩ ∧ AtP W b o v.t := fun W hW v hv => by
    obtain ⟨b, o, h1, -, h3, -⟩ := vis_at (D := fun k => k ≤ w.heap.size) _ w.heap.size 0 1 hW.box (Nat.le_refl _) (hW.inn.mono (fun k _ hk => Nat.le_of_lt hk)) v hv
    exact ⟨b, o, h1, h3⟩
  generalize vis ⟨w.heap.size, 0, none⟩ 1 (.nd ⟨⟨op, nm, cmp, val, lo, hi⟩, a, cap⟩ ks) = L at *
  generalize htt : (Tr.nd ⟨⟨op, nm, cmp, val, lo, hi⟩, a, cap⟩ ks : Ft) = tt at *
  have HZ := Go.Lib.hid hz
  have HSI := Go.Lib.hid hsi
  have HVA := Go.Lib.hid hva
  have HT := Go.Lib.hid hT
  have HSEQ := Go.Lib.hid hseq
  clear hb0 hb1 hb2 hq hz hT hseq hsi hva hS hin hin1 htt hsz
  refine wpIn_rangeC rfl (by omega) (gf := 110) (lb := #[.pointer (some ⟨w.heap.size + 1 + 1, 0, none⟩)]) rfl trivial (enters_of Tryd.func110 (by kernel_rfl) rfl) (Z := fun k => k = w.heap.size + 1 ∨ w.heap.size + 3 ≤ k) (by rw [HZ.out]; intro k hk; exact .inr hk) HSEQ.out (fun _ => rfl)
    (fun pre D W => SoundAt (fun k => k < w.heap.size) w tt false W ∧ (∀ v, v ∈ pre → wrong v.t.pl = 0)) (fun c pre D W => c = .ret ∧ SoundAt (fun k => k < w.heap.size) w tt false W ∧ ∃ v, v ∈ pre ∧ wrong v.t.pl ≠ 0) (fun _ => False) (by simp)
    (fun s D A B hA hs => ⟨hs.1.keep hA (fun k hk => hk) (fun k hk h => by have := HZ.out; omega), hs.2⟩) (fun c s D A B hA hs => ⟨hs.1, hs.2.1.keep hA (fun k hk => hk) (fun k hk h => by have := HZ.out; omega), hs.2.2⟩) ⟨HT.out, by simp⟩
    (fun x a' _ => a' = { tmps := #[.agg #[.int .i64 op, .string nm, .int .i64 cmp, .int .i64 val, .int .i64 lo, .int .i64 hi, .slice a ks.length cap], .pointer (some ⟨w.heap.size, 0, none⟩), .pointer (some ⟨w.heap.size + 1, 0, none⟩), .pointer (some x.ad), .func (.func 110) #[] #[.pointer (some ⟨w.heap.size + 1 + 1, 0, none⟩)], .pointer (some x.ad), .int .i64 x.dp, undef, undef, undef], defers := [] })
    ?assign ?ax ?body ?done ?stop
  case assign =>
    intro l pre x rest D W K hL hI hlt hK
    unfold Vi.enc
    gi_wp2
    exact hK _ _ (Alters.refl _) rfl
  case ax =>
    intro x a' W W' l _ _ _ h
    exact h
  case body =>
    rintro l pre x rest a' D W hL hlt ⟨hA, hpre⟩ rfl hD
    obtain ⟨b, o, hxe, hat⟩ := HVA.out W hA x (by rw [hL]; simp)
    have HW := Go.Lib.hid (wrong9_walk x.t b o W hat hA.shapes)
    have HA := Go.Lib.hid hA
    have HP := Go.Lib.hid hpre
    have HD := Go.Lib.hid hD
    have HL := Go.Lib.hid hL
    rw [hxe]
    clear hxe hat hA hpre hD hL
    gi_wp2_with fail
    refine ⟨trivial, (callsIn_wide.2 HW.out).mono ?_⟩
    rintro e w2 ⟨rfl, hq2⟩
    have hA2 := HA.out.keep hq2 (fun k hk => hk) (by simp)
    have HQ2 := Go.Lib.hid hq2
    have c1 := hA2.res.cell 0 rfl
    have f1 := hA2.res.free 0
    have HA2 := Go.Lib.hid hA2
    generalize hz : wrong x.t.pl = z
    have HZZ := Go.Lib.hid hz
    clear hA2 hq2 hz
    by_cases h0 : z = 0
    · have b1 : (z == 0) = true := by simpa using h0
      have b2 : (z != 0) = false := by simpa using h0
      have HZ0 := Go.Lib.hid (HZZ.out.trans h0)
      clear h0
      gi_wp2
      exact ⟨HQ2.out.to, fun _ => False, fun k h => h.elim, HA2.out, fun v hv => by
        rcases List.mem_append.1 hv with h | h
        · exact HP.out v h
        · obtain rfl : v = x := by simpa using h
          exact HZ0.out⟩
    · have b1 : (z == 0) = false := by simpa using h0
      have b2 : (z != 0) = true := by simpa using h0
      have HZ0 := Go.Lib.hid (show wrong x.t.pl ≠ 0 by rw [HZZ.out]; exact h0)
      clear h0
      gi_wp2
      have hs : Alters (fun k => k = w.heap.size + 1) w2 (w2.setCell ⟨w.heap.size + 1, 0, none⟩ (.bool false)) := (Alters.refl (p := fun k => k = w.heap.size + 1) w2).set (q := ⟨w.heap.size + 1, 0, none⟩) (fun _ => rfl) _
      refine ⟨(HQ2.out.to (p := fun k => D k ∨ ((k = w.heap.size + 1 ∨ w.heap.size + 3 ≤ k) ∧ k < w0.heap.size))).trans (hs.mono (fun k _ e => .inr ⟨.inl e, by rw [HZ.out]; omega⟩)), fun _ => False, fun k h => h.elim, rfl, ?_, x, by simp, HZ0.out⟩
      exact ⟨HA2.out.box.keep hs (by omega), HA2.out.inn.keep hs (fun k hk _ e => by omega), HA2.out.res.set 0 _, HA2.out.shapes.keep hs (by omega), HA2.out.quiet.then hs (fun i hi e => by omega)⟩
  case done =>
    rintro d D W hd ⟨hA, hpre⟩ hDd hdef
    have c1 := hA.res.cell 0 rfl
    have f1 := hA.res.free 0
    have HA := Go.Lib.hid hA
    have HP := Go.Lib.hid hpre
    clear hA hpre
    gi_wp2
    have hs : Alters (fun k => k = w.heap.size + 1) W (W.setCell ⟨w.heap.size + 1, 0, none⟩ (.bool true)) := (Alters.refl (p := fun k => k = w.heap.size + 1) W).set (q := ⟨w.heap.size + 1, 0, none⟩) (fun _ => rfl) _
    have hdef2 : (W.setCell ⟨w.heap.size + 1, 0, none⟩ (.bool true)).heap[d]? = some (.deferred (some [])) := (Below.heap_setCell _ _ _ _ (by have := HZ.out; simp; omega)).trans hdef
    refine ⟨by simp, .inl ⟨_, _, rfl, run_takeDeferred hdef2, ?_⟩⟩
    have hA3 : Alters (fun k => k = d) (W.setCell ⟨w.heap.size + 1, 0, none⟩ (.bool true)) ((W.setCell ⟨w.heap.size + 1, 0, none⟩ (.bool true)).putObj d (.deferred none)) := alters_putObj _ _ _ rfl
    have hb := hA3.blk (HA.out.res.set 0 (.bool true)) (by have := HZ.out; omega)
    have c9 := hb.cell 0 rfl
    have hf : first (Ft.pl tt) = 0 := (first_zero _).2 (HSI.out.2 HP.out)
    have hqq := (HA.out.quiet.then hs (fun i hi e => by omega)).then hA3 (fun i hi e => by have := HZ.out; omega)
    generalize (W.setCell _ _).putObj d _ = W9 at *
    refine ⟨.bool true, by simp [results, Tryd.results31, go_sem, c9], by rw [hf]; rfl, hqq⟩
  case stop =>
    rintro d c pre x rest D W hd hL ⟨rfl, hA, hbad⟩ hDd hdef
    have c1 := hA.res.cell 0 rfl
    have HA := Go.Lib.hid hA
    have HL := Go.Lib.hid hL
    have HB := Go.Lib.hid hbad
    clear hA hL hbad
    gi_wp2
    refine ⟨by simp, .inl ⟨_, _, rfl, run_takeDeferred hdef, ?_⟩⟩
    have hA3 : Alters (fun k => k = d) W (W.putObj d (.deferred none)) := alters_putObj _ _ _ rfl
    have hb := hA3.blk HA.out.res (by have := HZ.out; omega)
    have c9 := hb.cell 0 rfl
    obtain ⟨v, hv, hv0⟩ := HB.out
    have hf : first (Ft.pl tt) ≠ 0 := fun h => hv0 (HSI.out.1 ((first_zero _).1 h) v (by
      rw [HL.out, show pre ++ x :: rest = (pre ++ [x]) ++ rest by simp]
      exact List.mem_append_left _ hv))
    have hqq := HA.out.quiet.then hA3 (fun i hi e => by have := HZ.out; omega)
    generalize W.putObj d _ = W9 at *
    refine ⟨.bool false, by simp [results, Tryd.results31, go_sem, c9], by simp [hf], hqq⟩
end Go.Proofs.YtnpcakakjhiboaaDoor
