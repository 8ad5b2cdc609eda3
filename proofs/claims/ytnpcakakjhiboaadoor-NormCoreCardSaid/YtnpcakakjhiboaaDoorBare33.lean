/- The law's bare (33), of what was made: it says true. No condition. -/
import Derived.Test.YtnpcakakjhiboaaDoorLawAt
import Derived.Test.YtnpcakakjhiboaaDoorNfP
import Derived.Test.YtnpcakakjhiboaaDoorLeft
namespace Go.Proofs.YtnpcakakjhiboaaDoor
open Go.RowKit Go.Lo Go.WideShapes

/-- What a kid of a node that may stay is not. -/
theorem bare_kid {x : Nd} {ks : List Fm} (h : Nf (.nd x ks)) (k : Nat) (hk : k < ks.length) :
    ks[k].top.op ≠ 2 ∧ ks[k].top.op ≠ 6 ∧ ks[k].top.op ≠ 7 ∧ ks[k].top.op ≠ 10 ∧ ks[k].top.op ≠ 12 ∧ (ks[k].top.op = 4 → x.op ≠ 4) ∧ (ks[k].top.op = 1 → k + 1 = ks.length ∧ (x.op = 9 ∨ x.op = 11) ∧ 0 < x.lo) := by
  have hop := (h.kid (k := ks[k]) (by simp)).ops
  obtain ⟨hw, ho⟩ := h.own
  have hsp := wrong_span hw
  rcases ks with _ | ⟨a, _ | ⟨b, _ | ⟨c, r⟩⟩⟩
  · simp at hk
  · obtain rfl : k = 0 := by simpa using hk
    simp only [okNode] at ho
    simp only [List.getElem_cons_zero] at hop ⊢
    refine ⟨by omega, by omega, by omega, by omega, by omega, fun e => by omega, fun e => ⟨by simp, by omega, ?_⟩⟩
    have := hsp (by omega)
    omega
  · simp only [okNode] at ho
    have : k = 0 ∨ k = 1 := by simp at hk; omega
    rcases this with rfl | rfl
    · simp only [List.getElem_cons_zero, List.length_cons, List.length_nil] at hop ⊢
      refine ⟨by omega, by omega, by omega, by omega, by omega, fun e => by omega, fun e => ⟨by omega, by omega, by omega⟩⟩
    · simp only [List.getElem_cons_succ, List.getElem_cons_zero, List.length_cons, List.length_nil] at hop ⊢
      refine ⟨by omega, by omega, by omega, by omega, by omega, fun e => by omega, fun e => ⟨by simp, by omega, ?_⟩⟩
      have := hsp (by omega)
      omega
  · exact absurd ho (by simp [okNode])

set_option maxRecDepth 100000 in
set_option maxHeartbeats 4000000 in
theorem bare_any (t : Ft) : ∀ (w : World), In AllD w t → Nf (Ft.pl t) → Calls Tryd.prog 33 #[t.val] w (Said (.bool true) w) := by
  induction t using Tr.ind with
  | h x ks ih =>
    intro w hin hnf
    obtain ⟨⟨op, nm, cmp, val, lo, hi⟩, a, cap⟩ := x
    have hl := hin.len
    have HI := Go.Lib.hid hin
    have HIH := Go.Lib.hid ih
    rw [pl_nd] at hnf
    have HN := Go.Lib.hid hnf
    unfold maxLen at hl
    clear hin ih hnf
    simp only [Tr.kids] at hl
    unfold Ft.val
    simp only [Tr.top, Tr.kids]
    go_enter Tryd.func33, Tryd.ntmps33
    have hB := Blk.new w #[.int .i64 op, .string nm, .int .i64 cmp, .int .i64 val, .int .i64 lo, .int .i64 hi, .slice a ks.length cap] 28
    have hq : Quiet w (w.alloc (.cells #[.int .i64 op, .string nm, .int .i64 cmp, .int .i64 val, .int .i64 lo, .int .i64 hi, .slice a ks.length cap] 28)) := (Alters.refl _).alloc _
    go_wp2
    generalize w.alloc _ = w1 at *
    go_loopw [3] (fun i wr => ∃ (k : Nat), k ≤ ks.length ∧ i = .int .i64 k ∧ Quiet w1 wr) (fun i _ => ks.length - (intOf i).toNat)
    case atStart => exact ⟨0, Nat.zero_le _, rfl, Alters.refl _⟩
    case round =>
      obtain ⟨k, hk, rfl, hQ⟩ := hrel
      have HQ := Go.Lib.hid hQ
      have c0 : wr.cell? ⟨w.heap.size, 0, none⟩ = some (.int .i64 op) := hQ.cell (hB.cell 0 rfl) (by simp)
      have c4 : wr.cell? ⟨w.heap.size, 4, none⟩ = some (.int .i64 lo) := hQ.cell (hB.cell 4 rfl) (by simp)
      have c6 : wr.cell? ⟨w.heap.size, 6, none⟩ = some (.slice a ks.length cap) := hQ.cell (hB.cell 6 rfl) (by simp)
      clear hQ
      by_cases hlt : k < ks.length
      · have hne : ks ≠ [] := fun h => by subst h; simp at hlt
        obtain ⟨b, o, rfl, hD, hc⟩ := HI.out.fs hne
        obtain ⟨d0, d1, d2, d3, d4, d5, d6⟩ := (((hc k ks[k] (by simp [Tr.kids, hlt])).keep hq (by simp)).keep HQ.out (by simp)).seven
        have hbk := bare_kid HN.out k (by simpa using hlt)
        simp only [List.getElem_map, pl_op2, List.length_map] at hbk
        have HK := Go.Lib.hid (HIH.out ks[k] (by simp) wr (((HI.out.kid (k := ks[k]) (by simp [Tr.kids])).quiet hq).quiet HQ.out) (HN.out.kid (List.mem_map_of_mem (by simp))))
        clear hc hD
        unfold Ft.val at HK
        generalize ks[k] = kk at *
        obtain ⟨n2, n6, n7, n10, n12, n4, n1⟩ := hbk
        have b2 : (kk.top.n.op == 2) = false := by simpa using n2
        have b6 : (kk.top.n.op == 6) = false := by simpa using n6
        have b7 : (kk.top.n.op == 7) = false := by simpa using n7
        have b10 : (kk.top.n.op == 10) = false := by simpa using n10
        have b12 : (kk.top.n.op == 12) = false := by simpa using n12
        have H1 := Go.Lib.hid n1
        have H4 := Go.Lib.hid n4
        clear n2 n6 n7 n10 n12 n1 n4
        go_upto_region 5 with (fail)
        go_cut [5] (fun l wx => ∃ L : Bool, l = .bool L ∧ (kk.top.n.op = 1 → L = true) ∧ wx = wr)
        case first =>
          by_cases e1 : kk.top.n.op = 1
          · obtain ⟨q1, q2, q3⟩ := H1.out e1
            have q4 : ((k : Int) == (ks.length : Int) - 1) = true := by simp; omega
            have q5 : decide (0 < lo) = true := by simpa using q3
            clear q1 q3 H4 e1
            rcases q2 with rfl | rfl
            · go_wp2_with fail
              go_meet
              exact ⟨_, rfl, fun _ => rfl, rfl⟩
            · go_wp2_with fail
              go_meet
              exact ⟨_, rfl, fun _ => rfl, rfl⟩
          · have E1 := Go.Lib.hid e1
            clear e1
            cases q4 : ((k : Int) == (ks.length : Int) - 1)
            · go_wp2_with fail
              go_meet
              exact ⟨_, rfl, fun e => absurd e E1.out, rfl⟩
            · cases q9 : (op == 9)
              · cases q11 : (op == 11)
                · go_wp2_with fail
                  go_meet
                  exact ⟨_, rfl, fun e => absurd e E1.out, rfl⟩
                · go_wp2_with fail
                  go_meet
                  exact ⟨_, rfl, fun e => absurd e E1.out, rfl⟩
              · go_wp2_with fail
                go_meet
                exact ⟨_, rfl, fun e => absurd e E1.out, rfl⟩
        case rest =>
          obtain ⟨L, rfl, hL, rfl⟩ := hcut
          by_cases e1 : kk.top.n.op = 1
          · obtain rfl := hL e1
            have b1 : (kk.top.n.op == 1) = true := by simpa using e1
            have b4 : (kk.top.n.op == 4) = false := by simp [e1]
            clear e1 hL H1 H4
            go_wp2_with fail
            refine HK.out.mono ?_
            rintro e w3 ⟨rfl, hq3⟩
            have HQ3 := Go.Lib.hid (HQ.out.trans hq3)
            clear d0 d1 d2 d3 d4 d5 d6 c0 c4 c6 hq3
            go_wp2
            go_roundw
            case rel => exact ⟨k + 1, by omega, by go_num, HQ3.out⟩
            case measure => simp [intOf]; omega
          · have b1 : (kk.top.n.op == 1) = false := by simpa using e1
            clear e1 hL
            by_cases e4 : kk.top.n.op = 4
            · have b4 : (kk.top.n.op == 4) = true := by simpa using e4
              have b9 : (op == 4) = false := by simpa using H4.out e4
              clear e4 H1 H4
              go_wp2_with fail
              refine HK.out.mono ?_
              rintro e w3 ⟨rfl, hq3⟩
              have HQ3 := Go.Lib.hid (HQ.out.trans hq3)
              clear d0 d1 d2 d3 d4 d5 d6 c0 c4 c6 hq3
              go_wp2
              go_roundw
              case rel => exact ⟨k + 1, by omega, by go_num, HQ3.out⟩
              case measure => simp [intOf]; omega
            · have b4 : (kk.top.n.op == 4) = false := by simpa using e4
              clear e4 H1 H4
              go_wp2_with fail
              refine HK.out.mono ?_
              rintro e w3 ⟨rfl, hq3⟩
              have HQ3 := Go.Lib.hid (HQ.out.trans hq3)
              clear d0 d1 d2 d3 d4 d5 d6 c0 c4 c6 hq3
              go_wp2
              go_roundw
              case rel => exact ⟨k + 1, by omega, by go_num, HQ3.out⟩
              case measure => simp [intOf]; omega
      · obtain rfl : k = ks.length := by omega
        go_wp2
        go_ret
        exact ⟨rfl, hq.trans HQ.out⟩
end Go.Proofs.YtnpcakakjhiboaaDoor
