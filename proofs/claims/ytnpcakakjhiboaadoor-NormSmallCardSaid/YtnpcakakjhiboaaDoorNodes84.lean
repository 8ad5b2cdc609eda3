/- formula.Nodes (84) and its iterator (129). No condition. -/
import Derived.Test.YtnpcakakjhiboaaDoorRangeN
import Derived.Test.YtnpcakakjhiboaaDoorEach
import Derived.Shelf.RegionOpen
namespace Go.Proofs.YtnpcakakjhiboaaDoor
open Go Go.RowKit Go.Lo Go.WideShapes
attribute [local go_sem] Oper.semAt_some

theorem nodes84_walk (t : Ft) (w : World) : Calls Tryd.prog 84 #[t.val] w fun e w' => e = .returned (.func (.func 129) #[] #[.pointer (some ⟨w.heap.size, 0, none⟩)]) ∧ w' = w.alloc (.cells (Ft.cells t).toArray 28) := by
  obtain ⟨⟨⟨op, nm, cmp, val, lo, hi⟩, a, cap⟩, ks⟩ := t
  unfold Ft.val
  simp only [Tr.top, Tr.kids]
  go_enter Tryd.func84, Tryd.ntmps84
  go_wp2
  go_ret
  exact ⟨rfl, rfl⟩

theorem RoundIn.wide {n m : Nat} {P : Program} {l l' : Nat} {f : FuncId} {tmps : Array Value} {assign body : Code} {w : World} {R : Ending → World → Prop} (h : RoundIn Fence.wide n P l f tmps assign body w R) : RoundIn (Fence.wide.inRound l') m P l f tmps assign body w R :=
  ⟨h.1, fun c cs _ => h.2 c cs (room_wide _)⟩

/-- What stands while the nodes are handed over. -/
structure NodAt (D2 : Nat → Prop) (b l lo top : Nat) (t : Ft) (J : List Vi → (Nat → Prop) → World → Prop) (Z : Nat → Prop) (pre : List Vi) (D : Nat → Prop) (W : World) : Prop where
  jj : J pre D W
  yb : Blk W lo #[.func (.yield l) #[] #[]] 38
  at_ : AtP W b 0 t
  inn : In D2 W t
  own : ∀ k, D k → (Z k ∧ k < lo) ∨ top ≤ k
  size : top ≤ W.heap.size

theorem NodAt.step {D2 : Nat → Prop} {b l lo top : Nat} {t : Ft} {J : List Vi → (Nat → Prop) → World → Prop} {Z : Nat → Prop} {pre pre2 : List Vi} {D' D3 : Nat → Prop} {W' W3 : World} (h : NodAt D2 b l lo top t J Z pre D' W')
    (hk : Alters (fun k => D' k ∨ (Z k ∧ k < lo)) W'.drew W3) (hg : Grew D' D3 W'.drew W3) (hj : J pre2 D3 W3) (hb : D2 b) (hD : ∀ k, D2 k → ¬ Z k ∧ k < lo) (hlt : lo + 2 = top) :
    Alters (fun k => D' k ∨ (((Z k ∧ k < lo) ∨ top ≤ k) ∧ k < top)) W' W3 ∧ Grew D' D3 W' W3 ∧ NodAt D2 b l lo top t J Z pre2 D3 W3 := by
  have hA : Alters (fun k => D' k ∨ (Z k ∧ k < lo)) W' W3 := (Alters.drew (Alters.refl W')).trans hk
  have hself := h
  have hno : ∀ k, D2 k → ¬ (D' k ∨ (Z k ∧ k < lo)) := fun k hk h => by
    obtain ⟨h1, h2⟩ := hD k hk
    have hh := hself
    rcases h with h | h
    · rcases hh.own k h with h3 | h3
      · exact h1 h3.1
      · omega
    · exact h1 h.1
  refine ⟨hA.mono (fun k _ h => h.imp (fun h => h) (fun h => ⟨.inl h, by omega⟩)), fun k hk => (hg k hk).imp (fun h => h) (fun h => h), ⟨hj, hA.blk h.yb (fun h2 => ?_), h.at_.keep hA (hno b hb), h.inn.keep hA (fun k hk _ => hno k hk), fun k hk => ?_, Nat.le_trans h.size hA.size⟩⟩
  · rcases h2 with h2 | h2
    · rcases h.own lo h2 with h3 | h3 <;> omega
    · omega
  · rcases hg k hk with h2 | h2
    · exact h.own k h2
    · right
      have := h.size
      have e : W'.drew.heap.size = W'.heap.size := rfl
      omega

set_option maxRecDepth 100000 in
set_option maxHeartbeats 2000000 in
theorem nodes1_seq (D Z : Nat → Prop) (b : Nat) (t : Ft) (w : World) (hD : ∀ k, D k → ¬ Z k) (ha : AtP w b 0 t) (hb : D b) (hin : In D w t) (hsz : t.size ≤ 1000000) :
    SeqN Fence.wide 9 Tryd.prog 129 #[.pointer (some ⟨b, 0, none⟩)] (fun v : Vi => #[Ft.val v.t]) Z (vis ⟨b, 0, none⟩ 1 t) w := by
  intro l J W D0 hW hl hD0 hJ hY h0
  have hq : Quiet w W := (Alters.of_below hW (p := fun k => w.heap.size ≤ k) (fun k hk hh => hh)).mono (fun k hk h => by omega)
  have hW2 := ha.keep hq (by simp)
  have hin2 : In (fun k => D k ∧ k < W.heap.size) W t := (hin.quiet hq).mono (fun k hk hd => ⟨hd, hk⟩)
  have hb2 : D b ∧ b < W.heap.size := ⟨hb, hW2.lt⟩
  have hfn : ∀ W : World, (binOp .eql 38 (.func (.yield l) #[] #[]) .nilFunc).run Tryd.prog W = .ok (.bool false) W := fun _ => by kernel_rfl
  have hmx : Tryd.prog.follows .mixedOrders = true := by kernel_rfl
  have HY := Go.Lib.hid hY
  have HJ : Hid (Stable W.heap.size J) := hJ
  have H0 := Go.Lib.hid h0
  have HA := Go.Lib.hid hW2
  have HI := Go.Lib.hid hin2
  have HB := Go.Lib.hid hb2
  have HD := Go.Lib.hid hD
  have HD0 := Go.Lib.hid hD0
  clear hY hJ h0 hW2 hin2 hb2 hW hq ha hin hb hD hD0
  refine callsIn_of_wp_marks Tryd.func129 rfl trivial ?_ rfl
  simp only [Tryd.ntmps129, List.size_toArray, List.length_cons, List.length_nil, Nat.reduceAdd, Nat.reduceSub, Array.replicate_succ, Array.replicate_zero, List.push_toArray, List.append_toArray, List.nil_append, List.cons_append]
  gi_wp2_with fail
  refine ⟨trivial, (callsIn_wide.2 (each_walk _ _)).mono ?_⟩
  rintro e w1 ⟨rfl, rfl⟩
  gi_wp2_with fail
  have hy0 : Blk ((W.alloc (.cells #[.func (.yield l) #[] #[]] 38)).alloc (.cells #[.pointer (some ⟨b, 0, none⟩)] 89)) W.heap.size #[.func (.yield l) #[] #[]] 38 := (Blk.new _ _ _).alloc _
  have hy1 : Blk ((W.alloc (.cells #[.func (.yield l) #[] #[]] 38)).alloc (.cells #[.pointer (some ⟨b, 0, none⟩)] 89)) (W.heap.size + 1) #[.pointer (some ⟨b, 0, none⟩)] 89 := alloc2 _ _ _ _
  have hq2 : Quiet W ((W.alloc (.cells #[.func (.yield l) #[] #[]] 38)).alloc (.cells #[.pointer (some ⟨b, 0, none⟩)] 89)) := ((Alters.refl _).alloc _).alloc _
  have hz2 : ((W.alloc (.cells #[.func (.yield l) #[] #[]] 38)).alloc (.cells #[.pointer (some ⟨b, 0, none⟩)] 89)).heap.size = W.heap.size + 2 := by simp
  have hN : NodAt (fun k => D k ∧ k < W.heap.size) b l W.heap.size (W.heap.size + 2) t J Z [] D0 ((W.alloc (.cells #[.func (.yield l) #[] #[]] 38)).alloc (.cells #[.pointer (some ⟨b, 0, none⟩)] 89)) := ⟨HJ.out _ _ _ _ hq2.to H0.out, hy0, HA.out.keep hq2 (by simp), HI.out.quiet hq2, fun k hk => .inl (HD0.out k hk), by omega⟩
  have hseq := (each1_seq (fun k => D k ∧ k < W.heap.size) (fun k => (Z k ∧ k < W.heap.size) ∨ W.heap.size + 2 ≤ k) (W.heap.size + 1) b 0 t ((W.alloc (.cells #[.func (.yield l) #[] #[]] 38)).alloc (.cells #[.pointer (some ⟨b, 0, none⟩)] 89)) (hy1.cell 0 rfl) (fun h => by omega) (fun k hk h => by
    rcases h with h | h
    · exact HD.out k hk.1 h.1
    · omega) hN.at_ HB.out hN.inn hsz).never
  have hva : ∀ (pre : List Vi) (D' : Nat → Prop) (W' : World), NodAt (fun k => D k ∧ k < W.heap.size) b l W.heap.size (W.heap.size + 2) t J Z pre D' W' → ∀ v, v ∈ vis ⟨b, 0, none⟩ 1 t → ∃ b' o, v.ad = ⟨b', o, none⟩ ∧ AtP W' b' o v.t := fun pre D' W' hW v hv => by
    obtain ⟨b', o, h1, -, h3, -⟩ := vis_at (D := fun k => D k ∧ k < W.heap.size) _ b 0 1 hW.at_ HB.out hW.inn v hv
    exact ⟨b', o, h1, h3⟩
  have HVA := Go.Lib.hid hva
  have HN := Go.Lib.hid hN
  have HSEQ := Go.Lib.hid hseq
  have HZ := Go.Lib.hid hz2
  generalize hLe : vis ⟨b, 0, none⟩ 1 t = L at *
  have HLE := Go.Lib.hid hLe
  clear hLe
  clear hy0 hy1 hq2 hz2 hN hseq hva
  generalize (W.alloc _).alloc _ = w0 at *
  refine wpIn_rangeN rfl (by omega) (gf := 110) (lb := #[.pointer (some ⟨W.heap.size + 1, 0, none⟩)]) rfl trivial (enters_of Tryd.func110 (by kernel_rfl) rfl) (Z := (fun k => (Z k ∧ k < W.heap.size) ∨ W.heap.size + 2 ≤ k)) (by rw [HZ.out]; intro k hk; exact .inr hk) HSEQ.out (fun _ => rfl)
    (fun pre D' W' => NodAt (fun k => D k ∧ k < W.heap.size) b l W.heap.size (W.heap.size + 2) t J Z pre D' W') D0 (fun k hk => ⟨.inl (HD0.out k hk), by have := (HD0.out k hk).2; have := HZ.out; omega⟩)
    (fun s D' A B hA hs => by
      have hb := HB.out.2
      have hzz := HZ.out
      have hAJ : Alters (fun k => W.heap.size ≤ k ∧ ¬ D' k) A B := hA.mono (fun k _ h => ⟨by omega, h.2⟩)
      exact ⟨HJ.out s D' A B hAJ hs.jj, hA.blk hs.yb (by omega), hs.at_.keep hA (by omega), hs.inn.keep hA (fun k hk _ h => by omega), hs.own, Nat.le_trans hs.size hA.size⟩) HN.out
    (fun x a' _ => a' = { tmps := #[.func (.yield l) #[] #[], .pointer (some ⟨b, 0, none⟩), .pointer (some ⟨W.heap.size, 0, none⟩), .pointer (some x.ad), .func (.yield l) #[] #[], .bool false, .func (.func 110) #[] #[.pointer (some ⟨W.heap.size + 1, 0, none⟩)], .pointer (some x.ad), .int .i64 x.dp, undef, undef, undef, undef, undef, undef], defers := [] })
    ?assign ?ax ?body ?done
  case assign =>
    intro l2 pre x rest D' W' K hL hI hlt hK
    unfold Vi.enc
    gi_wp2
    exact hK _ _ (Alters.refl _) rfl
  case ax =>
    intro x a' A B l2 _ _ _ h
    exact h
  case body =>
    rintro l2 pre x rest a' D' W' hL hlt hA rfl hD'
    obtain ⟨xb, xo, hxe, hat⟩ := HVA.out pre D' W' hA x (by rw [hL]; simp)
    obtain ⟨d0, d1, d2, d3, d4, d5, d6⟩ := hat.seven
    have y0 := hA.yb.cell 0 rfl
    have hAJ : J pre D' W'.drew := HJ.out _ _ _ _ (Alters.drew (Alters.refl W')) hA.jj
    obtain ⟨fn, tmps, assign, body, hy, hR⟩ := HY.out pre x rest W'.drew D' hL hAJ (by have := hA.size; show W.heap.size ≤ W'.heap.size; omega)
    have HR : Hid (RoundIn (Fence.wide.inRound l2) 6 Tryd.prog l fn tmps assign body W'.drew (fun e W9 => e = .returned (.bool true) ∧ ∃ D9, J (pre ++ [x]) D9 W9 ∧ Kept Z W.heap.size D' W'.drew W9 ∧ Grew D' D9 W'.drew W9)) := Go.Lib.hid (RoundIn.wide hR)
    have HA := Go.Lib.hid hA
    have HDD := Go.Lib.hid hD'
    rw [hxe]
    unfold Ft.val at hy
    clear hAJ hR hA hL hD' hxe hat HY
    gi_wp2_with fail
    gi_region_with_o (refine HR.out.mono ?_; rintro e W3 ⟨rfl, D3, hJ3, hk3, hg3⟩)
    all_goals
      gi_wp2
      obtain ⟨g1, g2, g3⟩ := HA.out.step hk3 hg3 hJ3 HB.out (fun k hk => ⟨HD.out k hk.1, hk.2⟩) rfl
      exact ⟨g1.mono (fun k _ h => h.imp (fun h => h) (fun h => ⟨h.1, by rw [HZ.out]; exact h.2⟩)), D3, g2, g3⟩
  case done =>
    rintro d D' W' hd hA hDd hdef
    have hJ := hA.jj
    have hD3 : Alters (fun k => k = d) W' (W'.putObj d (.deferred none)) := alters_putObj _ _ _ rfl
    have HJD := Go.Lib.hid (HJ.out _ _ _ _ (hD3.mono (fun k _ e => ⟨by rw [e]; have := HZ.out; omega, by rw [e]; exact hDd⟩)) hJ)
    clear hA hJ hD3
    gi_wp2
    refine ⟨by simp, .inl ⟨_, _, rfl, run_takeDeferred hdef, ?_⟩⟩
    generalize W'.putObj d _ = W9 at *
    exact ⟨_, results_none rfl _ _ _, ⟨_, rfl⟩, D', by rw [HLE.out]; exact HJD.out⟩
end Go.Proofs.YtnpcakakjhiboaaDoor
