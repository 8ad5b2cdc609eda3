/- The iterator over a ring's things, and the law's own functions that use it. No condition. -/
import Derived.Test.YthlekeaebefhfaaWalk
import Derived.Test.YthlekeaebefhfaaRange
import Derived.Maps.OwnIn
import Derived.Maps.AppendAt
namespace Go.Proofs.Ythlekeaebefhfaa
open Go.RowKit Go.Lo Go.WideShapes
attribute [local go_sem] Oper.semAt_some

theorem clone_walk (w : World) (v : Value) (xs : List Int) (h : w.ownsRow 0 3 1 v xs.length (xs.map (Value.int .i64))) (hn : xs.length ≤ 1000) :
    Calls Try.prog 27 #[v] w fun e w' => ∃ v', e = .returned v' ∧ w'.ownsRow w.heap.size 3 1 v' xs.length (xs.map (Value.int .i64)) ∧ Below w.heap.size w w' := by
  rcases h.2 with ⟨rfl, h0⟩ | ⟨g, cap, cur, rfl, -, hg, h1, h2, _, _⟩
  · obtain rfl := List.eq_nil_of_length_eq_zero h0
    refine (Try.slices_Clone_int_nil 0 0 w).mono ?_
    rintro e w' ⟨rfl, rfl⟩
    exact ⟨_, rfl, World.ownsRow_nil _ _ _ _, Below.refl _ _⟩
  · refine (Try.slices_Clone_int g 0 xs.length cap xs w (Nat.le_refl _) (by omega) (fun j hj => ?_)).mono ?_
    · have := h.cells (g := g) rfl j (.int .i64 (xs.getD j 0)) (by simp [hj])
      rw [add_plain] at this
      exact this
    · rintro e w' ⟨v', rfl, ho, _, hb⟩
      rw [List.take_length] at ho
      exact ⟨v', rfl, ho, hb⟩

theorem all_walk (p : Option Addr) (w : World) : Calls Try.prog 23 #[.pointer p] w fun e w' => e = .returned (.func (.func 26) #[] #[.pointer (some ⟨w.heap.size, 0, none⟩)]) ∧ w' = w.alloc (.cells #[.pointer p] 24) := by
  go_enter Try.func23, Try.ntmps23
  go_wp2
  go_ret
  exact ⟨rfl, rfl⟩

theorem row_zero {w : World} {base : Nat} {e size n : Nat} {v : Value} {xs : List Value} (h : w.ownsRow base e size v n xs) : w.ownsRow 0 e size v n xs := by
  rcases h with ⟨h1, h | ⟨g, cap, cur, h2, h3, h4⟩⟩
  · exact ⟨h1, .inl h⟩
  · exact ⟨h1, .inr ⟨g, cap, cur, h2, Nat.zero_le _, h4⟩⟩

theorem take_step (xs : List Int) (k : Nat) (h : k < xs.length) : xs = xs.take k ++ xs.getD k 0 :: xs.drop (k + 1) ∧ xs.take (k + 1) = xs.take k ++ [xs.getD k 0] := by
  have e : xs.getD k 0 = xs[k] := by simp [h]
  rw [e]
  exact ⟨by simp, by simp⟩

set_option maxRecDepth 100000 in
set_option maxHeartbeats 2000000 in
theorem all1_seq (B b n₀ : Nat) (v : Value) (room : Nat) (old : Bool) (xs : List Int) (w : World) (hB : w.cell? ⟨B, 0, none⟩ = some (.pointer (some ⟨b, 0, none⟩))) (hB2 : B < w.heap.size) (h : IsRing w b v room old xs) :
    SeqC Fence.wide 8 Try.prog 26 #[.pointer (some ⟨B, 0, none⟩)] (fun x : Int => #[Value.int .i64 x]) n₀ xs w := by
  intro l J Jx W D0 hW hl hD0 hJ hY h0 hJx
  have hc0 : W.cell? ⟨B, 0, none⟩ = some (.pointer (some ⟨b, 0, none⟩)) := (hW.cell (p := ⟨B, 0, none⟩) hB2).trans hB
  have hR : IsRing W b v room old xs := h.keep (Alters.of_below hW (p := fun k => w.heap.size ≤ k) (fun k hk hh => hh)) (by have := h.own.lt; omega) (fun k e => by have := (h.row.lt k e).2; omega)
  have hn : xs.length ≤ 64 := Nat.le_trans h.len h.r64
  have hc1 := hR.own.cell 0 rfl
  have hcl := clone_walk W v xs hR.row (by omega)
  have HC := Go.Lib.hid hcl
  have HY := Go.Lib.hid hY
  have HJ := Go.Lib.hid hJ
  have H0 := Go.Lib.hid h0
  clear hcl hY hJ h0 hW hR h hJx hB
  have hlen := hn
  have hfn : ∀ W : World, (binOp .eql 64 (.func (.yield l) #[] #[]) .nilFunc).run Try.prog W = .ok (.bool false) W := fun _ => by kernel_rfl
  refine callsIn_of_wp Try.func26 rfl trivial ?_ rfl
  simp only [Try.ntmps26, List.size_toArray, List.length_cons, List.length_nil, Nat.reduceAdd, Nat.reduceSub, Array.replicate_succ, Array.replicate_zero, List.push_toArray, List.append_toArray, List.nil_append, List.cons_append]
  gi_wp2_with fail
  refine ⟨trivial, (callsIn_wide.2 HC.out).mono ?_⟩
  rintro e w1 ⟨v', rfl, hown, hbel⟩
  have HO := Go.Lib.hid hown
  have J1 : J [] D0 w1 := HJ.out [] _ _ _ (Alters.of_below hbel (fun k hk hh => by omega)) H0.out
  have hz1 := hbel.size
  clear hbel
  rcases hown.2 with ⟨rfl, h0⟩ | ⟨g, cap, cur, rfl, hg0, hg, h1, h2, _, _⟩
  · clear hown
    obtain rfl := List.eq_nil_of_length_eq_zero h0
    clear HO
    gi_wp2
    gi_loopw [17] (fun i wr => i = .int .i64 0 ∧ J [] D0 wr) (fun _ _ => 0)
    case atStart => exact ⟨rfl, J1⟩
    case round =>
      obtain ⟨rfl, hJs⟩ := hrel
      gi_wp2
      go_end0
      exact ⟨⟨_, rfl⟩, .inl ⟨_, hJs⟩⟩
  · clear hown hg
    gi_wp2
    gi_loopw [17] (fun i wr => ∃ (k : Nat) (D : Nat → Prop), k ≤ xs.length ∧ i = .int .i64 k ∧ J (xs.take k) D wr ∧ ¬ D g ∧ W.heap.size ≤ wr.heap.size ∧ wr.ownsRow 0 3 1 (.slice (some ⟨g, 0, none⟩) xs.length cap) xs.length (xs.map (Value.int .i64)))
      (fun i _ => xs.length - (intOf i).toNat)
    case atStart => exact ⟨0, D0, Nat.zero_le _, rfl, J1, (fun h => by have := hD0 g h; omega), hz1, row_keep (row_zero HO.out) (Alters.refl (p := fun _ => False) _) (by simp)⟩
    case round =>
      obtain ⟨k, D, hk, rfl, hJs, hDg, hzw, hr⟩ := hrel
      clear J1
      by_cases hlt : k < xs.length
      · have hcx : wr.cell? ⟨g, k, none⟩ = some (.int .i64 (xs.getD k 0)) := by
          have := hr.cells (g := g) rfl k (.int .i64 (xs.getD k 0)) (by simp [hlt])
          rw [add_plain, Nat.zero_add] at this
          exact this
        obtain ⟨e1, e2⟩ := take_step xs k hlt
        obtain ⟨fn, tmps, assign, body, hy, hR⟩ := HY.out _ (xs.getD k 0) _ wr D e1 hJs hzw
        have E1 := Go.Lib.hid e1
        have E2 := Go.Lib.hid e2
        have HRR := Go.Lib.hid hr
        have HR := Go.Lib.hid hR
        clear e1 e2 hr hR hJs
        generalize xs.getD k 0 = x at *
        gi_wp2
        refine HR.out.mono ?_
        rintro e W3 (⟨rfl, D', hJ3, hk3, hg3⟩ | ⟨rfl, D', hJx3⟩)
        · have hr3 := row_keep HRR.out hk3 (fun k e => by
            have e : g = k := by simpa [Value.ownBlock] using e
            subst e
            exact fun h => h.elim hDg (by omega))
          have hd3 : ¬ D' g := fun h => by
            have := (HRR.out.lt g rfl).2
            rcases hg3 g h with h1 | h1
            · exact hDg h1
            · omega
          have hz3 : W.heap.size ≤ W3.heap.size := Nat.le_trans hzw hk3.size
          clear hk3 hg3
          gi_wp2
          go_roundw
          case rel => exact ⟨k + 1, D', by omega, by simp, by rw [E2.out]; exact hJ3, hd3, hz3, hr3⟩
          case measure => simp [intOf]; omega
        · gi_wp2
          refine bodyPost_ret (results_none rfl _ _ _) rfl ?_
          exact ⟨⟨_, rfl⟩, .inr ⟨_, _, _, _, E1.out, hJx3⟩⟩
      · obtain rfl : k = xs.length := by omega
        rw [List.take_length] at hJs
        gi_wp2
        go_end0
        exact ⟨⟨_, rfl⟩, .inl ⟨_, hJs⟩⟩

/-- What the law's own function has got so far: its two boxes, and its row. -/
def Got (w : World) (m : Nat) (pre : List Int) (D : Nat → Prop) (W : World) : Prop :=
  ∃ v', (∀ k, v'.ownBlock = some k → D k) ∧ W.ownsRow w.heap.size 3 1 v' pre.length (pre.map (Value.int .i64)) ∧ Blk W (w.heap.size + 1) #[v'] 28 ∧ Blk W w.heap.size #[.int .i64 m] 3 ∧ Quiet w W ∧ (∀ k, D k → w.heap.size + 2 < k)

theorem Got.stable (w : World) (m : Nat) (B : Nat) (hB : w.heap.size + 2 < B) : Stable B (fun pre D W => Got w m pre D W) := by
  rintro s D W W' hA ⟨v', h1, h2, h3, h4, h5, h6⟩
  refine ⟨v', h1, ?_, hA.blk h3 (by omega), hA.blk h4 (by omega), h5.then hA (fun i hi h => by omega), h6⟩
  rcases h2 with ⟨hl, h | ⟨g, cap, cur, rfl, h0, hg, hh⟩⟩
  · exact ⟨hl, .inl h⟩
  · exact ⟨hl, .inr ⟨g, cap, cur, rfl, h0, (hA.block g (lt_of_block hg) (fun h => h.2 (h1 g rfl))).trans hg, hh⟩⟩

theorem Got.step {w W w2 : World} {m : Nat} {pre : List Int} {x : Int} {D : Nat → Prop} {v' v2 : Value} (hlt : w.heap.size + 2 < W.heap.size) (h : (∀ k, v'.ownBlock = some k → D k) ∧ W.ownsRow w.heap.size 3 1 v' pre.length (pre.map (Value.int .i64)) ∧ Blk W (w.heap.size + 1) #[v'] 28 ∧ Blk W w.heap.size #[.int .i64 m] 3 ∧ Quiet w W ∧ (∀ k, D k → w.heap.size + 2 < k))
    (hown : w2.ownsRow w.heap.size 3 1 v2 (pre.length + 1) (pre.map (Value.int .i64) ++ [.int .i64 x])) (hgrow : (W.alloc (.cells #[.int .i64 x] 3)).grownBy w2 v'.ownBlock) (hat : v2.ownBlock = v'.ownBlock ∨ v2.ownBlock = some (W.heap.size + 1)) :
    Blk w2 (w.heap.size + 1) #[v'] 28 ∧ Blk w2 w.heap.size #[.int .i64 m] 3 ∧ Kept w.heap.size (w.heap.size + 3) D W (w2.setCell ⟨w.heap.size + 1, 0, none⟩ v2) ∧ ∃ D', Grew D D' W (w2.setCell ⟨w.heap.size + 1, 0, none⟩ v2) ∧ Got w m (pre ++ [x]) D' (w2.setCell ⟨w.heap.size + 1, 0, none⟩ v2) := by
  obtain ⟨g1, g2, g3, g4, g5, g6⟩ := h
  have hA : Alters D W w2 := ((Alters.refl W).alloc _).grown hgrow (fun k e _ => g1 k e)
  have nd : ∀ k, k ≤ w.heap.size + 2 → ¬ D k := fun k hk hd => by have := g6 k hd; omega
  have b1 : Blk w2 (w.heap.size + 1) #[v'] 28 := hA.blk g3 (nd _ (by omega))
  have b0 : Blk w2 w.heap.size #[.int .i64 m] 3 := hA.blk g4 (nd _ (by omega))
  have hA3 : Kept w.heap.size (w.heap.size + 3) D W (w2.setCell ⟨w.heap.size + 1, 0, none⟩ v2) := (hA.mono (fun k _ h => .inl h)).set (q := ⟨w.heap.size + 1, 0, none⟩) (fun _ => .inr ⟨by simp, by simp⟩) _
  have own2 : ∀ k, v2.ownBlock = some k → D k ∨ (W.heap.size ≤ k ∧ k < w2.heap.size) := fun k e => by
    rcases hat with h | h
    · exact .inl (g1 k (h ▸ e))
    · rw [h] at e; simp at e; right; have := (hown.lt k (by rw [h, e])).2; omega
  refine ⟨b1, b0, hA3, fun k => D k ∨ v2.ownBlock = some k, ?_, v2, fun k e => .inr e, ?_, b1.set 0 _, b0.set_other (by simp) _, g5.then hA3 (fun i hi h => h.elim (nd i (by omega)) (by omega)), ?_⟩
  · rintro k (h | h)
    · exact .inl h
    · rcases own2 k h with h1 | h1
      · exact .inl h1
      · right; simp; omega
  · have hne : ∀ k, v2.ownBlock = some k → k ≠ w.heap.size + 1 := fun k e => by
      rcases own2 k e with h1 | h1
      · have := g6 k h1; omega
      · omega
    rcases hown with ⟨hl, h | ⟨g, cap, cur, rfl, h0, hg, hh⟩⟩
    · omega
    · refine ⟨by simp, .inr ⟨g, cap, cur, by simp, h0, (Below.heap_setCell _ _ _ _ (hne g rfl)).trans hg, by simpa using hh⟩⟩
  · rintro k (h | h)
    · exact g6 k h
    · rcases own2 k h with h1 | h1
      · exact g6 k h1
      · omega

set_option maxRecDepth 100000 in
set_option maxHeartbeats 2000000 in
theorem items_walk (b : Nat) (v : Value) (room : Nat) (old : Bool) (xs : List Int) (m : Nat) (w : World) (h : IsRing w b v room old xs) (hm : 1 ≤ m) (hm2 : m ≤ 1000) :
    Calls Try.prog 17 #[.pointer (some ⟨b, 0, none⟩), .int .i64 m] w fun e w' => ∃ v', e = .returned v' ∧ w'.ownsRow w.heap.size 3 1 v' (xs.take m).length ((xs.take m).map (Value.int .i64)) ∧ Quiet w w' := by
  refine (callsIn_wide (n := 9)).1 ?_
  refine callsIn_of_wp_marks Try.func17 rfl trivial ?_ rfl
  simp only [Try.ntmps17, List.size_toArray, List.length_cons, List.length_nil, Nat.reduceAdd, Nat.reduceSub, Array.replicate_succ, Array.replicate_zero, List.push_toArray, List.append_toArray, List.nil_append, List.cons_append]
  gi_wp2_with fail
  refine ⟨trivial, (callsIn_wide.2 (all_walk _ _)).mono ?_⟩
  rintro e w1 ⟨rfl, rfl⟩
  gi_wp2_with fail
  have hq : Quiet w (((w.alloc (.cells #[.int .i64 m] 3)).alloc (.cells #[.slice none 0 0] 28)).alloc (.cells #[.pointer (some ⟨b, 0, none⟩)] 24)) := (((Alters.refl _).alloc _).alloc _).alloc _
  have hb0 : Blk (((w.alloc (.cells #[.int .i64 m] 3)).alloc (.cells #[.slice none 0 0] 28)).alloc (.cells #[.pointer (some ⟨b, 0, none⟩)] 24)) w.heap.size #[.int .i64 m] 3 := ((Blk.new w _ _).alloc _).alloc _
  have hb1 : Blk (((w.alloc (.cells #[.int .i64 m] 3)).alloc (.cells #[.slice none 0 0] 28)).alloc (.cells #[.pointer (some ⟨b, 0, none⟩)] 24)) (w.heap.size + 1) #[.slice none 0 0] 28 := by
    have := (Blk.new (w.alloc (.cells #[.int .i64 m] 3)) #[.slice none 0 0] 28).alloc (.cells #[.pointer (some ⟨b, 0, none⟩)] 24)
    simpa using this
  have hb2 : Blk (((w.alloc (.cells #[.int .i64 m] 3)).alloc (.cells #[.slice none 0 0] 28)).alloc (.cells #[.pointer (some ⟨b, 0, none⟩)] 24)) (w.heap.size + 1 + 1) #[.pointer (some ⟨b, 0, none⟩)] 24 := by
    have := Blk.new ((w.alloc (.cells #[.int .i64 m] 3)).alloc (.cells #[.slice none 0 0] 28)) #[.pointer (some ⟨b, 0, none⟩)] 24
    simpa using this
  have hz : (((w.alloc (.cells #[.int .i64 m] 3)).alloc (.cells #[.slice none 0 0] 28)).alloc (.cells #[.pointer (some ⟨b, 0, none⟩)] 24)).heap.size = w.heap.size + 3 := by simp
  generalize ((w.alloc (.cells #[.int .i64 m] 3)).alloc (.cells #[.slice none 0 0] 28)).alloc (.cells #[.pointer (some ⟨b, 0, none⟩)] 24) = w0 at *
  have hR := h.quiet hq
  have hseq := all1_seq (w.heap.size + 1 + 1) b w.heap.size v room old xs w0 (hb2.cell 0 rfl) (by omega) hR
  have hG : Got w m [] (fun _ => False) w0 := ⟨_, by simp [Value.ownBlock], World.ownsRow_nil _ _ _ _, hb1, hb0, hq, by simp⟩
  refine wpIn_rangeC rfl (by omega) (gf := 26) (lb := #[.pointer (some ⟨w.heap.size + 1 + 1, 0, none⟩)]) rfl trivial (enters_of Try.func26 (by kernel_rfl) rfl) (n₀ := w.heap.size) (by omega) hseq (fun _ => rfl)
    (fun pre D W => Got w m pre D W ∧ pre.length < m) (fun c pre D W => c = .exit 0 ∧ Got w m pre D W ∧ pre.length = m) (fun _ => False) (by simp)
    (fun s D A B hA hs => ⟨Got.stable w m _ (by omega) s D A B hA hs.1, hs.2⟩) (fun c s D A B hA hs => ⟨hs.1, Got.stable w m _ (by omega) s D A B hA hs.2.1, hs.2.2⟩) ⟨hG, by simp; omega⟩
    (fun x a' _ => a' = { tmps := #[.pointer (some ⟨b, 0, none⟩), .int .i64 m, undef, .pointer (some ⟨w.heap.size, 0, none⟩), .slice none 0 0, .pointer (some ⟨w.heap.size + 1, 0, none⟩), .int .i64 x, .pointer (some ⟨b, 0, none⟩), .func (.func 26) #[] #[.pointer (some ⟨w.heap.size + 1 + 1, 0, none⟩)], .int .i64 x, undef, undef, undef, undef, undef, undef, undef, undef, undef], defers := [] })
    ?assign ?ax ?body ?done ?stop
  case assign =>
    intro l pre x rest D W K hL hI hlt hK
    gi_wp2
    exact hK _ _ (Alters.refl _) rfl
  case ax =>
    intro x a' W W' l _ _ _ h
    exact h
  case body =>
    rintro l pre x rest a' D W hL hlt ⟨⟨v', g1, g2, g3, g4, g5, g6⟩, hlen⟩ rfl hD
    have hz1 := hz
    obtain ⟨i0, hi, hz0, hzz1, hz2⟩ := info_parts info3
    have c1 := g3.cell 0 rfl
    have c2 := g4.cell 0 rfl
    have HG := Go.Lib.hid (And.intro g1 (And.intro g2 (And.intro g3 (And.intro g4 (And.intro g5 g6)))))
    have HL := Go.Lib.hid hL
    have HD := Go.Lib.hid hD
    have HZ := Go.Lib.hid hz
    clear hL hD hz hz1 hG hseq hb0 hb1 hb2 hq h hR
    gi_wp2_with (gi_at_builtin; refine wpListIn_append_own_at _ rfl (.tmp 10) (.tmp 12) 28 rfl w.heap.size 3 i0 (.int .i64 0) 1 8 Try.underlying28 hi hz0 hzz1 hz2 rfl (by decide) _ _ _ rfl (g2.alloc _) ⟨W.heap.size, 0, none⟩ 1 1 [.int .i64 x] rfl rfl ?c1 ?c2 ?c3 ?c4 ?c5 ?c6)
    case c1 => intro j u hu; cases j with
      | zero => simp at hu; subst hu; exact (Blk.new W #[.int .i64 x] 3).cell 0 rfl
      | succ j => simp at hu
    case c2 => intro u hu; simp at hu; subst hu; rfl
    case c3 => unfold maxLen; omega
    case c4 => omega
    case c5 => have := HG.out.2.2.2.2.1.size; simp; omega
    case c6 =>
      intro v2 w2 hown hgrow _ hat
      have hfin := Got.step (by have := HZ.out; omega) HG.out hown hgrow hat
      obtain ⟨gg, cap, rfl⟩ := ownsRow_succ hown
      obtain ⟨b1, b0, hfin⟩ := hfin
      have HF := Go.Lib.hid hfin
      have d1 := b1.cell 0 rfl
      have d2 := b0.cell 0 rfl
      have f1 := b1.free 0
      clear hfin hown hgrow hat c1 c2 g1 g2 g3 g4 g5 g6 hi hz0 hzz1 hz2
      by_cases hl : pre.length + 1 < m
      · gi_wp2
        obtain ⟨hk, D', hg, hgot⟩ := HF.out
        exact ⟨by rw [HZ.out]; exact hk, D', hg, hgot, by simp; omega⟩
      · have hl2 : m ≤ pre.length + 1 := by omega
        gi_wp2
        obtain ⟨hk, D', hg, hgot⟩ := HF.out
        exact ⟨by rw [HZ.out]; exact hk, D', hg, rfl, hgot, by simp; omega⟩
  case done =>
    rintro d D W hd ⟨⟨v', g1, g2, g3, g4, g5, g6⟩, hlen⟩ hDd hdef
    have c1 := g3.cell 0 rfl
    have HG := Go.Lib.hid (And.intro g1 (And.intro g2 g5))
    clear g1 g2 g3 g4 g5 g6 hG hseq hb0 hb1 hb2 hq h hR
    gi_wp2
    refine ⟨by simp, .inl ⟨_, _, rfl, run_takeDeferred hdef, ?_⟩⟩
    obtain ⟨g1, g2, g5⟩ := HG.out
    have hA : Alters (fun k => k = d) W (W.putObj d (.deferred none)) := alters_putObj _ _ _ rfl
    refine ⟨_, results_tmp rfl _ _ _, v', rfl, ?_, g5.then hA (fun i hi e => by omega)⟩
    rw [List.take_of_length_le (by omega)]
    exact row_keep g2 hA (fun k e h => hDd (by rw [← h]; exact g1 k e))
  case stop =>
    rintro d c pre x rest D W hd hL ⟨rfl, ⟨v', g1, g2, g3, g4, g5, g6⟩, hlen⟩ hDd hdef
    have c1 := g3.cell 0 rfl
    have HG := Go.Lib.hid (And.intro g1 (And.intro g2 g5))
    have HL := Go.Lib.hid hL
    have HLE := Go.Lib.hid hlen
    clear g1 g2 g3 g4 g5 g6 hG hseq hb0 hb1 hb2 hq h hR hL hlen
    gi_wp2
    refine ⟨by simp, .inl ⟨_, _, rfl, run_takeDeferred hdef, ?_⟩⟩
    obtain ⟨g1, g2, g5⟩ := HG.out
    have hA : Alters (fun k => k = d) W (W.putObj d (.deferred none)) := alters_putObj _ _ _ rfl
    refine ⟨_, results_tmp rfl _ _ _, v', rfl, ?_, g5.then hA (fun i hi e => by omega)⟩
    have e : xs.take m = pre ++ [x] := by
      rw [HL.out, ← HLE.out, show pre ++ x :: rest = (pre ++ [x]) ++ rest by simp]
      exact List.take_left
    rw [e]
    exact row_keep g2 hA (fun k e h => hDd (by rw [← h]; exact g1 k e))
end Go.Proofs.Ythlekeaebefhfaa
