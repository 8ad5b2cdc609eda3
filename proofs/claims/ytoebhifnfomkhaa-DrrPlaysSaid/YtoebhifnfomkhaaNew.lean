/- The walks of New, Turn, Left, and of Next where nothing is served. No condition. -/
import Derived.Test.YtoebhifnfomkhaaNext
import Derived.Laws.MakeOwn
namespace Go.Proofs.Ytoebhifnfomkhaa
open Go.RowKit Go.Lo

theorem info3 : (Try.prog.info? 3).map (fun i => (i.zero, i.size, i.bytes)) = some (some (.int .i64 0), 1, 8) := by kernel_rfl

theorem made_ints (n : Nat) : madeCells (Value.int .i64 0).cells (n * 1) = ints n fun _ => 0 := by
  apply Array.ext
  · simp [ints, madeCells]
  · intro i h1 h2
    simp [ints, madeCells, Value.cells, Nat.mod_one]

theorem make_ints (n : Nat) (h : n ≤ 1000) (w : World) :
    Sem.run Try.prog (Instr.makeSlice 22 (.int .i64 n) (.int .i64 n)) w = .ok (.slice (some ⟨w.heap.size, 0, none⟩) n n) (w.alloc (.cells (ints n fun _ => 0) 3)) := by
  obtain ⟨i0, hi, hz0, hz1, hz2⟩ := info_parts info3
  have := run_make (P := Try.prog) w 22 3 i0 (.int .i64 0) Try.underlying22 hi hz0 .i64 .i64 n n (by omega) (by omega) (by rw [hz2]; omega) (by omega)
  rw [hz1, Int.toNat_natCast, made_ints] at this
  exact this

theorem turn_walk (bd bg bl : Nat) (d : D) (w : World) (h : IsDrr w bd bg bl d) :
    Calls Try.prog 15 #[.pointer (some ⟨bd, 0, none⟩)] w fun e w' => e = .returned (.tuple #[.int .i64 d.p, .bool d.b]) ∧ Quiet w w' := by
  obtain ⟨-, -, h2, h3⟩ := h.cells
  clear h
  have HF := Go.Lib.hid ((Alters.refl (p := fun _ => False) w).drew)
  go_enter Try.func15, Try.ntmps15
  go_wp2
  go_region
  go_wp2
  go_ret2
  exact ⟨rfl, HF.out⟩

/-- Something that waits is told of by no place: none is served. -/
theorem next_none_nil (a : Option Addr) (len cap : Nat) (w : World) :
    Calls Try.prog 11 #[.pointer none, .slice a len cap] w fun e w' => e = .returned (.int .i64 (-1)) ∧ w = w' := by
  go_enter Try.func11, Try.ntmps11
  go_wp2
  refine wp_scope_jumps 0 (fun _ _ => False) (fun _ _ => 0) rfl ?_ (fun _ _ h => h.elim)
  go_wp2
  simp only [Exit.jump]
  go_ret
  exact ⟨rfl, rfl⟩

theorem next_none_len (bd bg bl : Nat) (d : D) (a : Option Addr) (len cap : Nat) (w : World) (h : IsDrr w bd bg bl d) (hl : len ≠ d.n) :
    Calls Try.prog 11 #[.pointer (some ⟨bd, 0, none⟩), .slice a len cap] w fun e w' => e = .returned (.int .i64 (-1)) ∧ w = w' := by
  obtain ⟨h0, -, -, -⟩ := h.cells
  have hne : ((len : Int) != (d.n : Int)) = true := by simp; omega
  clear h hl
  go_enter Try.func11, Try.ntmps11
  go_wp2
  refine wp_scope_jumps 0 (fun _ _ => False) (fun _ _ => 0) rfl ?_ (fun _ _ h => h.elim)
  go_wp2
  simp only [Exit.jump]
  go_ret
  exact ⟨rfl, rfl⟩

theorem next_none_waits (bd bg bl : Nat) (d : D) (a : Option Addr) (cap : Nat) (z : Nat → Int) (w : World) (h : IsDrr w bd bg bl d) (h8 : d.n ≤ 8) (hz : ∀ j, j < d.n → z j ≤ 0)
    (hc : 0 < d.n → ∃ b off, a = some ⟨b, off, none⟩ ∧ b < w.heap.size ∧ ∀ i, i < d.n → w.cell? ⟨b, off + i, none⟩ = some (.int .i64 (z i))) :
    Calls Try.prog 11 #[.pointer (some ⟨bd, 0, none⟩), .slice a d.n cap] w fun e w' => e = .returned (.int .i64 (-1)) ∧ w = w' := by
  obtain ⟨h0, -, -, -⟩ := h.cells
  have hW := waits_walk a d.n cap z w (by unfold maxLen; omega) hc
  have HW := Go.Lib.hid hW
  have HZ := Go.Lib.hid hz
  clear h hW hc hz
  go_enter Try.func11, Try.ntmps11
  go_wp2
  refine wp_scope_jumps 0 (fun _ _ => False) (fun _ _ => 0) rfl ?_ (fun _ _ h => h.elim)
  go_wp2_with (go_at_call 16; refine HW.out.mono ?_; rintro e w' ⟨⟨⟨j, hj, hp⟩, rfl⟩ | ⟨hx, rfl⟩, rfl⟩)
  · exact absurd (HZ.out j hj) (by omega)
  · simp only [Exit.jump]
    go_ret
    exact ⟨rfl, rfl⟩

/-- What New answers: 0, or what is wrong. -/
def codeOf (n : Nat) (q : Int) (wt : Nat → Int) : Int := by
  classical exact if n < 1 ∨ 8 < n then 34 else if q < 1 ∨ 64 < q then 33 else if ∃ i, i < n ∧ (wt i < 1 ∨ 16 < wt i) then 33 else 0

def NewEnds (n : Nat) (q : Int) (wt : Nat → Int) (w : World) (e : Ending) (w' : World) : Prop :=
  Quiet w w' ∧ ((codeOf n q wt ≠ 0 ∧ e = .returned (.tuple #[.pointer none, .int .i64 (codeOf n q wt)])) ∨
    (codeOf n q wt = 0 ∧ ∃ bd bg bl, e = .returned (.tuple #[.pointer (some ⟨bd, 0, none⟩), .int .i64 0]) ∧ w.heap.size ≤ bd ∧ w.heap.size ≤ bg ∧ w.heap.size ≤ bl ∧
      IsDrr w' bd bg bl ⟨n, fun i => q * wt i, fun _ => 0, 0, false⟩))

set_option maxHeartbeats 1000000 in
theorem new_walk (a : Option Addr) (n cap : Nat) (q : Int) (wt : Nat → Int) (w : World) (hn : n ≤ maxLen)
    (hc : 0 < n → ∃ b off, a = some ⟨b, off, none⟩ ∧ b < w.heap.size ∧ ∀ i, i < n → w.cell? ⟨b, off + i, none⟩ = some (.int .i64 (wt i))) :
    Calls Try.prog 10 #[.slice a n cap, .int .i64 q] w (NewEnds n q wt w) := by
  unfold maxLen at hn
  by_cases h1 : n < 1 ∨ 8 < n
  · have e1 : codeOf n q wt = 34 := by unfold codeOf; rw [if_pos h1]
    have fin : NewEnds n q wt w (.returned (.tuple #[.pointer none, .int .i64 34])) w := by
      unfold NewEnds; rw [e1]; exact ⟨Alters.refl _, .inl ⟨by omega, rfl⟩⟩
    have HF := Go.Lib.hid fin
    clear fin e1 hc
    rcases h1 with h1 | h1
    · go_enter Try.func10, Try.ntmps10
      go_wp2
      go_ret2
      exact HF.out
    · go_enter Try.func10, Try.ntmps10
      go_wp2
      go_ret2
      exact HF.out
  · by_cases h2 : q < 1 ∨ 64 < q
    · have e1 : codeOf n q wt = 33 := by unfold codeOf; rw [if_neg h1, if_pos h2]
      have fin : NewEnds n q wt w (.returned (.tuple #[.pointer none, .int .i64 33])) w := by
        unfold NewEnds; rw [e1]; exact ⟨Alters.refl _, .inl ⟨by omega, rfl⟩⟩
      have HF := Go.Lib.hid fin
      clear fin e1 hc
      have n1 : 1 ≤ n := by omega
      have n8 : n ≤ 8 := by omega
      clear h1
      rcases h2 with h2 | h2
      · go_enter Try.func10, Try.ntmps10
        go_wp2
        go_ret2
        exact HF.out
      · go_enter Try.func10, Try.ntmps10
        go_wp2
        go_ret2
        exact HF.out
    · have n1 : 1 ≤ n := by omega
      have n8 : n ≤ 8 := by omega
      have q1 : 1 ≤ q := by omega
      have q64 : q ≤ 64 := by omega
      have HC : Hid (∀ k, k < n → (wt k < 1 ∨ 16 < wt k) → codeOf n q wt = 33) := fun k hk hw => by
        unfold codeOf; rw [if_neg h1, if_neg h2, if_pos ⟨k, hk, hw⟩]
      have HD : Hid ((∀ k, k < n → 1 ≤ wt k ∧ wt k ≤ 16) → codeOf n q wt = 0) := fun h => by
        unfold codeOf; rw [if_neg h1, if_neg h2, if_neg (by rintro ⟨i, hi, h'⟩; have := h i hi; omega)]
      clear h1 h2
      obtain ⟨b, off, rfl, hb, hz⟩ := hc (by omega)
      have HZ := Go.Lib.hid hz
      clear hc hz
      have hmk := make_ints n (by omega)
      go_enter Try.func10, Try.ntmps10
      go_wp2
      have B0 : Blk (w.alloc (.cells (ints n fun _ => 0) 3)) w.heap.size (ints n fun i => if i < 0 then q * wt i else 0) 3 := by
        have := Blk.new w (ints n fun _ => 0) 3
        simpa using this
      have Q0 : Quiet w (w.alloc (.cells (ints n fun _ => 0) 3)) := (Alters.refl _).alloc _
      go_loopw [7, 8, 28] (fun _ _ i wr => ∃ k : Nat, k ≤ n ∧ i = .int .i64 k ∧ Go.RowKit.Hid (∀ j, j < k → 1 ≤ wt j ∧ wt j ≤ 16) ∧ Blk wr w.heap.size (ints n fun i => if i < k then q * wt i else 0) 3 ∧ Quiet w wr) (fun _ _ i _ => n - (intOf i).toNat)
      case atStart => exact ⟨0, Nat.zero_le _, rfl, fun j hj => by omega, B0, Q0⟩
      case round =>
        obtain ⟨k, hk, rfl, HK, B, hQ⟩ := hrel
        clear B0 Q0
        by_cases hlt : k < n
        · have hzk := hQ.cell (HZ.out k hlt) (by simp)
          by_cases hv : 1 ≤ wt k ∧ wt k ≤ 16
          · obtain ⟨v1, v2⟩ := hv
            have m1 : 1 ≤ q * wt k := by have := Int.mul_le_mul q1 v1 (by omega) (by omega); omega
            have m2 : q * wt k ≤ 1024 := by have := Int.mul_le_mul q64 v2 (by omega) (by omega); omega
            have fz := fun i => B.free i
            have lz := B.lt
            have B' : ∀ v, v = q * wt k → Blk (wr.setCell ⟨w.heap.size, k, none⟩ (.int .i64 v)) w.heap.size (ints n fun i => if i < k + 1 then q * wt i else 0) 3 := by
              rintro v rfl
              have := B.set k (.int .i64 (q * wt k))
              rw [ints_put] at this
              rw [show (fun i => if i < k + 1 then q * wt i else 0) = put (fun i => if i < k then q * wt i else 0) k (q * wt k) from ?_]
              · exact this
              · funext i
                unfold put
                by_cases e : i = k
                · subst e; simp
                · rw [if_neg e]
                  show _ = if i < k then q * wt i else 0
                  by_cases h : i < k
                  · rw [if_pos h, if_pos (by omega)]
                  · rw [if_neg h, if_neg (by omega)]
            have Q' : ∀ v, Quiet w (wr.setCell ⟨w.heap.size, k, none⟩ v) := fun v => hQ.set (by intro h; simp at h) _
            have HB := Go.Lib.hid B'
            have HQ' := Go.Lib.hid Q'
            have hcz := B.cell k (ints_at _ _ _ hlt)
            clear B B' Q' hQ
            go_wp2
            go_roundw
            case rel => exact ⟨k + 1, by omega, by go_num, fun j hj => by
              by_cases e : j = k
              · subst e; exact ⟨v1, v2⟩
              · exact HK.out j (by omega), HB.out _ rfl, HQ'.out _⟩
            case measure => simp [intOf]; omega
          · have e1 : codeOf n q wt = 33 := HC.out k hlt (by omega)
            have fin : NewEnds n q wt w (.returned (.tuple #[.pointer none, .int .i64 33])) wr := by
              unfold NewEnds; rw [e1]; exact ⟨hQ, .inl ⟨by omega, rfl⟩⟩
            have HF := Go.Lib.hid fin
            clear fin e1 HC HD B hQ
            rcases Int.lt_or_le (wt k) 1 with hv1 | hv1
            · clear hv
              go_wp2
              go_ret2
              exact HF.out
            · have hv2 : 16 < wt k := by omega
              clear hv
              go_wp2
              go_ret2
              exact HF.out
        · obtain rfl : k = n := by omega
          have e0 := HD.out HK.out
          have Bg : Blk wr w.heap.size (ints k fun i => q * wt i) 3 := by
            have e : (ints k fun i => if i < k then q * wt i else 0) = ints k fun i => q * wt i := by
              apply Array.ext
              · simp [ints]
              · intro i h1 h2
                have : i < k := by simpa [ints] using h2
                simp [ints, this]
            rw [← e]; exact B
          have hsz := hQ.size
          have hlt2 := B.lt
          have hmk2 := make_ints k (by omega) wr
          have fin : ∀ o, o = Obj.cells #[.slice (some ⟨w.heap.size, 0, none⟩) k k, .slice (some ⟨wr.heap.size, 0, none⟩) k k, .int .i64 0, .bool false] 44 →
              NewEnds k q wt w (.returned (.tuple #[.pointer (some ⟨wr.heap.size + 1, 0, none⟩), .int .i64 0])) ((wr.alloc (.cells (ints k fun _ => 0) 3)).alloc o) := by
            rintro o rfl
            refine ⟨(hQ.alloc _).alloc _, .inr ⟨e0, wr.heap.size + 1, w.heap.size, wr.heap.size, rfl, by omega, by omega, by omega, ?_, (Bg.alloc _).alloc _, (Blk.new _ _ _).alloc _, by omega, by omega, by omega⟩⟩
            have := Blk.new (wr.alloc (.cells (ints k fun _ => 0) 3)) #[.slice (some ⟨w.heap.size, 0, none⟩) k k, .slice (some ⟨wr.heap.size, 0, none⟩) k k, .int .i64 0, .bool false] 44
            rw [show (wr.alloc (.cells (ints k fun _ => 0) 3)).heap.size = wr.heap.size + 1 from by simp] at this
            exact this
          have HF := Go.Lib.hid fin
          clear fin e0 HC HD B Bg hQ hmk
          go_wp2
          go_ret2
          exact HF.out _ rfl
end Go.Proofs.Ytoebhifnfomkhaa
