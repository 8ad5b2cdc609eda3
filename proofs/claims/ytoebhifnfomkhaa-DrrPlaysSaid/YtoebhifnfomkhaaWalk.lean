/- The walks of the drr package's functions. No condition. -/
import Derived.Test.YtoebhifnfomkhaaRows
import Derived.Test.YtoebhifnfomkhaaDrr
import Derived.Test.YtoebhifnfomkhaaScope
import Derived.Outline
import Derived.Deep.QuietTactic
import Derived.BigQuiet
import Derived.Lib.Hide
import Derived.StillTailTactics
import Derived.RegionTactic
import Derived.ChangeAlike
namespace Go.Proofs.Ytoebhifnfomkhaa
open Go.RowKit Go.Lo

/-- n numbers, one behind the other. -/
def ints (n : Nat) (f : Nat → Int) : Array Value := (Array.range n).map fun i => .int .i64 (f i)
theorem ints_at (n : Nat) (f : Nat → Int) (i : Nat) (h : i < n) : (ints n f)[i]? = some (.int .i64 (f i)) := by simp [ints, h]
theorem ints_put (n : Nat) (f : Nat → Int) (k : Nat) (v : Int) : (ints n f).setIfInBounds k (.int .i64 v) = ints n (put f k v) := by
  unfold ints
  apply Array.ext
  · simp
  · intro i h1 h2
    rw [Array.getElem_setIfInBounds (by simpa using h2)]
    by_cases e : k = i
    · subst e; simp [put]
    · rw [if_neg e, Array.getElem_map, Array.getElem_map, Array.getElem_range, put_other _ _ _ _ (fun h => e h.symm)]

/-- Memory holds a Drr that stands as d: its own block, its gains, its deficits. -/
structure IsDrr (w : World) (bd bg bl : Nat) (d : D) : Prop where
  own : Blk w bd #[.slice (some ⟨bg, 0, none⟩) d.n d.n, .slice (some ⟨bl, 0, none⟩) d.n d.n, .int .i64 d.p, .bool d.b] 44
  gain : Blk w bg (ints d.n d.g) 3
  left : Blk w bl (ints d.n d.f) 3
  gd : bg ≠ bd
  ld : bl ≠ bd
  gl : bg ≠ bl

theorem IsDrr.cells {w : World} {bd bg bl : Nat} {d : D} (h : IsDrr w bd bg bl d) :
    w.cell? ⟨bd, 0, none⟩ = some (.slice (some ⟨bg, 0, none⟩) d.n d.n) ∧ w.cell? ⟨bd, 1, none⟩ = some (.slice (some ⟨bl, 0, none⟩) d.n d.n) ∧ w.cell? ⟨bd, 2, none⟩ = some (.int .i64 d.p) ∧ w.cell? ⟨bd, 3, none⟩ = some (.bool d.b) :=
  ⟨h.own.cell 0 rfl, h.own.cell 1 rfl, h.own.cell 2 rfl, h.own.cell 3 rfl⟩

theorem Quiet.drr {w w' : World} {bd bg bl : Nat} {d : D} (hq : Quiet w w') (h : IsDrr w bd bg bl d) : IsDrr w' bd bg bl d :=
  ⟨hq.blk h.own (by simp), hq.blk h.gain (by simp), hq.blk h.left (by simp), h.gd, h.ld, h.gl⟩

theorem IsDrr.drew {w : World} {bd bg bl : Nat} {d : D} (h : IsDrr w bd bg bl d) : IsDrr w.drew bd bg bl d := ⟨h.own, h.gain, h.left, h.gd, h.ld, h.gl⟩

theorem IsDrr.drewN {w : World} {bd bg bl : Nat} {d : D} (h : IsDrr w bd bg bl d) (n : Nat) : IsDrr (w.drewN n) bd bg bl d := ⟨h.own, h.gain, h.left, h.gd, h.ld, h.gl⟩

/-- The visit goes on to the next one. -/
theorem IsDrr.pass {w : World} {bd bg bl : Nat} {d : D} (h : IsDrr w bd bg bl d) :
    IsDrr ((w.setCell ⟨bd, 2, none⟩ (.int .i64 ((d.p + 1) % d.n : Nat))).setCell ⟨bd, 3, none⟩ (.bool false)) bd bg bl d.pass :=
  ⟨(h.own.set 2 _).set 3 _, (h.gain.set_other h.gd _).set_other h.gd _, (h.left.set_other h.ld _).set_other h.ld _, h.gd, h.ld, h.gl⟩

theorem waits_walk (a : Option Addr) (len cap : Nat) (z : Nat → Int) (w : World) (hl : len ≤ maxLen) (hc : 0 < len → ∃ b off, a = some ⟨b, off, none⟩ ∧ b < w.heap.size ∧ ∀ i, i < len → w.cell? ⟨b, off + i, none⟩ = some (.int .i64 (z i))) :
    Calls Try.prog 16 #[.slice a len cap] w fun e w' => (((∃ j, j < len ∧ 0 < z j) ∧ e = .returned (.bool true)) ∨ ((∀ j, j < len → z j ≤ 0) ∧ e = .returned (.bool false))) ∧ w = w' := by
  have HC := Go.Lib.hid hc
  clear hc
  unfold maxLen at hl
  go_enter Try.func16, Try.ntmps16
  go_wp2
  go_loop [4, 7] (fun _ i => ∃ k : Nat, k ≤ len ∧ i = .int .i64 k ∧ Go.RowKit.Hid (∀ j, j < k → z j ≤ 0)) (fun _ i => len - (intOf i).toNat)
  case atStart => exact ⟨0, Nat.zero_le _, rfl, fun j hj => by omega⟩
  case round =>
    obtain ⟨k, hk, rfl, H⟩ := hrel
    by_cases hlt : k < len
    · obtain ⟨b, off, rfl, hb, hz⟩ := HC.out (by omega)
      have hzk := hz k hlt
      clear hz
      by_cases hp : 0 < z k
      · go_wp2
        go_ret
        exact ⟨.inl ⟨⟨k, hlt, hp⟩, rfl⟩, rfl⟩
      · go_wp2
        go_round
        case rel => exact ⟨k + 1, by omega, by go_num, fun j hj => by
          by_cases e : j = k
          · subst e; omega
          · exact H.out j (by omega)⟩
        case measure => simp [intOf]; omega
    · obtain rfl : k = len := by omega
      go_wp2
      go_ret
      exact ⟨.inr ⟨H.out, rfl⟩, rfl⟩

set_option maxHeartbeats 400000 in
theorem pass_walk (bd bg bl : Nat) (d : D) (w : World) (h : IsDrr w bd bg bl d) (ok : d.Ok) :
    Calls Try.prog 17 #[.pointer (some ⟨bd, 0, none⟩)] w fun e w' => e = .returned (.tuple #[]) ∧ IsDrr w' bd bg bl d.pass ∧ Alters (fun k => k = bd) w w' := by
  obtain ⟨h0, -, h2, h3⟩ := h.cells
  have hf := fun i => h.own.free i
  have HI := Go.Lib.hid h
  have n1 := ok.n1
  have n8 := ok.n8
  have p1 := ok.p1
  clear h ok
  have hm : ((d.p : Int) + 1) % d.n = (((d.p + 1) % d.n : Nat) : Int) := by simp
  have HM := Go.Lib.hid hm
  clear hm
  go_enter Try.func17, Try.ntmps17
  go_wp2
  go_region
  go_wp2
  go_end0
  have e := HM.out
  refine ⟨rfl, ?_, ?_⟩
  · rw [e]
    exact HI.out.pass.drew
  · exact (((Alters.refl w).set (by simp) _).set (by simp) _).drew
end Go.Proofs.Ytoebhifnfomkhaa
