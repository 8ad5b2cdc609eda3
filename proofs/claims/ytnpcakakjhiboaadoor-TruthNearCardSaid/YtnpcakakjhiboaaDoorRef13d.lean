/- Whether a node holds at a place, as the model tells it (d). No condition. -/
import Derived.Test.YtnpcakakjhiboaaDoorRef13
import Derived.Test.YtnpcakakjhiboaaDoorMem
namespace Go.Proofs.YtnpcakakjhiboaaDoor
open Go Go.RowKit Go.Lo Go.WideShapes

set_option maxRecDepth 100000 in
set_option maxHeartbeats 8000000 in
theorem h134_12 (nm : ByteArray) (cmp val lo hi : Int) (x6 : Value) (a : Option Addr) (cap : Nat) (L : List Hp) (i : Nat) (ra1 : Option Addr) (rc1 : Nat) (l1 : List Bool) (ra2 : Option Addr) (rc2 : Nat) (l2 : List Bool) (w : World) (hw : WdAt w a L) (hok : wordOk (pts L) = true) (hi' : i < L.length) (hr1 : BlAt w ra1 l1) (hn1 : l1.length = L.length) (hr2 : BlAt w ra2 l2) (hn2 : l2.length = L.length) : Calls Tryd.prog 134 #[.agg #[.int .i64 12, .string nm, .int .i64 cmp, .int .i64 val, .int .i64 lo, .int .i64 hi, x6], .slice a L.length cap, .int .i64 (i : Int), .slice ra1 l1.length rc1, .slice ra2 l2.length rc2] w (Said (.bool (!unT (pts L) lo hi (fun j => !rowT l1 j) (fun j => !rowT l2 j) i)) w) := by
  obtain ⟨rb1, ro1, rfl, hc1⟩ := hr1 (fun h => by subst h; simp at hn1; omega)
  have HC1 := Go.Lib.hid hc1
  have HN1 := Go.Lib.hid hn1
  clear hr1 hc1 hn1
  obtain ⟨rb2, ro2, rfl, hc2⟩ := hr2 (fun h => by subst h; simp at hn2; omega)
  have HC2 := Go.Lib.hid hc2
  have HN2 := Go.Lib.hid hn2
  clear hr2 hc2 hn2
  go_enter Tryd.func134, Tryd.ntmps134
  have hB := Blk.new w #[.int .i64 12, .string nm, .int .i64 cmp, .int .i64 val, .int .i64 lo, .int .i64 hi, x6] 33
  have hq1 : Quiet w (w.alloc (.cells #[.int .i64 12, .string nm, .int .i64 cmp, .int .i64 val, .int .i64 lo, .int .i64 hi, x6] 33)) := (Alters.refl _).alloc _
  go_upto_region 1 with (fail)
  generalize w.alloc _ = w1 at *
  have HQ1 := Go.Lib.hid hq1
  have HB1 := Go.Lib.hid hB
  clear hq1 hB
  have HW := Go.Lib.hid hw
  have HOK := Go.Lib.hid hok
  have hl := hw.len
  unfold maxLen at hl
  have k0 := HB1.out.cell 0 rfl
  clear hw hok
  go_upto_region 17 with (fail)
  clear k0
  go_wp2_with fail
  go_loopw [11, 12, 13] (fun ahv shv x wr => ∃ (j : Nat) (ah sh : Bool), i ≤ j ∧ j ≤ L.length ∧ x = .int .i64 j ∧ ahv = .bool ah ∧ shv = .bool sh ∧ ((∀ k, i ≤ k → k < j → inR (pts L) lo hi i k = true → (fun j => !rowT l2 j) k = true → ¬ ∀ m, i ≤ m → m < k → (fun j => !rowT l1 j) m = true) ∧ (ah = false ↔ ∀ m, i ≤ m → m < j → (fun j => !rowT l1 j) m = true)) ∧ Quiet w1 wr) (fun _ _ x _ => L.length - (intOf x).toNat)
  case atStart => exact ⟨i, false, true, Nat.le_refl _, by omega, rfl, rfl, rfl, ⟨fun k h1 h2 => by omega, by simp; intro m h1 h2; omega⟩, Alters.refl _⟩
  case round =>
    obtain ⟨j, ah, sh, hij, hj, rfl, rfl, rfl, hE, hQ⟩ := hrel
    have HQ := Go.Lib.hid hQ
    have HE := Go.Lib.hid hE
    have HQW := Go.Lib.hid (HQ1.out.trans hQ)
    have hbx := hQ.blk HB1.out (by simp)
    clear hE hQ
    obtain ⟨k0, k1, k2, k3, k4, k5, k6⟩ := seven_cells hbx
    by_cases hlt : j < L.length
    rotate_left
    · have HP : Hid ((!unT (pts L) lo hi (fun j => !rowT l1 j) (fun j => !rowT l2 j) i) = true) := Go.Lib.hid (by rw [un_end HE.out.1 (by rw [pts_len]; omega)]; rfl)
      go_wp2_with fail
      go_ret
      exact ⟨by rw [HP.out]; rfl, HQW.out⟩
    · have hjj : decide (i ≤ j) = true := by simpa using hij
      obtain ⟨x1, hx1⟩ : ∃ x, l1[j]? = some x := ⟨_, List.getElem?_eq_getElem (by have := HN1.out; omega)⟩
      have lj1 : j < l1.length := by have := HN1.out; omega
      have f1 := HQW.out.cell (HC1.out j x1 hx1) (by simp)
      have HX1 := Go.Lib.hid (rowT_at hx1)
      clear hx1
      obtain ⟨x2, hx2⟩ : ∃ x, l2[j]? = some x := ⟨_, List.getElem?_eq_getElem (by have := HN2.out; omega)⟩
      have lj2 : j < l2.length := by have := HN2.out; omega
      have f2 := HQW.out.cell (HC2.out j x2 hx2) (by simp)
      have HX2 := Go.Lib.hid (rowT_at hx2)
      clear hx2
      have HI := Go.Lib.hid (in166_walk (.int .i64 12) (.string nm) (.int .i64 cmp) (.int .i64 val) x6 lo hi a cap L i j wr (HW.out.quiet HQW.out) HOK.out hij hlt)
      go_wp2_with fail
      refine HI.out.mono ?_
      rintro e w3 ⟨rfl, hq3⟩
      clear HI k0 k1 k2 k3 k4 k5 k6
      replace hbx := hq3.blk hbx (by simp)
      obtain ⟨k0, k1, k2, k3, k4, k5, k6⟩ := seven_cells hbx
      replace f1 := hq3.cell f1 (by simp)
      replace f2 := hq3.cell f2 (by simp)
      have HQ3 := Go.Lib.hid (HQ.out.trans hq3)
      clear hbx hq3
      cases hin : inR (pts L) lo hi i j
      · have HINR := Go.Lib.hid hin
        clear hin
        cases ah <;> cases sh <;> cases x1 <;> cases x2
        · go_wp2_with fail
          go_roundw
          case rel => exact ⟨j + 1, _, _, by omega, by omega, by go_num, rfl, rfl, ⟨un_next HE.out.1 (fun h _ => by rw [HINR.out] at h; cases h), ⟨fun _ => up_to (HE.out.2.1 (by trivial)) (by first | exact HX1.out | (simp only [HX1.out]; done) | (simp only [HX1.out]; rfl)), fun _ => rfl⟩⟩, HQ3.out⟩
          case measure => simp [intOf]; omega
        · go_wp2_with fail
          go_roundw
          case rel => exact ⟨j + 1, _, _, by omega, by omega, by go_num, rfl, rfl, ⟨un_next HE.out.1 (fun h _ => by rw [HINR.out] at h; cases h), ⟨fun _ => up_to (HE.out.2.1 (by trivial)) (by first | exact HX1.out | (simp only [HX1.out]; done) | (simp only [HX1.out]; rfl)), fun _ => rfl⟩⟩, HQ3.out⟩
          case measure => simp [intOf]; omega
        · go_wp2_with fail
          go_roundw
          case rel => exact ⟨j + 1, _, _, by omega, by omega, by go_num, rfl, rfl, ⟨un_next HE.out.1 (fun h _ => by rw [HINR.out] at h; cases h), ⟨fun h => (by cases h), fun h => by have := h j hij (by omega); simp [HX1.out] at this⟩⟩, HQ3.out⟩
          case measure => simp [intOf]; omega
        · go_wp2_with fail
          go_roundw
          case rel => exact ⟨j + 1, _, _, by omega, by omega, by go_num, rfl, rfl, ⟨un_next HE.out.1 (fun h _ => by rw [HINR.out] at h; cases h), ⟨fun h => (by cases h), fun h => by have := h j hij (by omega); simp [HX1.out] at this⟩⟩, HQ3.out⟩
          case measure => simp [intOf]; omega
        · go_wp2_with fail
          go_roundw
          case rel => exact ⟨j + 1, _, _, by omega, by omega, by go_num, rfl, rfl, ⟨un_next HE.out.1 (fun h _ => by rw [HINR.out] at h; cases h), ⟨fun _ => up_to (HE.out.2.1 (by trivial)) (by first | exact HX1.out | (simp only [HX1.out]; done) | (simp only [HX1.out]; rfl)), fun _ => rfl⟩⟩, HQ3.out⟩
          case measure => simp [intOf]; omega
        · go_wp2_with fail
          go_roundw
          case rel => exact ⟨j + 1, _, _, by omega, by omega, by go_num, rfl, rfl, ⟨un_next HE.out.1 (fun h _ => by rw [HINR.out] at h; cases h), ⟨fun _ => up_to (HE.out.2.1 (by trivial)) (by first | exact HX1.out | (simp only [HX1.out]; done) | (simp only [HX1.out]; rfl)), fun _ => rfl⟩⟩, HQ3.out⟩
          case measure => simp [intOf]; omega
        · go_wp2_with fail
          go_roundw
          case rel => exact ⟨j + 1, _, _, by omega, by omega, by go_num, rfl, rfl, ⟨un_next HE.out.1 (fun h _ => by rw [HINR.out] at h; cases h), ⟨fun h => (by cases h), fun h => by have := h j hij (by omega); simp [HX1.out] at this⟩⟩, HQ3.out⟩
          case measure => simp [intOf]; omega
        · go_wp2_with fail
          go_roundw
          case rel => exact ⟨j + 1, _, _, by omega, by omega, by go_num, rfl, rfl, ⟨un_next HE.out.1 (fun h _ => by rw [HINR.out] at h; cases h), ⟨fun h => (by cases h), fun h => by have := h j hij (by omega); simp [HX1.out] at this⟩⟩, HQ3.out⟩
          case measure => simp [intOf]; omega
        · go_wp2_with fail
          go_roundw
          case rel => exact ⟨j + 1, _, _, by omega, by omega, by go_num, rfl, rfl, ⟨un_next HE.out.1 (fun h _ => by rw [HINR.out] at h; cases h), ⟨fun h => (by cases h), fun h => by have := HE.out.2.2 (fun m a b => h m a (by omega)); cases this⟩⟩, HQ3.out⟩
          case measure => simp [intOf]; omega
        · go_wp2_with fail
          go_roundw
          case rel => exact ⟨j + 1, _, _, by omega, by omega, by go_num, rfl, rfl, ⟨un_next HE.out.1 (fun h _ => by rw [HINR.out] at h; cases h), ⟨fun h => (by cases h), fun h => by have := HE.out.2.2 (fun m a b => h m a (by omega)); cases this⟩⟩, HQ3.out⟩
          case measure => simp [intOf]; omega
        · go_wp2_with fail
          go_roundw
          case rel => exact ⟨j + 1, _, _, by omega, by omega, by go_num, rfl, rfl, ⟨un_next HE.out.1 (fun h _ => by rw [HINR.out] at h; cases h), ⟨fun h => (by cases h), fun h => by have := HE.out.2.2 (fun m a b => h m a (by omega)); cases this⟩⟩, HQ3.out⟩
          case measure => simp [intOf]; omega
        · go_wp2_with fail
          go_roundw
          case rel => exact ⟨j + 1, _, _, by omega, by omega, by go_num, rfl, rfl, ⟨un_next HE.out.1 (fun h _ => by rw [HINR.out] at h; cases h), ⟨fun h => (by cases h), fun h => by have := HE.out.2.2 (fun m a b => h m a (by omega)); cases this⟩⟩, HQ3.out⟩
          case measure => simp [intOf]; omega
        · go_wp2_with fail
          go_roundw
          case rel => exact ⟨j + 1, _, _, by omega, by omega, by go_num, rfl, rfl, ⟨un_next HE.out.1 (fun h _ => by rw [HINR.out] at h; cases h), ⟨fun h => (by cases h), fun h => by have := HE.out.2.2 (fun m a b => h m a (by omega)); cases this⟩⟩, HQ3.out⟩
          case measure => simp [intOf]; omega
        · go_wp2_with fail
          go_roundw
          case rel => exact ⟨j + 1, _, _, by omega, by omega, by go_num, rfl, rfl, ⟨un_next HE.out.1 (fun h _ => by rw [HINR.out] at h; cases h), ⟨fun h => (by cases h), fun h => by have := HE.out.2.2 (fun m a b => h m a (by omega)); cases this⟩⟩, HQ3.out⟩
          case measure => simp [intOf]; omega
        · go_wp2_with fail
          go_roundw
          case rel => exact ⟨j + 1, _, _, by omega, by omega, by go_num, rfl, rfl, ⟨un_next HE.out.1 (fun h _ => by rw [HINR.out] at h; cases h), ⟨fun h => (by cases h), fun h => by have := HE.out.2.2 (fun m a b => h m a (by omega)); cases this⟩⟩, HQ3.out⟩
          case measure => simp [intOf]; omega
        · go_wp2_with fail
          go_roundw
          case rel => exact ⟨j + 1, _, _, by omega, by omega, by go_num, rfl, rfl, ⟨un_next HE.out.1 (fun h _ => by rw [HINR.out] at h; cases h), ⟨fun h => (by cases h), fun h => by have := HE.out.2.2 (fun m a b => h m a (by omega)); cases this⟩⟩, HQ3.out⟩
          case measure => simp [intOf]; omega
      · have HINR := Go.Lib.hid hin
        clear hin
        cases ah <;> cases sh <;> cases x1 <;> cases x2
        · have HP : Hid ((!unT (pts L) lo hi (fun j => !rowT l1 j) (fun j => !rowT l2 j) i) = false) := Go.Lib.hid (by rw [un_hit (j := j) (by rw [pts_len]; exact hlt) HINR.out (by first | exact HX2.out | (simp only [HX2.out]; done) | (simp only [HX2.out]; rfl)) (HE.out.2.1 (by trivial))]; rfl)
          go_wp2_with fail
          go_ret
          exact ⟨by rw [HP.out]; rfl, HQ1.out.trans HQ3.out⟩
        · go_wp2_with fail
          go_roundw
          case rel => exact ⟨j + 1, _, _, by omega, by omega, by go_num, rfl, rfl, ⟨un_next HE.out.1 (fun _ h => by simp [HX2.out] at h), ⟨fun _ => up_to (HE.out.2.1 (by trivial)) (by first | exact HX1.out | (simp only [HX1.out]; done) | (simp only [HX1.out]; rfl)), fun _ => rfl⟩⟩, HQ3.out⟩
          case measure => simp [intOf]; omega
        · have HP : Hid ((!unT (pts L) lo hi (fun j => !rowT l1 j) (fun j => !rowT l2 j) i) = false) := Go.Lib.hid (by rw [un_hit (j := j) (by rw [pts_len]; exact hlt) HINR.out (by first | exact HX2.out | (simp only [HX2.out]; done) | (simp only [HX2.out]; rfl)) (HE.out.2.1 (by trivial))]; rfl)
          go_wp2_with fail
          go_ret
          exact ⟨by rw [HP.out]; rfl, HQ1.out.trans HQ3.out⟩
        · go_wp2_with fail
          go_roundw
          case rel => exact ⟨j + 1, _, _, by omega, by omega, by go_num, rfl, rfl, ⟨un_next HE.out.1 (fun _ h => by simp [HX2.out] at h), ⟨fun h => (by cases h), fun h => by have := h j hij (by omega); simp [HX1.out] at this⟩⟩, HQ3.out⟩
          case measure => simp [intOf]; omega
        · have HP : Hid ((!unT (pts L) lo hi (fun j => !rowT l1 j) (fun j => !rowT l2 j) i) = false) := Go.Lib.hid (by rw [un_hit (j := j) (by rw [pts_len]; exact hlt) HINR.out (by first | exact HX2.out | (simp only [HX2.out]; done) | (simp only [HX2.out]; rfl)) (HE.out.2.1 (by trivial))]; rfl)
          go_wp2_with fail
          go_ret
          exact ⟨by rw [HP.out]; rfl, HQ1.out.trans HQ3.out⟩
        · go_wp2_with fail
          go_roundw
          case rel => exact ⟨j + 1, _, _, by omega, by omega, by go_num, rfl, rfl, ⟨un_next HE.out.1 (fun _ h => by simp [HX2.out] at h), ⟨fun _ => up_to (HE.out.2.1 (by trivial)) (by first | exact HX1.out | (simp only [HX1.out]; done) | (simp only [HX1.out]; rfl)), fun _ => rfl⟩⟩, HQ3.out⟩
          case measure => simp [intOf]; omega
        · have HP : Hid ((!unT (pts L) lo hi (fun j => !rowT l1 j) (fun j => !rowT l2 j) i) = false) := Go.Lib.hid (by rw [un_hit (j := j) (by rw [pts_len]; exact hlt) HINR.out (by first | exact HX2.out | (simp only [HX2.out]; done) | (simp only [HX2.out]; rfl)) (HE.out.2.1 (by trivial))]; rfl)
          go_wp2_with fail
          go_ret
          exact ⟨by rw [HP.out]; rfl, HQ1.out.trans HQ3.out⟩
        · go_wp2_with fail
          go_roundw
          case rel => exact ⟨j + 1, _, _, by omega, by omega, by go_num, rfl, rfl, ⟨un_next HE.out.1 (fun _ h => by simp [HX2.out] at h), ⟨fun h => (by cases h), fun h => by have := h j hij (by omega); simp [HX1.out] at this⟩⟩, HQ3.out⟩
          case measure => simp [intOf]; omega
        · go_wp2_with fail
          go_roundw
          case rel => exact ⟨j + 1, _, _, by omega, by omega, by go_num, rfl, rfl, ⟨un_next HE.out.1 (fun _ _ h => by have := HE.out.2.2 h; cases this), ⟨fun h => (by cases h), fun h => by have := HE.out.2.2 (fun m a b => h m a (by omega)); cases this⟩⟩, HQ3.out⟩
          case measure => simp [intOf]; omega
        · go_wp2_with fail
          go_roundw
          case rel => exact ⟨j + 1, _, _, by omega, by omega, by go_num, rfl, rfl, ⟨un_next HE.out.1 (fun _ h => by simp [HX2.out] at h), ⟨fun h => (by cases h), fun h => by have := HE.out.2.2 (fun m a b => h m a (by omega)); cases this⟩⟩, HQ3.out⟩
          case measure => simp [intOf]; omega
        · go_wp2_with fail
          go_roundw
          case rel => exact ⟨j + 1, _, _, by omega, by omega, by go_num, rfl, rfl, ⟨un_next HE.out.1 (fun _ _ h => by have := HE.out.2.2 h; cases this), ⟨fun h => (by cases h), fun h => by have := HE.out.2.2 (fun m a b => h m a (by omega)); cases this⟩⟩, HQ3.out⟩
          case measure => simp [intOf]; omega
        · go_wp2_with fail
          go_roundw
          case rel => exact ⟨j + 1, _, _, by omega, by omega, by go_num, rfl, rfl, ⟨un_next HE.out.1 (fun _ h => by simp [HX2.out] at h), ⟨fun h => (by cases h), fun h => by have := HE.out.2.2 (fun m a b => h m a (by omega)); cases this⟩⟩, HQ3.out⟩
          case measure => simp [intOf]; omega
        · go_wp2_with fail
          go_roundw
          case rel => exact ⟨j + 1, _, _, by omega, by omega, by go_num, rfl, rfl, ⟨un_next HE.out.1 (fun _ _ h => by have := HE.out.2.2 h; cases this), ⟨fun h => (by cases h), fun h => by have := HE.out.2.2 (fun m a b => h m a (by omega)); cases this⟩⟩, HQ3.out⟩
          case measure => simp [intOf]; omega
        · go_wp2_with fail
          go_roundw
          case rel => exact ⟨j + 1, _, _, by omega, by omega, by go_num, rfl, rfl, ⟨un_next HE.out.1 (fun _ h => by simp [HX2.out] at h), ⟨fun h => (by cases h), fun h => by have := HE.out.2.2 (fun m a b => h m a (by omega)); cases this⟩⟩, HQ3.out⟩
          case measure => simp [intOf]; omega
        · go_wp2_with fail
          go_roundw
          case rel => exact ⟨j + 1, _, _, by omega, by omega, by go_num, rfl, rfl, ⟨un_next HE.out.1 (fun _ _ h => by have := HE.out.2.2 h; cases this), ⟨fun h => (by cases h), fun h => by have := HE.out.2.2 (fun m a b => h m a (by omega)); cases this⟩⟩, HQ3.out⟩
          case measure => simp [intOf]; omega
        · go_wp2_with fail
          go_roundw
          case rel => exact ⟨j + 1, _, _, by omega, by omega, by go_num, rfl, rfl, ⟨un_next HE.out.1 (fun _ h => by simp [HX2.out] at h), ⟨fun h => (by cases h), fun h => by have := HE.out.2.2 (fun m a b => h m a (by omega)); cases this⟩⟩, HQ3.out⟩
          case measure => simp [intOf]; omega
end Go.Proofs.YtnpcakakjhiboaaDoor
