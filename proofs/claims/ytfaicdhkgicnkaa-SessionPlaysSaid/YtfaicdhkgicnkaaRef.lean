/- The walks of the document's session, by definition. No condition. -/
import Derived.Test.YtfaicdhkgicnkaaActs
import Derived.StillTailTactics
import Derived.RegionTactic
import Derived.ChangeAlike
namespace Go.Proofs.Ytfaicdhkgicnkaa
open Go.RowKit Go.Lo

abbrev Ses.agg (s : Ses) : Value := .agg #[.bool s.o, .bool s.sp, .int .u64 s.n, .int .i64 s.l]

theorem refnew_any (w : World) :
    Calls Try.prog 13 #[] w fun e w' => e = .returned (.agg #[.bool false, .bool false, .int .u64 0, .int .i64 (-1)]) ∧ Quiet w w' := by
  have HF := Go.Lib.hid (fun o => (Alters.refl (p := fun _ => False) w).alloc o)
  go_enter Try.func13, Try.ntmps13
  go_wp2
  exact bodyPost_ret (v := .agg #[.bool false, .bool false, .int .u64 0, .int .i64 (-1)]) (by simp [results, Try.results13, go_sem]) rfl ⟨rfl, HF.out _⟩

def RefEnds (w : World) (v : Value) (e : Ending) (w' : World) : Prop := e = .returned v ∧ Quiet w w'

set_option maxHeartbeats 400000 in
theorem refhello_any (x y : Bool) (n l q : Int) (w : World) :
    Calls Try.prog 15 #[.agg #[.bool x, .bool y, .int .u64 n, .int .i64 l], .int .u64 q] w (RefEnds w (.tuple #[(Ses.hello ⟨x, y, n, l⟩ q).1.agg, .int .i64 (Ses.hello ⟨x, y, n, l⟩ q).2])) := by
  have HF := Go.Lib.hid (fun o o' => ((Alters.refl (p := fun _ => False) w).alloc o).alloc o')
  cases x
  · go_enter Try.func15, Try.ntmps15
    go_wp2
    exact bodyPost_ret (v := .tuple #[.agg #[.bool true, .bool false, .int .u64 q, .int .i64 l], .int .i64 0]) (by simp [results, Try.results15, go_sem]) rfl ⟨rfl, HF.out _ _⟩
  · go_enter Try.func15, Try.ntmps15
    go_wp2
    exact bodyPost_ret (v := .tuple #[.agg #[.bool true, .bool y, .int .u64 n, .int .i64 l], .int .i64 41]) (by simp [results, Try.results15, go_sem]) rfl ⟨rfl, HF.out _ _⟩

set_option maxHeartbeats 400000 in
theorem refbye_any (x y : Bool) (n l : Int) (w : World) :
    Calls Try.prog 18 #[.agg #[.bool x, .bool y, .int .u64 n, .int .i64 l]] w (RefEnds w (.tuple #[(Ses.bye ⟨x, y, n, l⟩).1.agg, .int .i64 (Ses.bye ⟨x, y, n, l⟩).2])) := by
  have HF := Go.Lib.hid (fun o o' => ((Alters.refl (p := fun _ => False) w).alloc o).alloc o')
  cases x
  · go_enter Try.func18, Try.ntmps18
    go_wp2
    exact bodyPost_ret (v := .tuple #[.agg #[.bool false, .bool y, .int .u64 n, .int .i64 l], .int .i64 40]) (by simp [results, Try.results18, go_sem]) rfl ⟨rfl, HF.out _ _⟩
  · go_enter Try.func18, Try.ntmps18
    go_wp2
    exact bodyPost_ret (v := .tuple #[.agg #[.bool false, .bool y, .int .u64 n, .int .i64 l], .int .i64 0]) (by simp [results, Try.results18, go_sem]) rfl ⟨rfl, HF.out _ _⟩

set_option maxHeartbeats 400000 in
theorem refbeat_any (x y : Bool) (n l a : Int) (w : World) :
    Calls Try.prog 17 #[.agg #[.bool x, .bool y, .int .u64 n, .int .i64 l], .int .i64 a] w (RefEnds w (.tuple #[(Ses.beat ⟨x, y, n, l⟩ a).1.agg, .int .i64 (Ses.beat ⟨x, y, n, l⟩ a).2])) := by
  have HF := Go.Lib.hid (fun o o' => ((Alters.refl (p := fun _ => False) w).alloc o).alloc o')
  cases x
  · go_enter Try.func17, Try.ntmps17
    go_wp2
    exact bodyPost_ret (v := .tuple #[.agg #[.bool false, .bool y, .int .u64 n, .int .i64 l], .int .i64 40]) (by simp [results, Try.results17, go_sem]) rfl ⟨rfl, HF.out _ _⟩
  · by_cases h : l < a
    · have HE := Go.Lib.hid (show Ses.beat ⟨true, y, n, l⟩ a = (⟨true, y, n, a⟩, 0) by simp [Ses.beat, h])
      go_enter Try.func17, Try.ntmps17
      go_wp2
      exact bodyPost_ret (v := .tuple #[.agg #[.bool true, .bool y, .int .u64 n, .int .i64 a], .int .i64 0]) (by simp [results, Try.results17, go_sem]) rfl ⟨by rw [HE.out], HF.out _ _⟩
    · have HE := Go.Lib.hid (show Ses.beat ⟨true, y, n, l⟩ a = (⟨true, y, n, l⟩, 0) by simp [Ses.beat, h])
      go_enter Try.func17, Try.ntmps17
      go_wp2
      exact bodyPost_ret (v := .tuple #[.agg #[.bool true, .bool y, .int .u64 n, .int .i64 l], .int .i64 0]) (by simp [results, Try.results17, go_sem]) rfl ⟨by rw [HE.out], HF.out _ _⟩

set_option maxHeartbeats 1000000 in
theorem refevent_any (s : Ses) (q a : Int) (w : World) (ok : s.Ok) (hq : 0 ≤ q ∧ q ≤ 18446744073709551615) (ha : -9223372036854775808 ≤ a ∧ a ≤ 9223372036854775807) :
    Calls Try.prog 16 #[.agg #[.bool s.o, .bool s.sp, .int .u64 s.n, .int .i64 s.l], .int .u64 q, .int .i64 a] w (RefEnds w (.tuple #[(s.event q a).1.agg, .int .u64 (s.event q a).2.1, .int .i64 (s.event q a).2.2])) := by
  have HF := Go.Lib.hid (fun o o' => ((Alters.refl (p := fun _ => False) w).alloc o).alloc o')
  have HF2 := Go.Lib.hid (fun o o' => (((Alters.refl (p := fun _ => False) w).alloc o).alloc o').drew)
  obtain ⟨o1, o2, o3, o4⟩ := ok
  obtain ⟨hq1, hq2⟩ := hq
  obtain ⟨ha1, ha2⟩ := ha
  rcases Ses.event_cases s q a with ⟨g0, h⟩ | ⟨g0, g1, h⟩ | h
  · rw [h]; clear h
    obtain ⟨x, y, n, l⟩ := s
    simp only at g0 o1 o2 o3 o4 ⊢
    subst g0
    go_enter Try.func16, Try.ntmps16
    go_wp2
    exact bodyPost_ret (v := .tuple #[.agg #[.bool false, .bool y, .int .u64 n, .int .i64 l], .int .u64 0, .int .i64 40]) (by simp [results, Try.results16, go_sem]) rfl ⟨rfl, HF.out _ _⟩
  · rw [h]; clear h
    obtain ⟨x, y, n, l⟩ := s
    simp only at g0 g1 o1 o2 o3 o4 ⊢
    subst g0
    cases y
    · have g1 : q < n := by simpa using g1
      go_enter Try.func16, Try.ntmps16
      go_wp2
      exact bodyPost_ret (v := .tuple #[.agg #[.bool true, .bool false, .int .u64 n, .int .i64 l], .int .u64 0, .int .i64 42]) (by simp [results, Try.results16, go_sem]) rfl ⟨rfl, HF.out _ _⟩
    · clear g1
      go_enter Try.func16, Try.ntmps16
      go_wp2
      exact bodyPost_ret (v := .tuple #[.agg #[.bool true, .bool true, .int .u64 n, .int .i64 l], .int .u64 0, .int .i64 42]) (by simp [results, Try.results16, go_sem]) rfl ⟨rfl, HF.out _ _⟩
  · rcases h with ⟨g0, g1, h⟩ | ⟨g0, g1, g2, g3, g4, h⟩ | ⟨g0, g1, g2, g3, g4, h⟩
    · have k0 : ¬ (s.sp = true ∨ q < s.n) := fun k0 => by
        have : s.event q a = (s, 0, 42) := by unfold Ses.event; rw [if_neg (by simp [g0]), if_pos k0]
        rw [this] at h
        simp at h
      have k1 : s.sp = false ∧ s.n ≤ q := by simpa using k0
      obtain ⟨k1, k2⟩ := k1
      rw [h]; clear h k0
      obtain ⟨x, y, n, l⟩ := s
      simp only at g0 g1 k1 k2 o1 o2 o3 o4 ⊢
      subst g0 k1
      go_enter Try.func16, Try.ntmps16
      go_wp2
      exact bodyPost_ret (v := .tuple #[.agg #[.bool true, .bool false, .int .u64 n, .int .i64 l], .int .u64 0, .int .i64 43]) (by simp [results, Try.results16, go_sem]) rfl ⟨rfl, HF.out _ _⟩
    · rw [h]; clear h
      obtain ⟨x, y, n, l⟩ := s
      simp only at g0 g1 g2 g3 g4 o1 o2 o3 o4 ⊢
      subst g0 g1
      have b0 : (q == 18446744073709551615) = true := by simpa using g4
      clear g4
      go_enter Try.func16, Try.ntmps16
      go_wp2
      go_region
      go_wp2
      exact bodyPost_ret (v := .tuple #[.agg #[.bool true, .bool true, .int .u64 q, .int .i64 (a - 1)], .int .u64 (q - n), .int .i64 0]) (by simp [results, Try.results16, go_sem]) rfl ⟨rfl, HF2.out _ _⟩
    · rw [h]; clear h
      obtain ⟨x, y, n, l⟩ := s
      simp only at g0 g1 g2 g3 g4 o1 o2 o3 o4 ⊢
      subst g0 g1
      have b0 : (q == 18446744073709551615) = false := by simpa using g4
      have b1 : q ≤ 18446744073709551614 := by omega
      clear g4
      go_enter Try.func16, Try.ntmps16
      go_wp2
      go_region
      go_wp2
      exact bodyPost_ret (v := .tuple #[.agg #[.bool true, .bool false, .int .u64 (q + 1), .int .i64 (a - 1)], .int .u64 (q - n), .int .i64 0]) (by simp [results, Try.results16, go_sem]) rfl ⟨rfl, HF2.out _ _⟩
end Go.Proofs.Ytfaicdhkgicnkaa
