/- What a session is, in plain Lean, and the walks of the session's functions. No condition. -/
import Derived.Test.YtfaicdhkgicnkaaRows
import Derived.Test.YtfaicdhkgicnkaaLo
import Derived.Outline
import Derived.Deep.QuietTactic
import Derived.BigQuiet
import Derived.Lib.Hide
namespace Go.Proofs.Ytfaicdhkgicnkaa
open Go.RowKit Go.Lo

structure Ses where
  o : Bool
  sp : Bool
  n : Int
  l : Int

namespace Ses
def fresh : Ses := ⟨false, false, 0, -1⟩
def cells (s : Ses) : Array Value := #[.bool s.o, .bool s.sp, .int .u64 s.n, .int .i64 s.l]
def hello (s : Ses) (q : Int) : Ses × Int := if s.o then (s, 41) else (⟨true, false, q, s.l⟩, 0)
def event (s : Ses) (q a : Int) : Ses × Int × Int :=
  if s.o = false then (s, 0, 40) else if s.sp = true ∨ q < s.n then (s, 0, 42) else if a ≤ s.l then (s, 0, 43)
  else if q = 18446744073709551615 then (⟨true, true, q, a - 1⟩, q - s.n, 0) else (⟨true, false, q + 1, a - 1⟩, q - s.n, 0)
def beat (s : Ses) (a : Int) : Ses × Int := if s.o = false then (s, 40) else (⟨true, s.sp, s.n, if s.l < a then a else s.l⟩, 0)
def bye (s : Ses) : Ses × Int := if s.o = false then (s, 40) else (⟨false, s.sp, s.n, s.l⟩, 0)
/-- What bounds its numbers have. -/
def Ok (s : Ses) : Prop := 0 ≤ s.n ∧ s.n ≤ 18446744073709551615 ∧ -9223372036854775808 ≤ s.l ∧ s.l ≤ 9223372036854775807
end Ses

/-- Block b is a session that stands so. -/
def IsSes (w : World) (b : Nat) (s : Ses) : Prop := Blk w b s.cells 50

theorem IsSes.mk4 {w : World} {b : Nat} {x y : Bool} {n l : Int} (h : IsSes w b ⟨x, y, n, l⟩) :
    w.cell? ⟨b, 0, none⟩ = some (.bool x) ∧ w.cell? ⟨b, 1, none⟩ = some (.bool y) ∧ w.cell? ⟨b, 2, none⟩ = some (.int .u64 n) ∧ w.cell? ⟨b, 3, none⟩ = some (.int .i64 l) :=
  ⟨Blk.cell h 0 rfl, Blk.cell h 1 rfl, Blk.cell h 2 rfl, Blk.cell h 3 rfl⟩

theorem new_any (w : World) :
    Calls Try.prog 9 #[] w fun e w' => e = .returned (.pointer (some ⟨w.heap.size, 0, none⟩)) ∧ w' = w.alloc (.cells #[.bool false, .bool false, .int .u64 0, .int .i64 (-1)] 50) := by
  go_enter Try.func9, Try.ntmps9
  go_wp2
  go_ret
  exact ⟨rfl, rfl⟩

/-- How a call on a session ends: what it answers, how the session stands, and what it touched. -/
def Ends (w : World) (b : Nat) (s : Ses) (v : Value) (e : Ending) (w' : World) : Prop := e = .returned v ∧ IsSes w' b s ∧ Alters (fun k => k = b) w w'

set_option maxHeartbeats 400000 in
theorem hello_any (b : Nat) (s : Ses) (q : Int) (w : World) (hs : IsSes w b s) :
    Calls Try.prog 10 #[.pointer (some ⟨b, 0, none⟩), .int .u64 q] w (Ends w b (s.hello q).1 (.int .i64 (s.hello q).2)) := by
  obtain ⟨x, y, n, l⟩ := s
  obtain ⟨h0, h1, h2, h3⟩ := hs.mk4
  have hf := fun i => Blk.free hs i
  cases x
  · have ht : Alters (fun k => k = b) w (((w.setCell ⟨b, 0, none⟩ (.bool true)).setCell ⟨b, 1, none⟩ (.bool false)).setCell ⟨b, 2, none⟩ (.int .u64 q)) := (((Alters.refl _).set (by simp) _).set (by simp) _).set (by simp) _
    have hb : IsSes (((w.setCell ⟨b, 0, none⟩ (.bool true)).setCell ⟨b, 1, none⟩ (.bool false)).setCell ⟨b, 2, none⟩ (.int .u64 q)) b ⟨true, false, q, l⟩ := ((Blk.set hs 0 _).set 1 _).set 2 _
    have HF := Go.Lib.hid (And.intro hb ht)
    clear ht hb hs
    go_enter Try.func10, Try.ntmps10
    go_wp2
    go_ret
    exact ⟨rfl, HF.out⟩
  · go_enter Try.func10, Try.ntmps10
    go_wp2
    go_ret
    exact ⟨rfl, hs, Alters.refl _⟩

set_option maxHeartbeats 400000 in
theorem beat_any (b : Nat) (s : Ses) (a : Int) (w : World) (hs : IsSes w b s) :
    Calls Try.prog 11 #[.pointer (some ⟨b, 0, none⟩), .int .i64 a] w (Ends w b (s.beat a).1 (.int .i64 (s.beat a).2)) := by
  obtain ⟨x, y, n, l⟩ := s
  obtain ⟨h0, h1, h2, h3⟩ := hs.mk4
  have hf := fun i => Blk.free hs i
  cases x
  · go_enter Try.func11, Try.ntmps11
    go_wp2
    go_ret
    exact ⟨rfl, hs, Alters.refl _⟩
  · have fin : ∀ c, (if l < a then a else l) = c → Ends w b (Ses.beat ⟨true, y, n, l⟩ a).1 (.int .i64 (Ses.beat ⟨true, y, n, l⟩ a).2) (.returned (.int .i64 0)) (w.setCell ⟨b, 3, none⟩ (.int .i64 c)) := by
      rintro c rfl
      exact ⟨rfl, Blk.set hs 3 _, (Alters.refl _).set (by simp) _⟩
    have HF := Go.Lib.hid fin
    clear fin hs
    by_cases hl : l < a
    · go_enter Try.func11, Try.ntmps11
      go_wp2
      go_ret
      exact HF.out a (if_pos hl)
    · go_enter Try.func11, Try.ntmps11
      go_wp2
      go_ret
      exact HF.out l (if_neg (by omega))

set_option maxHeartbeats 400000 in
theorem bye_any (b : Nat) (s : Ses) (w : World) (hs : IsSes w b s) :
    Calls Try.prog 20 #[.pointer (some ⟨b, 0, none⟩)] w (Ends w b s.bye.1 (.int .i64 s.bye.2)) := by
  obtain ⟨x, y, n, l⟩ := s
  obtain ⟨h0, h1, h2, h3⟩ := hs.mk4
  have hf := fun i => Blk.free hs i
  cases x
  · go_enter Try.func20, Try.ntmps20
    go_wp2
    go_ret
    exact ⟨rfl, hs, Alters.refl _⟩
  · have fin : Ends w b (Ses.bye ⟨true, y, n, l⟩).1 (.int .i64 (Ses.bye ⟨true, y, n, l⟩).2) (.returned (.int .i64 0)) (w.setCell ⟨b, 0, none⟩ (.bool false)) := 
      ⟨rfl, Blk.set hs 0 _, (Alters.refl _).set (by simp) _⟩
    have HF := Go.Lib.hid fin
    clear fin hs
    go_enter Try.func20, Try.ntmps20
    go_wp2
    go_ret
    exact HF.out

set_option maxHeartbeats 400000 in
theorem tell_any (b : Nat) (x y : Bool) (n l : Int) (w : World) (hs : IsSes w b ⟨x, y, n, l⟩) :
    Calls Try.prog 12 #[.pointer (some ⟨b, 0, none⟩)] w fun e w' => e = .returned (.agg #[.bool x, .bool y, .int .u64 n, .int .i64 l]) ∧ w' = w.alloc (.cells #[.bool x, .bool y, .int .u64 n, .int .i64 l] 31) := by
  obtain ⟨h0, h1, h2, h3⟩ := hs.mk4
  have hb := hs.lt
  clear hs
  go_enter Try.func12, Try.ntmps12
  go_wp2
  exact bodyPost_ret (v := .agg #[.bool x, .bool y, .int .u64 n, .int .i64 l]) (by simp [results, Try.results12, go_sem]) rfl ⟨rfl, rfl⟩

theorem tell_none (w : World) :
    Calls Try.prog 12 #[.pointer none] w fun e w' => e = .returned (.agg #[.bool false, .bool false, .int .u64 0, .int .i64 0]) ∧ w' = w.alloc (.cells #[.bool false, .bool false, .int .u64 0, .int .i64 0] 31) := by
  go_enter Try.func12, Try.ntmps12
  go_wp2
  exact bodyPost_ret (v := .agg #[.bool false, .bool false, .int .u64 0, .int .i64 0]) (by simp [results, Try.results12, go_sem]) rfl ⟨rfl, rfl⟩

set_option maxHeartbeats 1000000 in
theorem event_any (b : Nat) (s : Ses) (q a : Int) (w : World) (hs : IsSes w b s) (ok : s.Ok) (hq : 0 ≤ q ∧ q ≤ 18446744073709551615) (ha : -9223372036854775808 ≤ a ∧ a ≤ 9223372036854775807) :
    Calls Try.prog 19 #[.pointer (some ⟨b, 0, none⟩), .int .u64 q, .int .i64 a] w (Ends w b (s.event q a).1 (.tuple #[.int .u64 (s.event q a).2.1, .int .i64 (s.event q a).2.2])) := by
  obtain ⟨x, y, n, l⟩ := s
  obtain ⟨h0, h1, h2, h3⟩ := hs.mk4
  have hf := fun i => Blk.free hs i
  obtain ⟨o1, o2, o3, o4⟩ := ok
  simp only at o1 o2 o3 o4
  obtain ⟨hq1, hq2⟩ := hq
  obtain ⟨ha1, ha2⟩ := ha
  cases x
  · go_enter Try.func19, Try.ntmps19
    go_wp2
    go_ret2
    exact ⟨rfl, hs, Alters.refl _⟩
  · cases y
    · by_cases hn : q < n
      · have fin : Ends w b (Ses.event ⟨true, false, n, l⟩ q a).1 (.tuple #[.int .u64 (Ses.event ⟨true, false, n, l⟩ q a).2.1, .int .i64 (Ses.event ⟨true, false, n, l⟩ q a).2.2]) (.returned (.tuple #[.int .u64 0, .int .i64 42])) w := by
          have e : Ses.event ⟨true, false, n, l⟩ q a = (⟨true, false, n, l⟩, 0, 42) := by simp [Ses.event, hn]
          rw [e]
          exact ⟨rfl, hs, Alters.refl _⟩
        have HF := Go.Lib.hid fin
        clear fin hs
        go_enter Try.func19, Try.ntmps19
        go_wp2
        go_ret2
        exact HF.out
      · by_cases hl : a ≤ l
        · have fin : Ends w b (Ses.event ⟨true, false, n, l⟩ q a).1 (.tuple #[.int .u64 (Ses.event ⟨true, false, n, l⟩ q a).2.1, .int .i64 (Ses.event ⟨true, false, n, l⟩ q a).2.2]) (.returned (.tuple #[.int .u64 0, .int .i64 43])) w := by
            have e : Ses.event ⟨true, false, n, l⟩ q a = (⟨true, false, n, l⟩, 0, 43) := by simp [Ses.event, hn, hl]
            rw [e]
            exact ⟨rfl, hs, Alters.refl _⟩
          have HF := Go.Lib.hid fin
          clear fin hs
          go_enter Try.func19, Try.ntmps19
          go_wp2
          go_ret2
          exact HF.out
        · have fin1 : (q == 18446744073709551615) = true → Ends w b (Ses.event ⟨true, false, n, l⟩ q a).1 (.tuple #[.int .u64 (Ses.event ⟨true, false, n, l⟩ q a).2.1, .int .i64 (Ses.event ⟨true, false, n, l⟩ q a).2.2]) (.returned (.tuple #[.int .u64 (q - n), .int .i64 0]))
              (((w.setCell ⟨b, 3, none⟩ (.int .i64 (a - 1))).setCell ⟨b, 2, none⟩ (.int .u64 q)).setCell ⟨b, 1, none⟩ (.bool true)) := by
            intro hm
            have e : Ses.event ⟨true, false, n, l⟩ q a = (⟨true, true, q, a - 1⟩, q - n, 0) := by
              simp only [Ses.event]
              rw [if_neg (by simp), if_neg (by simp; omega), if_neg hl, if_pos (by simpa using hm)]
            rw [e]
            exact ⟨rfl, ((Blk.set hs 3 _).set 2 _).set 1 _, (((Alters.refl _).set (by simp) _).set (by simp) _).set (by simp) _⟩
          have fin2 : (q == 18446744073709551615) = false → Ends w b (Ses.event ⟨true, false, n, l⟩ q a).1 (.tuple #[.int .u64 (Ses.event ⟨true, false, n, l⟩ q a).2.1, .int .i64 (Ses.event ⟨true, false, n, l⟩ q a).2.2]) (.returned (.tuple #[.int .u64 (q - n), .int .i64 0]))
              ((w.setCell ⟨b, 3, none⟩ (.int .i64 (a - 1))).setCell ⟨b, 2, none⟩ (.int .u64 (IntKind.u64.wrap (q + 1)))) := by
            intro hm
            have hm' : ¬ q = 18446744073709551615 := by simpa using hm
            have e : Ses.event ⟨true, false, n, l⟩ q a = (⟨true, false, q + 1, a - 1⟩, q - n, 0) := by
              simp only [Ses.event]
              rw [if_neg (by simp), if_neg (by simp; omega), if_neg hl, if_neg hm']
            rw [e, IntWalk.u64_in _ (by omega)]
            exact ⟨rfl, (Blk.set hs 3 _).set 2 _, ((Alters.refl _).set (by simp) _).set (by simp) _⟩
          have H1 := Go.Lib.hid fin1
          have H2 := Go.Lib.hid fin2
          clear fin1 fin2 hs
          go_enter Try.func19, Try.ntmps19
          go_wp2
          · go_ret2
            exact H1.out ‹_›
          · go_ret2
            exact H2.out ‹_›
    · have fin : Ends w b (Ses.event ⟨true, true, n, l⟩ q a).1 (.tuple #[.int .u64 (Ses.event ⟨true, true, n, l⟩ q a).2.1, .int .i64 (Ses.event ⟨true, true, n, l⟩ q a).2.2]) (.returned (.tuple #[.int .u64 0, .int .i64 42])) w := by
        have e : Ses.event ⟨true, true, n, l⟩ q a = (⟨true, true, n, l⟩, 0, 42) := by simp [Ses.event]
        rw [e]
        exact ⟨rfl, hs, Alters.refl _⟩
      have HF := Go.Lib.hid fin
      clear fin hs
      go_enter Try.func19, Try.ntmps19
      go_wp2
      go_ret2
      exact HF.out

/-- The same, where the outcome is told ahead. -/
theorem hello_to (b : Nat) (s s' : Ses) (q c : Int) (w : World) (hs : IsSes w b s) (h : s.hello q = (s', c)) :
    Calls Try.prog 10 #[.pointer (some ⟨b, 0, none⟩), .int .u64 q] w (Ends w b s' (.int .i64 c)) := by
  have := hello_any b s q w hs
  rw [h] at this
  exact this
theorem beat_to (b : Nat) (s s' : Ses) (a c : Int) (w : World) (hs : IsSes w b s) (h : s.beat a = (s', c)) :
    Calls Try.prog 11 #[.pointer (some ⟨b, 0, none⟩), .int .i64 a] w (Ends w b s' (.int .i64 c)) := by
  have := beat_any b s a w hs
  rw [h] at this
  exact this
theorem event_to (b : Nat) (s s' : Ses) (q a r c : Int) (w : World) (hs : IsSes w b s) (ok : s.Ok) (hq : 0 ≤ q ∧ q ≤ 18446744073709551615) (ha : -9223372036854775808 ≤ a ∧ a ≤ 9223372036854775807) (h : s.event q a = (s', r, c)) :
    Calls Try.prog 19 #[.pointer (some ⟨b, 0, none⟩), .int .u64 q, .int .i64 a] w (Ends w b s' (.tuple #[.int .u64 r, .int .i64 c])) := by
  have := event_any b s q a w hs ok hq ha
  rw [h] at this
  exact this

end Go.Proofs.Ytfaicdhkgicnkaa
