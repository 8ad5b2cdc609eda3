/- What an act of a source does to a session, in plain Lean; how a list of acts is opened. No condition. -/
import Derived.Test.YtfaicdhkgicnkaaPlay
import Derived.Test.YtfaicdhkgicnkaaOpen
namespace Go.Proofs.Ytfaicdhkgicnkaa
open Go.RowKit Go.Lo

namespace Ses
theorem event_cases (s : Ses) (q a : Int) :
    (s.o = false ∧ s.event q a = (s, 0, 40)) ∨ (s.o = true ∧ (s.sp = true ∨ q < s.n) ∧ s.event q a = (s, 0, 42)) ∨ (s.o = true ∧ a ≤ s.l ∧ s.event q a = (s, 0, 43)) ∨
    (s.o = true ∧ s.sp = false ∧ s.n ≤ q ∧ s.l < a ∧ q = 18446744073709551615 ∧ s.event q a = (⟨true, true, q, a - 1⟩, q - s.n, 0)) ∨
    (s.o = true ∧ s.sp = false ∧ s.n ≤ q ∧ s.l < a ∧ q ≠ 18446744073709551615 ∧ s.event q a = (⟨true, false, q + 1, a - 1⟩, q - s.n, 0)) := by
  unfold Ses.event
  by_cases h0 : s.o = false
  · exact .inl ⟨h0, by rw [if_pos h0]⟩
  · have h0' : s.o = true := by simpa using h0
    by_cases h1 : s.sp = true ∨ q < s.n
    · exact .inr (.inl ⟨h0', h1, by rw [if_neg h0, if_pos h1]⟩)
    · by_cases h2 : a ≤ s.l
      · exact .inr (.inr (.inl ⟨h0', h2, by rw [if_neg h0, if_neg h1, if_pos h2]⟩))
      · have h1' : s.sp = false ∧ s.n ≤ q := by simpa using h1
        by_cases h3 : q = 18446744073709551615
        · exact .inr (.inr (.inr (.inl ⟨h0', h1'.1, h1'.2, by omega, h3, by rw [if_neg h0, if_neg h1, if_neg h2, if_pos h3]⟩)))
        · exact .inr (.inr (.inr (.inr ⟨h0', h1'.1, h1'.2, by omega, h3, by rw [if_neg h0, if_neg h1, if_neg h2, if_neg h3]⟩)))

/-- What an act is, one of four. -/
theorem play_cases (s : Ses) (x : Act) :
    (x.d = 0 ∧ ((s.o = true ∧ s.play x = (s, 0, 41)) ∨ (s.o = false ∧ s.play x = (⟨true, false, x.q, s.l⟩, 0, 0)))) ∨
    (x.d = 1 ∧ s.play x = s.event x.q x.a) ∨
    (x.d = 2 ∧ ((s.o = false ∧ s.play x = (s, 0, 40)) ∨ (s.o = true ∧ s.play x = (⟨true, s.sp, s.n, if s.l < x.a then x.a else s.l⟩, 0, 0)))) ∨
    ((x.d ≠ 0 ∧ x.d ≠ 1 ∧ x.d ≠ 2) ∧ ((s.o = false ∧ s.play x = (s, 0, 40)) ∨ (s.o = true ∧ s.play x = (⟨false, s.sp, s.n, s.l⟩, 0, 0)))) := by
  unfold Ses.play
  by_cases h0 : x.d = 0
  · refine .inl ⟨h0, ?_⟩
    rw [if_pos h0]
    unfold Ses.hello
    cases ho : s.o <;> simp
  · by_cases h1 : x.d = 1
    · exact .inr (.inl ⟨h1, by rw [if_neg h0, if_pos h1]⟩)
    · by_cases h2 : x.d = 2
      · refine .inr (.inr (.inl ⟨h2, ?_⟩))
        rw [if_neg h0, if_neg h1, if_pos h2]
        unfold Ses.beat
        cases ho : s.o <;> simp
      · refine .inr (.inr (.inr ⟨⟨h0, h1, h2⟩, ?_⟩))
        rw [if_neg h0, if_neg h1, if_neg h2]
        unfold Ses.bye
        cases ho : s.o <;> simp

theorem play_ok (s : Ses) (x : Act) (ok : s.Ok) (hx : x.Ok) : (s.play x).1.Ok := by
  obtain ⟨⟨_, _⟩, ⟨hq1, hq2⟩, ha1, ha2⟩ := hx
  obtain ⟨o1, o2, o3, o4⟩ := ok
  rcases play_cases s x with ⟨_, ⟨_, h⟩ | ⟨_, h⟩⟩ | ⟨_, h⟩ | ⟨_, ⟨_, h⟩ | ⟨_, h⟩⟩ | ⟨_, ⟨_, h⟩ | ⟨_, h⟩⟩
  · rw [h]; exact ⟨o1, o2, o3, o4⟩
  · rw [h]; exact ⟨hq1, hq2, o3, o4⟩
  · rw [h]
    rcases event_cases s x.q x.a with ⟨_, h⟩ | ⟨_, _, h⟩ | ⟨_, _, h⟩ | ⟨_, _, _, _, _, h⟩ | ⟨_, _, _, _, _, h⟩ <;> rw [h] <;> unfold Ses.Ok <;> simp only <;> omega
  · rw [h]; exact ⟨o1, o2, o3, o4⟩
  · rw [h]; unfold Ses.Ok; simp only; split <;> omega
  · rw [h]; exact ⟨o1, o2, o3, o4⟩
  · rw [h]; exact ⟨o1, o2, o3, o4⟩

/-- Low never falls. -/
theorem play_low (s : Ses) (x : Act) : s.l ≤ (s.play x).1.l := by
  rcases play_cases s x with ⟨_, ⟨_, h⟩ | ⟨_, h⟩⟩ | ⟨_, h⟩ | ⟨_, ⟨_, h⟩ | ⟨_, h⟩⟩ | ⟨_, ⟨_, h⟩ | ⟨_, h⟩⟩
  · rw [h]; exact Int.le_refl _
  · rw [h]; exact Int.le_refl _
  · rw [h]
    rcases event_cases s x.q x.a with ⟨_, h⟩ | ⟨_, _, h⟩ | ⟨_, _, h⟩ | ⟨_, _, _, _, _, h⟩ | ⟨_, _, _, _, _, h⟩ <;> rw [h] <;> simp only <;> omega
  · rw [h]; exact Int.le_refl _
  · rw [h]; simp only; split <;> omega
  · rw [h]; exact Int.le_refl _
  · rw [h]; exact Int.le_refl _

/-- What is refused changes nothing. -/
theorem play_bad (s : Ses) (x : Act) (h : (s.play x).2.2 ≠ 0) : (s.play x).1 = s ∧ (s.play x).2.1 = 0 := by
  rcases play_cases s x with ⟨_, ⟨_, e⟩ | ⟨_, e⟩⟩ | ⟨_, e⟩ | ⟨_, ⟨_, e⟩ | ⟨_, e⟩⟩ | ⟨_, ⟨_, e⟩ | ⟨_, e⟩⟩
  · rw [e]; exact ⟨rfl, rfl⟩
  · rw [e] at h; simp at h
  · rw [e] at h ⊢
    rcases event_cases s x.q x.a with ⟨_, h'⟩ | ⟨_, _, h'⟩ | ⟨_, _, h'⟩ | ⟨_, _, _, _, _, h'⟩ | ⟨_, _, _, _, _, h'⟩ <;> rw [h'] at h ⊢ <;> simp at h ⊢
  · rw [e]; exact ⟨rfl, rfl⟩
  · rw [e] at h; simp at h
  · rw [e]; exact ⟨rfl, rfl⟩
  · rw [e] at h; simp at h

/-- An event that is taken. -/
theorem play_event (s : Ses) (x : Act) (hd : x.d = 1) (h : (s.play x).2.2 = 0) :
    s.o = true ∧ s.sp = false ∧ s.n ≤ x.q ∧ s.l < x.a ∧ (s.play x).1.l = x.a - 1 ∧ (s.play x).1.o = true ∧ (s.play x).2.1 = x.q - s.n ∧
    ((x.q = 18446744073709551615 ∧ (s.play x).1.sp = true) ∨ (x.q ≠ 18446744073709551615 ∧ (s.play x).1.sp = false ∧ (s.play x).1.n = x.q + 1)) := by
  rcases play_cases s x with ⟨hd', _⟩ | ⟨_, e⟩ | ⟨hd', _⟩ | ⟨hd', _⟩
  · omega
  · rw [e] at h ⊢
    rcases event_cases s x.q x.a with ⟨_, h'⟩ | ⟨_, _, h'⟩ | ⟨_, _, h'⟩ | ⟨a1, a2, a3, a4, a5, h'⟩ | ⟨a1, a2, a3, a4, a5, h'⟩
    · rw [h'] at h; simp at h
    · rw [h'] at h; simp at h
    · rw [h'] at h; simp at h
    · rw [h']; exact ⟨a1, a2, a3, a4, rfl, rfl, rfl, .inl ⟨a5, rfl⟩⟩
    · rw [h']; exact ⟨a1, a2, a3, a4, rfl, rfl, rfl, .inr ⟨a5, rfl, rfl⟩⟩
  · omega
  · omega

theorem play_hello (s : Ses) (x : Act) (hd : x.d = 0) (h : (s.play x).2.2 = 0) : s.o = false ∧ s.play x = (⟨true, false, x.q, s.l⟩, 0, 0) := by
  rcases play_cases s x with ⟨_, ⟨_, e⟩ | ⟨ho, e⟩⟩ | ⟨hd', _⟩ | ⟨hd', _⟩ | ⟨hd', _⟩
  · rw [e] at h; simp at h
  · exact ⟨ho, e⟩
  · omega
  · omega
  · omega

theorem play_beat (s : Ses) (x : Act) (hd : x.d = 2) (h : (s.play x).2.2 = 0) : s.o = true ∧ s.play x = (⟨true, s.sp, s.n, if s.l < x.a then x.a else s.l⟩, 0, 0) := by
  rcases play_cases s x with ⟨hd', _⟩ | ⟨hd', _⟩ | ⟨_, ⟨_, e⟩ | ⟨ho, e⟩⟩ | ⟨hd', _⟩
  · omega
  · omega
  · rw [e] at h; simp at h
  · exact ⟨ho, e⟩
  · omega

theorem play_bye (s : Ses) (x : Act) (hd : x.d ≠ 0 ∧ x.d ≠ 1 ∧ x.d ≠ 2) (h : (s.play x).2.2 = 0) : s.o = true ∧ s.play x = (⟨false, s.sp, s.n, s.l⟩, 0, 0) := by
  rcases play_cases s x with ⟨hd', _⟩ | ⟨hd', _⟩ | ⟨hd', _⟩ | ⟨_, ⟨_, e⟩ | ⟨ho, e⟩⟩
  · omega
  · omega
  · omega
  · rw [e] at h; simp at h
  · exact ⟨ho, e⟩
end Ses

section
open Go.ChangeShapes Go.WideShapes Go.ChangeAt Go.Deep
theorem cells40 : Try.prog.cellsOf 40 = 3 := by kernel_rfl
theorem cells5 : Try.prog.cellsOf 5 = 1 := by kernel_rfl
theorem cells22 : Try.prog.cellsOf 22 = 1 := by kernel_rfl
theorem cells2 : Try.prog.cellsOf 2 = 1 := by kernel_rfl

/-- Acts that lie in memory, one behind the other. -/
def ActsAt (w : World) (a : Option Addr) (len : Nat) (X : Nat → Act) : Prop :=
  0 < len → ∃ b off, a = some ⟨b, off, none⟩ ∧ b < w.heap.size ∧ ∀ i, i < len →
    w.cell? ⟨b, off + i * 3, none⟩ = some (.int .u8 (X i).d) ∧ w.cell? ⟨b, off + i * 3 + 1, none⟩ = some (.int .u64 (X i).q) ∧ w.cell? ⟨b, off + i * 3 + 2, none⟩ = some (.int .i64 (X i).a)

instance : Inhabited Act := ⟨⟨0, 0, 0⟩⟩

theorem open_acts {H : Type} {enc : TypeId × Value → H} {w : World} {spare : Nat → Bool} {held : Bool} {v : Value} {d : DataW H} {ps : List MemPlace} (hv : Value.okWide Try.prog w .any 0 34 v)
    (h : DataW.Trod enc Try.prog w 0 spare held 34 v d ps) :
    ∃ (a : Option Addr) (len cap : Nat) (X : Nat → Act), v = .slice a len cap ∧ len ≤ maxLen ∧ (∀ i, i < len → (X i).Ok) ∧ ActsAt w a len X := by
  obtain ⟨a, len, cap, rfl, hl, hx⟩ := open_elems Try.underlying34 hv (by rw [cells40]; omega) h
  by_cases h0 : 0 < len
  · obtain ⟨b, off, rfl, hb, hx⟩ := hx h0
    obtain ⟨X, hX⟩ := choose_lt (α := Act) (p := fun i x => x.Ok ∧ w.cell? ⟨b, off + i * 3, none⟩ = some (.int .u8 x.d) ∧ w.cell? ⟨b, off + i * 3 + 1, none⟩ = some (.int .u64 x.q) ∧ w.cell? ⟨b, off + i * 3 + 2, none⟩ = some (.int .i64 x.a)) (fun i hi => by
      obtain ⟨cs, n, y, hlen, hcell, hd⟩ := hx i hi
      rw [cells40] at hlen hcell
      obtain ⟨c0, c1, c2, rfl⟩ : ∃ c0 c1 c2, cs = [c0, c1, c2] := by
        match cs, hlen with
        | [c0, c1, c2], _ => exact ⟨c0, c1, c2, rfl⟩
      obtain ⟨y0, y1, y2, m, _, _, t0, t1, t2⟩ := trod_struct3 Try.underlying40 hd
      simp only [cells5, cells22, cells2, List.drop_succ_cons, List.drop_zero, List.take_succ_cons, List.take_zero] at t0 t1 t2
      obtain ⟨n0, e0, _, w0⟩ := DataW.trod_int Try.underlying5 t0
      obtain ⟨n1, e1, _, w1⟩ := DataW.trod_int Try.underlying22 t1
      obtain ⟨n2, e2, _, w2⟩ := DataW.trod_int Try.underlying2 t2
      simp only [List.cons.injEq, and_true] at e0 e1 e2
      subst e0 e1 e2
      exact ⟨⟨n0, n1, n2⟩, ⟨bounds_u8 w0, bounds_u64 w1, bounds_i64 w2⟩, by simpa using hcell 0 (by omega), by simpa using hcell 1 (by omega), by simpa using hcell 2 (by omega)⟩)
    exact ⟨_, len, cap, X, rfl, hl, fun i hi => (hX i hi).1, fun _ => ⟨b, off, rfl, hb, fun i hi => (hX i hi).2⟩⟩
  · exact ⟨a, len, cap, fun _ => ⟨0, 0, 0⟩, rfl, hl, fun i hi => by omega, fun h => absurd h h0⟩
end
end Go.Proofs.Ytfaicdhkgicnkaa
