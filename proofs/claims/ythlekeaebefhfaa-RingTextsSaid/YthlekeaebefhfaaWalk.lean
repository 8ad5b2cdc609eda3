/- The walks of the ring package's functions at ints. No condition. -/
import Derived.Test.YthlekeaebefhfaaRows
import Derived.Test.YthlekeaebefhfaaOwn
import Derived.Outline
import Derived.Deep.QuietTactic
import Derived.BigQuiet
import Derived.Lib.Hide
import Derived.Lib.Builder
import Derived.StillTailTactics
import Derived.RegionTactic
import Derived.ChangeAlike
import Derived.RangeFuncBox
import Derived.Test.YthlekeaebefhfaaShelf
import Derived.Test.YthlekeaebefhfaaRange
namespace Go.Proofs.Ythlekeaebefhfaa
open Go.RowKit Go.Lo Go.WideShapes
theorem delint (g : Nat) (xs : List Int) (cap : Nat) (w : World) (hcap : xs.length ≤ cap) (hm : cap ≤ 9223372036854775807) (h1 : 1 ≤ xs.length) (hc : ∀ i, i < xs.length → w.cell? ⟨g, 0 + i, none⟩ = some (.int .i64 (xs.getD i 0))) (hf : ∀ j, j < xs.length → w.frozen? ⟨g, 0 + j, none⟩ = false) :
    Calls Try.prog 22 #[.slice (some ⟨g, 0, none⟩) xs.length cap, .int .i64 0, .int .i64 1] w fun e w' => e = .returned (.slice (some ⟨g, 0, none⟩) (xs.length - 1) cap) ∧ ∃ q, w' = (w.drewN q).setCells g 0 ((xs.drop 1 ++ [0]).map (Value.int .i64)) := by
  have h := Try.slices_Delete_int_cells g 0 xs.length cap 0 1 xs w (Nat.le_refl _) hcap hm (by omega) h1 hc hf
  simpa using h

theorem info3 : (Try.prog.info? 3).map (fun i => (i.zero, i.size, i.bytes)) = some (some (Value.int .i64 0), 1, 8) := by kernel_rfl

/-- Memory holds a ring: its own block, and the row of its things. -/
structure IsRing (w : World) (b : Nat) (v : Value) (room : Nat) (old : Bool) (xs : List Int) : Prop where
  own : Blk w b #[v, .int .i64 room, .bool old] 56
  row : w.ownsRow 0 3 1 v xs.length (xs.map (Value.int .i64))
  len : xs.length ≤ room
  r1 : 1 ≤ room
  r64 : room ≤ 64

theorem IsRing.off {w : World} {b : Nat} {v : Value} {room : Nat} {old : Bool} {xs : List Int} (h : IsRing w b v room old xs) : v.ownBlock ≠ some b :=
  Go.Lib.ownBlock_ne h.row h.own (by decide)

theorem IsRing.keep {w w' : World} {b : Nat} {v : Value} {room : Nat} {old : Bool} {xs : List Int} {p : Nat → Prop} (h : IsRing w b v room old xs) (hA : Alters p w w') (hb : ¬ p b) (hv : ∀ k, v.ownBlock = some k → ¬ p k) : IsRing w' b v room old xs :=
  ⟨hA.blk h.own hb, row_keep h.row hA hv, h.len, h.r1, h.r64⟩

theorem IsRing.quiet {w w' : World} {b : Nat} {v : Value} {room : Nat} {old : Bool} {xs : List Int} (h : IsRing w b v room old xs) (hA : Quiet w w') : IsRing w' b v room old xs :=
  h.keep hA (by simp) (by simp)

theorem IsRing.nil {w : World} {b : Nat} {v : Value} {room : Nat} {old : Bool} {xs : List Int} (h : IsRing w b v room old xs) : (v = .slice none 0 0 ∧ xs = []) ∨ ∃ g cap, v = .slice (some ⟨g, 0, none⟩) xs.length cap ∧ xs.length ≤ cap ∧ cap ≤ maxLen ∧ g < w.heap.size := by
  rcases h.row.2 with ⟨rfl, h0⟩ | ⟨g, cap, cur, rfl, _, hg, h1, h2, _, _⟩
  · exact .inl ⟨rfl, List.eq_nil_of_length_eq_zero h0⟩
  · exact .inr ⟨g, cap, rfl, h1, h2, lt_of_block hg⟩

/-- Behind a step: the ring stands otherwise; its own blocks alone were touched. -/
def Stepped (w w' : World) (b : Nat) (v : Value) (room : Nat) (old : Bool) (xs : List Int) : Prop :=
  ∃ v', IsRing w' b v' room old xs ∧ Near w v v' ∧ Alters (fun k => k = b ∨ v.ownBlock = some k) w w'

theorem len_walk (b : Nat) (v : Value) (room : Nat) (old : Bool) (xs : List Int) (w : World) (h : IsRing w b v room old xs) :
    Calls Try.prog 15 #[.pointer (some ⟨b, 0, none⟩)] w fun e w' => e = .returned (.int .i64 xs.length) ∧ w = w' := by
  have h0 := h.own.cell 0 rfl
  rcases h.nil with ⟨rfl, rfl⟩ | ⟨g, cap, rfl, h1, h2, h3⟩
  · clear h
    go_enter Try.func15, Try.ntmps15
    go_wp2
    go_ret
    exact ⟨rfl, rfl⟩
  · clear h
    go_enter Try.func15, Try.ntmps15
    go_wp2
    go_ret
    exact ⟨rfl, rfl⟩

theorem len_none (w : World) : Calls Try.prog 15 #[.pointer none] w fun e w' => e = .returned (.int .i64 0) ∧ w = w' := by
  go_enter Try.func15, Try.ntmps15
  go_wp2
  go_ret
  exact ⟨rfl, rfl⟩

theorem head_walk (b : Nat) (v : Value) (room : Nat) (old : Bool) (x : Int) (xs : List Int) (w : World) (h : IsRing w b v room old (x :: xs)) :
    Calls Try.prog 14 #[.pointer (some ⟨b, 0, none⟩)] w fun e w' => e = .returned (.tuple #[Value.int .i64 x, .bool true]) ∧ w = w' := by
  have h0 := h.own.cell 0 rfl
  have hl := len_walk b v room old (x :: xs) w h
  have HL := Go.Lib.hid hl
  clear hl
  rcases h.nil with ⟨_, h⟩ | ⟨g, cap, rfl, h1, h2, h3⟩
  · simp at h
  · have hx := h.row.cells (g := g) rfl 0 (Value.int .i64 x) (by simp)
    rw [add_plain] at hx
    have hz : (((x :: xs).length : Int) == 0) = false := by simp; omega
    have hp : 0 < (x :: xs).length := by simp
    generalize (x :: xs).length = n at *
    clear h
    go_enter Try.func14, Try.ntmps14
    go_wp2_with (go_at_call 15; refine HL.out.mono ?_; rintro e w' ⟨rfl, rfl⟩)
    go_ret2
    exact ⟨rfl, rfl⟩

theorem head_walk_nil (b : Nat) (v : Value) (room : Nat) (old : Bool) (w : World) (h : IsRing w b v room old []) :
    Calls Try.prog 14 #[.pointer (some ⟨b, 0, none⟩)] w fun e w' => e = .returned (.tuple #[Value.int .i64 0, .bool false]) ∧ w = w' := by
  have hl := len_walk b v room old [] w h
  have HL := Go.Lib.hid hl
  clear hl h
  go_enter Try.func14, Try.ntmps14
  go_wp2_with (go_at_call 15; refine HL.out.mono ?_; rintro e w' ⟨rfl, rfl⟩)
  go_ret2
  exact ⟨rfl, rfl⟩

theorem head_none (w : World) : Calls Try.prog 14 #[.pointer none] w fun e w' => e = .returned (.tuple #[Value.int .i64 0, .bool false]) ∧ w = w' := by
  go_enter Try.func14, Try.ntmps14
  go_wp2_with (go_at_call 15; refine (len_none _).mono ?_; rintro e w' ⟨rfl, rfl⟩)
  go_ret2
  exact ⟨rfl, rfl⟩

theorem new_walk (room : Int) (old : Bool) (w : World) (h1 : 1 ≤ room) (h64 : room ≤ 64) :
    Calls Try.prog 9 #[.int .i64 room, .bool old] w fun e w' => e = .returned (.tuple #[.pointer (some ⟨w.heap.size, 0, none⟩), .int .i64 0]) ∧ IsRing w' w.heap.size (.slice none 0 0) room.toNat old [] ∧ Quiet w w' := by
  go_enter Try.func9, Try.ntmps9
  go_wp2
  go_ret2
  refine ⟨rfl, ⟨?_, World.ownsRow_nil _ _ _ _, by simp, by omega, by omega⟩, (Alters.refl _).alloc _⟩
  have := Blk.new w #[.slice none 0 0, .int .i64 room, .bool old] 56
  rw [show ((room.toNat : Nat) : Int) = room by omega]
  exact this

theorem new_bad (room : Int) (old : Bool) (w : World) (h : room < 1 ∨ 64 < room) :
    Calls Try.prog 9 #[.int .i64 room, .bool old] w fun e w' => e = .returned (.tuple #[.pointer none, .int .i64 33]) ∧ w = w' := by
  rcases h with h | h
  · go_enter Try.func9, Try.ntmps9
    go_wp2
    go_ret2
    exact ⟨rfl, rfl⟩
  · have h1 : 1 ≤ room := by omega
    go_enter Try.func9, Try.ntmps9
    go_wp2
    go_ret2
    exact ⟨rfl, rfl⟩

theorem pop_none (w : World) : Calls Try.prog 12 #[.pointer none] w fun e w' => e = .returned (.tuple #[Value.int .i64 0, .bool false]) ∧ w = w' := by
  go_enter Try.func12, Try.ntmps12
  go_wp2_with (go_at_call 14; refine (head_none _).mono ?_; rintro e w' ⟨rfl, rfl⟩)
  go_ret2
  exact ⟨rfl, rfl⟩

theorem pop_walk_nil (b : Nat) (v : Value) (room : Nat) (old : Bool) (w : World) (h : IsRing w b v room old []) :
    Calls Try.prog 12 #[.pointer (some ⟨b, 0, none⟩)] w fun e w' => e = .returned (.tuple #[Value.int .i64 0, .bool false]) ∧ w = w' := by
  have hl := head_walk_nil b v room old w h
  have HL := Go.Lib.hid hl
  clear hl h
  go_enter Try.func12, Try.ntmps12
  go_wp2_with (go_at_call 14; refine HL.out.mono ?_; rintro e w' ⟨rfl, rfl⟩)
  go_ret2
  exact ⟨rfl, rfl⟩

theorem push_none (x : Int) (w : World) : Calls Try.prog 10 #[.pointer none, Value.int .i64 x] w fun e w' => e = .returned (.tuple #[Value.int .i64 0, .bool false]) ∧ w = w' := by
  go_enter Try.func10, Try.ntmps10
  go_wp2
  go_ret2
  exact ⟨rfl, rfl⟩

/-- The first thing is struck from its row. -/
theorem del_walk (g cap : Nat) (x : Int) (xs : List Int) (w : World) (h : w.ownsRow 0 3 1 (.slice (some ⟨g, 0, none⟩) (xs.length + 1) cap) (xs.length + 1) ((x :: xs).map (Value.int .i64))) :
    Calls Try.prog 22 #[.slice (some ⟨g, 0, none⟩) (xs.length + 1) cap, .int .i64 0, .int .i64 1] w fun e w' => e = .returned (.slice (some ⟨g, 0, none⟩) xs.length cap) ∧
      w'.ownsRow 0 3 1 (.slice (some ⟨g, 0, none⟩) xs.length cap) xs.length (xs.map (Value.int .i64)) ∧ Alters (fun k => k = g) w w' := by
  rcases h.2 with ⟨h0, _⟩ | ⟨g', cap', cur, hv, _, hg, hn, hm, hz, ht⟩
  · cases h0
  · obtain ⟨rfl, rfl⟩ : g = g' ∧ cap = cap' := by simpa using hv
    have hB : Blk w g cur 3 := hg
    have hc : ∀ i, i < (x :: xs).length → w.cell? ⟨g, 0 + i, none⟩ = some (Value.int .i64 ((x :: xs).getD i 0)) := fun i hi => by
      rw [Nat.zero_add]
      refine hB.cell i ?_
      have e : cur[i]? = ((x :: xs).map (Value.int .i64))[i]? := by
        rw [← ht, List.getElem?_take_of_lt (by simp at hi ⊢; omega)]; simp
      rw [e, List.getElem?_map, List.getElem?_eq_getElem hi]
      simp [List.getD_eq_getElem?_getD, List.getElem?_eq_getElem hi]
    refine (delint g (x :: xs) cap w (by simpa using hn) (by unfold maxLen at hm; omega) (by simp) hc (fun j _ => hB.free _)).mono ?_
    rintro e w' ⟨rfl, q, rfl⟩
    have hD : Blk (w.drewN q) g cur 3 := hB
    have hS := hD.setCells (((x :: xs).drop 1 ++ [0]).map (Value.int .i64)) 0 (by simp; omega)
    refine ⟨by simp, ⟨by simp, .inr ⟨g, cap, _, rfl, Nat.zero_le _, hS, by omega, hm, ?_, ?_⟩⟩, Alters.setCells (p := fun k => k = g) (fun _ => rfl) _ _ ((Alters.refl w).drewN q)⟩
    · simp; omega
    · simp

theorem IsRing.mk_pop {w w' : World} {b : Nat} {g cap : Nat} {room : Nat} {old : Bool} {x : Int} {xs : List Int} (h : IsRing w b (.slice (some ⟨g, 0, none⟩) (xs.length + 1) cap) room old (x :: xs))
    (hr : w'.ownsRow 0 3 1 (.slice (some ⟨g, 0, none⟩) xs.length cap) xs.length (xs.map (Value.int .i64))) (hA : Alters (fun k => k = g) w w') :
    Stepped w (w'.setCell ⟨b, 0, none⟩ (.slice (some ⟨g, 0, none⟩) xs.length cap)) b (.slice (some ⟨g, 0, none⟩) (xs.length + 1) cap) room old xs := by
  have hne : g ≠ b := fun e => h.off (by rw [← e]; rfl)
  have hl := h.len
  simp at hl
  refine ⟨.slice (some ⟨g, 0, none⟩) xs.length cap, ⟨(hA.blk h.own (Ne.symm hne)).set 0 _, row_keep hr ((Alters.refl _).set (p := fun k => k = b) (fun _ => rfl) _) (fun k e => ?_), by omega, h.r1, h.r64⟩, fun k e => .inl e, ?_⟩
  · have e : g = k := by simpa [Value.ownBlock] using e
    omega
  · exact (hA.mono (fun k _ e => .inr (by rw [e]; rfl))).set (fun _ => .inl rfl) _

theorem pop_walk (b : Nat) (v : Value) (room : Nat) (old : Bool) (x : Int) (xs : List Int) (w : World) (h : IsRing w b v room old (x :: xs)) :
    Calls Try.prog 12 #[.pointer (some ⟨b, 0, none⟩)] w fun e w' => e = .returned (.tuple #[Value.int .i64 x, .bool true]) ∧ Stepped w w' b v room old xs := by
  have h0 := h.own.cell 0 rfl
  rcases h.nil with ⟨_, e⟩ | ⟨g, cap, rfl, h1, h2, h3⟩
  · simp at e
  · have hl := head_walk b _ room old x xs w h
    have hd := del_walk g cap x xs w h.row
    have HL := Go.Lib.hid hl
    have HD := Go.Lib.hid hd
    have HH := Go.Lib.hid h
    have hne : ¬ b = g := fun e => h.off (by rw [e]; rfl)
    simp only [List.length_cons] at h0
    clear hl hd h h1 h2
    go_enter Try.func12, Try.ntmps12
    go_wp2_with (go_at_call 14; refine HL.out.mono ?_; rintro e w' ⟨rfl, rfl⟩)
    refine HD.out.mono ?_
    rintro e w1 ⟨rfl, hr, hA⟩
    have h01 := hA.cell h0 hne
    have hz := (hA.blk HH.out.own hne).free 0
    have HR := Go.Lib.hid hr
    have HA := Go.Lib.hid hA
    clear hr hA h0
    go_wp2
    go_ret2
    exact ⟨rfl, HH.out.mk_pop HR.out HA.out⟩

theorem IsRing.mk_push {w w' : World} {b : Nat} {v v' : Value} {room : Nat} {old : Bool} {x : Int} {xs : List Int} (h : IsRing w b v room old xs) (hlt : xs.length < room)
    (hr : w'.ownsRow 0 3 1 v' (xs.length + 1) (xs.map (Value.int .i64) ++ [Value.int .i64 x])) (hg : (w.alloc (.cells #[Value.int .i64 x] 3)).grownBy w' v.ownBlock) (hn : Near (w.alloc (.cells #[Value.int .i64 x] 3)) v v') :
    Stepped w (w'.setCell ⟨b, 0, none⟩ v') b v room old (xs ++ [x]) := by
  have hA : Alters (fun k => k = b ∨ v.ownBlock = some k) w w' := ((Alters.refl w).alloc _).grown hg (fun k e _ => .inr e)
  have hb : w'.heap[b]? = some (.cells #[v, .int .i64 room, .bool old] 56 (0, 0)) := (hg.block b (by have := h.own.lt; simp; omega) (fun e => h.off e.symm)).trans (h.own.alloc _)
  refine ⟨v', ⟨Blk.set (xs := #[v, .int .i64 room, .bool old]) hb 0 v', row_keep (by simpa using hr) ((Alters.refl _).set (p := fun k => k = b) (fun _ => rfl) _) (fun k e e2 => ?_), by simp; omega, h.r1, h.r64⟩, fun k e => ?_, hA.set (fun _ => .inl rfl) _⟩
  · subst e2
    exact Go.Lib.ownBlock_ne hr hb (by decide) e
  · rcases hn k e with h1 | h1
    · exact .inl h1
    · exact .inr (by simp at h1; omega)

theorem push_room (b : Nat) (v : Value) (room : Nat) (old : Bool) (x : Int) (xs : List Int) (w : World) (h : IsRing w b v room old xs) (hlt : xs.length < room) :
    Calls Try.prog 10 #[.pointer (some ⟨b, 0, none⟩), Value.int .i64 x] w fun e w' => e = .returned (.tuple #[Value.int .i64 0, .bool false]) ∧ Stepped w w' b v room old (xs ++ [x]) := by
  have r64 := h.r64
  have h0 := h.own.cell 0 rfl
  have h1 := h.own.cell 1 rfl
  have hb := h.own.lt
  have HH := Go.Lib.hid h
  have HLT := Go.Lib.hid hlt
  obtain ⟨i0, hi, hz0, hz1, hz2⟩ := info_parts info3
  have HI := Go.Lib.hid (And.intro hi (And.intro hz0 (And.intro hz1 hz2)))
  clear hi hz0 hz1 hz2
  rcases h.nil with ⟨rfl, rfl⟩ | ⟨g, cap, rfl, hc1, hc2, hg⟩
  · have hp : 0 < room := h.r1
    clear h hlt
    go_enter Try.func10, Try.ntmps10
    go_wp2
    go_quiet (fail)
    obtain ⟨hi, hz0, hz1, hz2⟩ := HI.out
    rename_i nq
    have HD : IsRing (w.drewN nq) b (.slice none 0 0) room old [] := HH.out.quiet ((Alters.refl w).drewN nq)
    have HQ := Go.Lib.hid HD
    go_wp2_with (at_builtin; refine wpList_append_near _ rfl (.tmp 26) (.tmp 28) 28 rfl 3 i0 (Value.int .i64 0) 1 8 Try.underlying28 hi hz0 hz1 hz2 rfl (by decide) _ _ _ rfl (HD.row.alloc _) ⟨w.heap.size, 0, none⟩ 1 1 [Value.int .i64 x] rfl rfl ?c1 ?c2 ?c3 ?c4 ?c5)
    case c1 => intro j u hu; cases j with
      | zero => simp at hu; subst hu; exact (Blk.new (w.drewN nq) #[Value.int .i64 x] 3).cell 0 rfl
      | succ j => simp at hu
    case c2 => intro u hu; simp at hu; subst hu; rfl
    case c3 => unfold maxLen; simp
    case c4 => simp
    case c5 =>
      intro v' w1 hown hgrow hnear _
      obtain ⟨g', cap', rfl⟩ := ownsRow_succ hown
      have hb1 : Blk w1 b #[(.slice none 0 0), .int .i64 room, .bool old] 56 := (hgrow.block b (by simp; omega) (fun e => HQ.out.off e.symm)).trans (HQ.out.own.alloc _)
      have hc1 := hb1.cell 0 rfl
      have hf1 := hb1.free 0
      have HF := Go.Lib.hid (HQ.out.mk_push (x := x) HLT.out hown hgrow hnear)
      clear HD hown hgrow hnear hb1 hi hz0 hz1 hz2 h0 h1
      go_wp2
      go_ret2
      obtain ⟨v2, r1, r2, r3⟩ := HF.out
      exact ⟨rfl, v2, r1, r2, ((Alters.refl w).drewN nq).trans r3⟩
  · clear h
    go_enter Try.func10, Try.ntmps10
    go_wp2
    go_quiet (fail)
    obtain ⟨hi, hz0, hz1, hz2⟩ := HI.out
    rename_i nq
    have HD : IsRing (w.drewN nq) b (.slice (some ⟨g, 0, none⟩) xs.length cap) room old xs := HH.out.quiet ((Alters.refl w).drewN nq)
    have HQ := Go.Lib.hid HD
    go_wp2_with (at_builtin; refine wpList_append_near _ rfl (.tmp 26) (.tmp 28) 28 rfl 3 i0 (Value.int .i64 0) 1 8 Try.underlying28 hi hz0 hz1 hz2 rfl (by decide) _ _ _ rfl (HD.row.alloc _) ⟨w.heap.size, 0, none⟩ 1 1 [Value.int .i64 x] rfl rfl ?c1 ?c2 ?c3 ?c4 ?c5)
    case c1 => intro j u hu; cases j with
      | zero => simp at hu; subst hu; exact (Blk.new (w.drewN nq) #[Value.int .i64 x] 3).cell 0 rfl
      | succ j => simp at hu
    case c2 => intro u hu; simp at hu; subst hu; rfl
    case c3 => unfold maxLen; have := HLT.out; omega
    case c4 => have := HLT.out; omega
    case c5 =>
      intro v' w1 hown hgrow hnear _
      obtain ⟨g', cap', rfl⟩ := ownsRow_succ hown
      have hb1 : Blk w1 b #[(.slice (some ⟨g, 0, none⟩) xs.length cap), .int .i64 room, .bool old] 56 := (hgrow.block b (by simp; omega) (fun e => HQ.out.off e.symm)).trans (HQ.out.own.alloc _)
      have hc1 := hb1.cell 0 rfl
      have hf1 := hb1.free 0
      have HF := Go.Lib.hid (HQ.out.mk_push (x := x) HLT.out hown hgrow hnear)
      clear HD hown hgrow hnear hb1 hi hz0 hz1 hz2 h0 h1
      go_wp2
      go_ret2
      obtain ⟨v2, r1, r2, r3⟩ := HF.out
      exact ⟨rfl, v2, r1, r2, ((Alters.refl w).drewN nq).trans r3⟩

theorem push_full (b : Nat) (v : Value) (room : Nat) (x : Int) (xs : List Int) (w : World) (h : IsRing w b v room false xs) (hlt : xs.length = room) :
    Calls Try.prog 10 #[.pointer (some ⟨b, 0, none⟩), Value.int .i64 x] w fun e w' => e = .returned (.tuple #[Value.int .i64 x, .bool true]) ∧ ∃ n, w' = w.drewN n := by
  have r1 := h.r1
  have h0 := h.own.cell 0 rfl
  have h1 := h.own.cell 1 rfl
  have h2 := h.own.cell 2 rfl
  rcases h.nil with ⟨rfl, rfl⟩ | ⟨g, cap, rfl, hc1, hc2, hg⟩
  · simp at hlt; omega
  · have hle : room ≤ xs.length := by omega
    clear h hlt
    go_enter Try.func10, Try.ntmps10
    go_wp2
    go_quiet (fail)
    go_wp2
    go_ret2
    exact ⟨rfl, _, rfl⟩

theorem near_trans {w w1 : World} {v v1 v2 : Value} (h : Near w v v1) (k : Near w1 v1 v2) (hz : w.heap.size ≤ w1.heap.size) : Near w v v2 := fun i hi => by
  rcases k i hi with h1 | h1
  · exact h i h1
  · exact .inr (by omega)

theorem stepped_then {w w1 w2 : World} {b room : Nat} {v v1 : Value} {old : Bool} {ys : List Int} (h : Near w v v1 ∧ Alters (fun k => k = b ∨ v.ownBlock = some k) w w1) (k : Stepped w1 w2 b v1 room old ys) : Stepped w w2 b v room old ys := by
  obtain ⟨n1, a1⟩ := h
  obtain ⟨v2, r2, n2, a2⟩ := k
  refine ⟨v2, r2, near_trans n1 n2 a1.size, a1.then a2 (fun i hi hq => ?_)⟩
  rcases hq with rfl | hq
  · exact .inl rfl
  · rcases n1 i hq with h1 | h1
    · exact .inr h1
    · omega

theorem push_old (b : Nat) (v : Value) (room : Nat) (x y : Int) (xs : List Int) (w : World) (h : IsRing w b v room true (y :: xs)) (hlt : xs.length + 1 = room) :
    Calls Try.prog 10 #[.pointer (some ⟨b, 0, none⟩), Value.int .i64 x] w fun e w' => e = .returned (.tuple #[Value.int .i64 y, .bool true]) ∧ Stepped w w' b v room true (xs ++ [x]) := by
  have r64 := h.r64
  have h0 := h.own.cell 0 rfl
  have h1 := h.own.cell 1 rfl
  have h2 := h.own.cell 2 rfl
  obtain ⟨i0, hi, hz0, hz1, hz2⟩ := info_parts info3
  have HI := Go.Lib.hid (And.intro hi (And.intro hz0 (And.intro hz1 hz2)))
  clear hi hz0 hz1 hz2
  have hh := pop_walk b v room true y xs
  have HP := Go.Lib.hid hh
  have HH := Go.Lib.hid h
  rcases h.nil with ⟨_, e⟩ | ⟨g, cap, rfl, hc1, hc2, hg⟩
  · simp at e
  · simp only [List.length_cons] at h0
    have hle : room ≤ xs.length + 1 := by omega
    have HLT := Go.Lib.hid hlt
    clear h hlt hh
    go_enter Try.func10, Try.ntmps10
    go_wp2
    go_quiet (fail)
    rename_i nq
    have HD : IsRing (w.drewN nq) b _ room true (y :: xs) := HH.out.quiet ((Alters.refl w).drewN nq)
    go_wp2_with fail
    refine (HP.out _ HD).mono ?_
    rintro e w1 ⟨rfl, hs⟩
    obtain ⟨v1, R1, N1, A1⟩ := hs
    have HS := Go.Lib.hid (show Near w _ v1 ∧ Alters _ w w1 from ⟨N1, ((Alters.refl w).drewN nq).trans A1⟩)
    have HR := Go.Lib.hid R1
    have b1 := R1.own.lt
    clear HD N1 A1 h0 h1 h2
    have c0 := R1.own.cell 0 rfl
    obtain ⟨hi, hz0, hz1, hz2⟩ := HI.out
    rcases R1.nil with ⟨rfl, rfl⟩ | ⟨g1, cap1, rfl, hd1, hd2, hg1⟩
    · go_wp2_with (at_builtin; refine wpList_append_near _ rfl (.tmp 48) (.tmp 50) 28 rfl 3 i0 (Value.int .i64 0) 1 8 Try.underlying28 hi hz0 hz1 hz2 rfl (by decide) _ _ _ rfl (R1.row.alloc _) ⟨w1.heap.size, 0, none⟩ 1 1 [Value.int .i64 x] rfl rfl ?d1 ?d2 ?d3 ?d4 ?d5)
      case d3 => unfold maxLen; simp
      case d4 => simp
      case d1 => intro j u hu; cases j with
        | zero => simp at hu; subst hu; exact (Blk.new w1 #[Value.int .i64 x] 3).cell 0 rfl
        | succ j => simp at hu
      case d2 => intro u hu; simp at hu; subst hu; rfl
      case d5 =>
        intro v' w2 hown hgrow hnear _
        obtain ⟨g', cap', rfl⟩ := ownsRow_succ hown
        have hb1 : Blk w2 b #[(.slice none 0 0), .int .i64 room, .bool true] 56 := (hgrow.block b (by simp; omega) (fun e => HR.out.off e.symm)).trans (HR.out.own.alloc _)
        have hc1 := hb1.cell 0 rfl
        have hf1 := hb1.free 0
        have HF := Go.Lib.hid (HR.out.mk_push (x := x) (by have := HLT.out; simp at this ⊢; omega) hown hgrow hnear)
        clear R1 hown hgrow hnear hb1 hi hz0 hz1 hz2 c0
        go_wp2
        go_ret2
        exact ⟨rfl, stepped_then HS.out HF.out⟩
    · go_wp2_with (at_builtin; refine wpList_append_near _ rfl (.tmp 48) (.tmp 50) 28 rfl 3 i0 (Value.int .i64 0) 1 8 Try.underlying28 hi hz0 hz1 hz2 rfl (by decide) _ _ _ rfl (R1.row.alloc _) ⟨w1.heap.size, 0, none⟩ 1 1 [Value.int .i64 x] rfl rfl ?e1 ?e2 ?e3 ?e4 ?e5)
      case e3 => unfold maxLen; have := HLT.out; omega
      case e4 => have := HLT.out; omega
      case e1 => intro j u hu; cases j with
        | zero => simp at hu; subst hu; exact (Blk.new w1 #[Value.int .i64 x] 3).cell 0 rfl
        | succ j => simp at hu
      case e2 => intro u hu; simp at hu; subst hu; rfl
      case e5 =>
        intro v' w2 hown hgrow hnear _
        obtain ⟨g', cap', rfl⟩ := ownsRow_succ hown
        have hb1 : Blk w2 b #[(.slice (some ⟨g1, 0, none⟩) xs.length cap1), .int .i64 room, .bool true] 56 := (hgrow.block b (by simp; omega) (fun e => HR.out.off e.symm)).trans (HR.out.own.alloc _)
        have hc1 := hb1.cell 0 rfl
        have hf1 := hb1.free 0
        have HF := Go.Lib.hid (HR.out.mk_push (x := x) (by have := HLT.out; simp at this ⊢; omega) hown hgrow hnear)
        clear R1 hown hgrow hnear hb1 hi hz0 hz1 hz2 c0
        go_wp2
        go_ret2
        exact ⟨rfl, stepped_then HS.out HF.out⟩

/-- Memory holds a ring, whose blocks are among D. -/
def RingIn (w : World) (b : Nat) (D : Nat → Prop) (room : Nat) (old : Bool) (xs : List Int) : Prop :=
  ∃ v, IsRing w b v room old xs ∧ D b ∧ (∀ k, v.ownBlock = some k → D k)

theorem RingIn.keep {w w' : World} {b : Nat} {D : Nat → Prop} {room : Nat} {old : Bool} {xs : List Int} {p : Nat → Prop} (h : RingIn w b D room old xs) (hA : Alters p w w') (hp : ∀ k, D k → ¬ p k) : RingIn w' b D room old xs := by
  obtain ⟨v, hr, hb, hv⟩ := h
  exact ⟨v, hr.keep hA (hp b hb) (fun k e => hp k (hv k e)), hb, hv⟩

theorem RingIn.quiet {w w' : World} {b : Nat} {D : Nat → Prop} {room : Nat} {old : Bool} {xs : List Int} (h : RingIn w b D room old xs) (hA : Quiet w w') : RingIn w' b D room old xs := h.keep hA (by simp)

theorem RingIn.lens {w : World} {b : Nat} {D : Nat → Prop} {room : Nat} {old : Bool} {xs : List Int} (h : RingIn w b D room old xs) : xs.length ≤ room ∧ 1 ≤ room ∧ room ≤ 64 := by
  obtain ⟨v, hr, _⟩ := h
  exact ⟨hr.len, hr.r1, hr.r64⟩

def pushed (room : Nat) (old : Bool) (xs : List Int) (x : Int) : List Int := if xs.length < room then xs ++ [x] else if old then xs.tail ++ [x] else xs
def told (room : Nat) (old : Bool) (xs : List Int) (x : Int) : Int := if xs.length < room then 0 else if old then xs.headD 0 else x
def isShed (room : Nat) (xs : List Int) : Bool := decide (room ≤ xs.length)

/-- Behind a step of a ring whose blocks are among D. -/
def StepIn (w w' : World) (b : Nat) (D : Nat → Prop) (room : Nat) (old : Bool) (xs : List Int) : Prop := ∃ D', RingIn w' b D' room old xs ∧ Grew D D' w w' ∧ Alters D w w'

theorem StepIn.of {w w' : World} {b : Nat} {D : Nat → Prop} {room : Nat} {old : Bool} {v : Value} {xs : List Int} (hb : D b) (hv : ∀ k, v.ownBlock = some k → D k) (h : Stepped w w' b v room old xs) : StepIn w w' b D room old xs := by
  obtain ⟨v', r, n, a⟩ := h
  have hz := a.size
  refine ⟨fun k => D k ∨ (w.heap.size ≤ k ∧ k < w'.heap.size), ⟨v', r, .inl hb, fun k e => ?_⟩, fun k h => h, a.mono (fun k _ h => h.elim (fun e => e ▸ hb) (hv k))⟩
  have := (r.row.lt k e).2
  rcases n k e with h1 | h1
  · exact .inl (hv k h1)
  · exact .inr ⟨h1, this⟩

theorem new_in (room : Int) (old : Bool) (w : World) (h1 : 1 ≤ room) (h64 : room ≤ 64) :
    Calls Try.prog 9 #[.int .i64 room, .bool old] w fun e w' => e = .returned (.tuple #[.pointer (some ⟨w.heap.size, 0, none⟩), .int .i64 0]) ∧ RingIn w' w.heap.size (fun k => k = w.heap.size) room.toNat old [] ∧ Quiet w w' := by
  refine (new_walk room old w h1 h64).mono ?_
  rintro e w' ⟨rfl, hr, hq⟩
  exact ⟨rfl, ⟨_, hr, rfl, by simp [Value.ownBlock]⟩, hq⟩

theorem push_in (b : Nat) (D : Nat → Prop) (room : Nat) (old : Bool) (x : Int) (xs : List Int) (w : World) (h : RingIn w b D room old xs) :
    Calls Try.prog 10 #[.pointer (some ⟨b, 0, none⟩), Value.int .i64 x] w fun e w' => e = .returned (.tuple #[Value.int .i64 (told room old xs x), .bool (isShed room xs)]) ∧ StepIn w w' b D room old (pushed room old xs x) := by
  obtain ⟨v, hr, hb, hv⟩ := h
  have hl := hr.len
  by_cases h1 : xs.length < room
  · have e1 : told room old xs x = 0 := by unfold told; rw [if_pos h1]
    have e2 : pushed room old xs x = xs ++ [x] := by unfold pushed; rw [if_pos h1]
    have e3 : isShed room xs = false := by simp [isShed]; omega
    rw [e1, e2, e3]
    refine (push_room b v room old x xs w hr h1).mono ?_
    rintro e w' ⟨rfl, hs⟩
    exact ⟨rfl, StepIn.of hb hv hs⟩
  · have e3 : isShed room xs = true := by simp [isShed]; omega
    rw [e3]
    cases old
    · have e1 : told room false xs x = x := by unfold told; rw [if_neg h1]; rfl
      have e2 : pushed room false xs x = xs := by unfold pushed; rw [if_neg h1]; rfl
      rw [e1, e2]
      refine (push_full b v room x xs w hr (by omega)).mono ?_
      rintro e w' ⟨rfl, n, rfl⟩
      exact ⟨rfl, D, ⟨v, hr.quiet ((Alters.refl _).drewN n), hb, hv⟩, Grew.refl _ _ _, (Alters.refl _).drewN n⟩
    · cases xs with
      | nil => have := hr.r1; simp at h1; omega
      | cons y r =>
        have e1 : told room true (y :: r) x = y := by unfold told; rw [if_neg h1]; rfl
        have e2 : pushed room true (y :: r) x = r ++ [x] := by unfold pushed; rw [if_neg h1]; rfl
        rw [e1, e2]
        refine (push_old b v room x y r w hr (by simp at h1 hl; omega)).mono ?_
        rintro e w' ⟨rfl, hs⟩
        exact ⟨rfl, StepIn.of hb hv hs⟩

theorem pop_in (b : Nat) (D : Nat → Prop) (room : Nat) (old : Bool) (xs : List Int) (w : World) (h : RingIn w b D room old xs) :
    Calls Try.prog 12 #[.pointer (some ⟨b, 0, none⟩)] w fun e w' => e = .returned (.tuple #[Value.int .i64 (xs.headD 0), .bool (!xs.isEmpty)]) ∧ StepIn w w' b D room old xs.tail := by
  obtain ⟨v, hr, hb, hv⟩ := h
  cases xs with
  | nil =>
    refine (pop_walk_nil b v room old w hr).mono ?_
    rintro e w' ⟨rfl, rfl⟩
    exact ⟨rfl, D, ⟨v, hr, hb, hv⟩, Grew.refl _ _ _, Alters.refl _⟩
  | cons x r =>
    refine (pop_walk b v room old x r w hr).mono ?_
    rintro e w' ⟨rfl, hs⟩
    exact ⟨rfl, StepIn.of hb hv hs⟩

theorem head_in (b : Nat) (D : Nat → Prop) (room : Nat) (old : Bool) (xs : List Int) (w : World) (h : RingIn w b D room old xs) :
    Calls Try.prog 14 #[.pointer (some ⟨b, 0, none⟩)] w fun e w' => e = .returned (.tuple #[Value.int .i64 (xs.headD 0), .bool (!xs.isEmpty)]) ∧ w = w' := by
  obtain ⟨v, hr, hb, hv⟩ := h
  cases xs with
  | nil => exact head_walk_nil b v room old w hr
  | cons x r => exact head_walk b v room old x r w hr

theorem len_in (b : Nat) (D : Nat → Prop) (room : Nat) (old : Bool) (xs : List Int) (w : World) (h : RingIn w b D room old xs) :
    Calls Try.prog 15 #[.pointer (some ⟨b, 0, none⟩)] w fun e w' => e = .returned (.int .i64 xs.length) ∧ w = w' := by
  obtain ⟨v, hr, hb, hv⟩ := h
  exact len_walk b v room old xs w hr
end Go.Proofs.Ythlekeaebefhfaa
