/- RingKeeps: for every input the law returns true and its arguments read as before. No condition. -/
import Derived.Test.YthlekeaebefhfaaKeep
import Derived.Test.YthlekeaebefhfaaAwake
import Derived.Test.YthlekeaebefhfaaOpen
import Derived.Deep.LoopGhost
import Derived.Deep.DeepCutAuto
import Derived.Deep.RegionWith
namespace Go.Proofs.Ythlekeaebefhfaa
open Go.RowKit Go.Lo Go.WideShapes

theorem Keep.pushed {m n : Nat} {last : Int} {old : Bool} {xs : List Int} {S : Nat → Bool} (h : Keep m last xs S) (hn : 1 ≤ n) :
    (isShed n xs = false → Keep (m + 1) last (pushed n old xs m) S) ∧ (isShed n xs = true → ∃ x : Nat, told n old xs m = x ∧ x < m + 1 ∧ S x = false ∧ Keep (m + 1) last (pushed n old xs m) (mark S x)) := by
  by_cases hlt : xs.length < n
  · have hs : isShed n xs = false := by simp [isShed]; omega
    refine ⟨fun _ => ?_, fun e => by rw [hs] at e; cases e⟩
    unfold Ythlekeaebefhfaa.pushed
    rw [if_pos hlt]
    exact h.more
  · have hs : isShed n xs = true := by simp [isShed]; omega
    refine ⟨fun e => (by rw [hs] at e; cases e), fun _ => ?_⟩
    unfold told Ythlekeaebefhfaa.pushed
    rw [if_neg hlt, if_neg hlt]
    cases old
    · obtain ⟨h1, h2⟩ := h.past
      exact ⟨m, rfl, by omega, h1, h2⟩
    · cases xs with
      | nil => simp at hlt; omega
      | cons y r =>
        obtain ⟨k, rfl, hk, hl⟩ := h.nat
        have h2 := h.more
        obtain ⟨h3, h4⟩ := Keep.gone (l' := last) (x := k) (xs := r ++ [(m : Int)]) h2 (Int.le_refl _) (by omega)
        exact ⟨k, rfl, by omega, h3, h4⟩

/-- n bools, one behind the other. -/
def bools (n : Nat) (f : Nat → Bool) : Array Value := (Array.range n).map fun i => .bool (f i)
theorem bools_at (n : Nat) (f : Nat → Bool) (i : Nat) (h : i < n) : (bools n f)[i]? = some (.bool (f i)) := by simp [bools, h]
theorem bools_mark (n : Nat) (f : Nat → Bool) (k : Nat) : (bools n f).setIfInBounds k (.bool true) = bools n (mark f k) := by
  unfold bools
  apply Array.ext
  · simp
  · intro i h1 h2
    rw [Array.getElem_setIfInBounds (by simpa using h2)]
    by_cases e : k = i
    · subst e; simp [mark]
    · have : ¬ i = k := fun h => e h.symm
      rw [if_neg e, Array.getElem_map, Array.getElem_map, Array.getElem_range]
      simp [mark, this]

/-- The law's loop: the ring, and what was seen. -/
structure KeepAt (w0 : World) (b g n T : Nat) (old : Bool) (w : World) (D : Nat → Prop) (xs : List Int) (S : Nat → Bool) : Prop where
  ring : RingIn w b D n old xs
  blk : Blk w g (bools T S) 4
  off : ¬ D g
  low : ∀ k, D k → w0.heap.size ≤ k ∧ k < w.heap.size
  lowg : w0.heap.size ≤ g
  quiet : Quiet w0 w

theorem KeepAt.on {w0 w w' : World} {b g n T : Nat} {old : Bool} {D : Nat → Prop} {xs : List Int} {S : Nat → Bool} (h : KeepAt w0 b g n T old w D xs S) (hq : Quiet w w') : KeepAt w0 b g n T old w' D xs S :=
  ⟨h.ring.quiet hq, hq.blk h.blk (by simp), h.off, fun k e => ⟨(h.low k e).1, Nat.lt_of_lt_of_le (h.low k e).2 hq.size⟩, h.lowg, h.quiet.trans hq⟩

theorem KeepAt.step {w0 w w' : World} {b g n T : Nat} {old : Bool} {D : Nat → Prop} {xs ys : List Int} {S : Nat → Bool} (h : KeepAt w0 b g n T old w D xs S) (hs : StepIn w w' b D n old ys) : ∃ D', KeepAt w0 b g n T old w' D' ys S := by
  obtain ⟨D', r, gr, a⟩ := hs
  have hz := a.size
  have hq := h.quiet.size
  have hg := h.blk.lt
  refine ⟨D', r, a.blk h.blk h.off, fun hd => ?_, fun k hd => ?_, h.lowg, h.quiet.then a (fun i hi hd => by have := (h.low i hd).1; omega)⟩
  · rcases gr g hd with h1 | h1
    · exact h.off h1
    · omega
  · rcases gr k hd with h1 | h1
    · have := h.low k h1; omega
    · omega

theorem KeepAt.mark {w0 w : World} {b g n T : Nat} {old : Bool} {D : Nat → Prop} {xs : List Int} {S : Nat → Bool} (h : KeepAt w0 b g n T old w D xs S) (x : Nat) : KeepAt w0 b g n T old (w.setCell ⟨g, x, none⟩ (.bool true)) D xs (Ythlekeaebefhfaa.mark S x) := by
  have hA : Alters (fun k => k = g) w (w.setCell ⟨g, x, none⟩ (.bool true)) := (Alters.refl (p := fun k => k = g) w).set (q := ⟨g, x, none⟩) (fun _ => rfl) _
  have hb := h.blk.set x (.bool true)
  rw [bools_mark] at hb
  exact ⟨h.ring.keep hA (fun k hd e => h.off (e ▸ hd)), hb, h.off, fun k hd => by have := h.low k hd; simpa using this, h.lowg, h.quiet.then hA (fun i hi e => by have := h.lowg; omega)⟩

/-- Behind a taking or a putting: what was told, if anything, is not yet marked. -/
def Mid (w0 : World) (b g n T : Nat) (old : Bool) (w : World) (m : Nat) (l t : Int) (o : Bool) : Prop :=
  ∃ D ys S, KeepAt w0 b g n T old w D ys S ∧ (o = false → Keep m l ys S) ∧ (o = true → ∃ x : Nat, t = x ∧ x < m ∧ S x = false ∧ Keep m l ys (mark S x))

theorem info4 : (Try.prog.info? 4).map (fun i => (i.zero, i.size, i.bytes)) = some (some (.bool false), 1, 1) := by kernel_rfl

theorem made_bools (n : Nat) : madeCells (Value.bool false).cells (n * 1) = bools n fun _ => false := by
  apply Array.ext
  · simp [bools, madeCells]
  · intro i h1 h2
    simp [bools, madeCells, Value.cells, Nat.mod_one]

theorem make_bools (n : Nat) (h : n ≤ 200) : ∀ w : World, (Instr.makeSlice 48 (.int .i64 n) (.int .i64 n)).run Try.prog w = .ok (.slice (some ⟨w.heap.size, 0, none⟩) n n) (w.alloc (.cells (bools n fun _ => false) 4)) := by
  intro w
  obtain ⟨i0, hi, hz0, hz1, hz2⟩ := info_parts info4
  have := run_make (P := Try.prog) w 48 4 i0 (.bool false) Try.underlying48 hi hz0 .i64 .i64 n n (by omega) (by omega) (by rw [hz2]; omega) (by omega)
  rw [hz1, Int.toNat_natCast, made_bools] at this
  exact this

/-- n bools that came in. -/
def BoolsIn (w : World) (a : Option Addr) (n : Nat) (P : Nat → Bool) : Prop :=
  0 < n → ∃ b off, a = some ⟨b, off, none⟩ ∧ b < w.heap.size ∧ ∀ i, i < n → w.cell? ⟨b, off + i, none⟩ = some (.bool (P i))

set_option maxRecDepth 100000 in
set_option maxHeartbeats 4000000 in
theorem keeps_walk (u : Nat) (old : Bool) (a : Option Addr) (T cap : Nat) (P : Nat → Bool) (w : World) (hu : u ≤ 255) (hT : T ≤ maxLen) (hl : BoolsIn w a T P) :
    Calls Try.prog 6 #[.int .u8 u, .bool old, .slice a T cap] w fun e w' => e = .returned (.bool true) ∧ Below w.heap.size w w' := by
  have HL := Go.Lib.hid hl
  unfold maxLen at hT
  clear hl
  have m0 : 0 ≤ (u : Int) % 8 := by omega
  have m1 : (u : Int) % 8 < 8 := by omega
  go_enter Try.func6, Try.ntmps6
  go_wp2_with fail
  refine (awake_walk w).mono ?_
  rintro e w1 ⟨rfl, q1⟩
  by_cases hn200 : 200 < T
  · go_wp2
    go_ret
    exact ⟨rfl, q1.below (Nat.le_refl _) (by simp)⟩
  · go_wp2_with fail
    obtain ⟨N, hN⟩ := Int.eq_ofNat_of_zero_le (show 0 ≤ (u : Int) % 8 + 1 by omega)
    have hN1 : 1 ≤ N := by omega
    have hN8 : N ≤ 8 := by omega
    rw [hN]
    clear hN m0 m1
    refine (new_in N old w1 (by omega) (by omega)).mono ?_
    rintro e w2 ⟨rfl, hR, q2⟩
    rw [Int.toNat_natCast] at hR
    have hmk := make_bools T (by omega)
    have hO : KeepAt w w1.heap.size w2.heap.size N T old (w2.alloc (.cells (bools T fun _ => false) 4)) (fun k => k = w1.heap.size) [] (fun _ => false) := by
      have l1 : w1.heap.size < w2.heap.size := by obtain ⟨v, h, _⟩ := hR; exact h.own.lt
      have hz := q1.size
      exact ⟨hR.quiet ((Alters.refl _).alloc _), Blk.new _ _ _, by omega, fun k e => by simp; omega, by omega, (q1.trans q2).alloc _⟩
    clear hR q2 q1
    go_wp2
    generalize w2.alloc _ = w3 at *
    generalize w1.heap.size = b at *
    generalize w2.heap.size = g at *
    clear hmk
    go_loopg [12, 13, 14] T (fun j l m i wr => ∃ (k M : Nat) (la : Int) (D : Nat → Prop) (xs : List Int) (S : Nat → Bool), k ≤ T ∧ j = T - k ∧ i = .int .i64 k ∧ m = .int .i64 M ∧ l = .int .i64 la ∧ M ≤ k ∧ Keep M la xs S ∧ KeepAt w b g N T old wr D xs S)
    case atStart => exact ⟨0, 0, -1, _, [], _, Nat.zero_le _, rfl, rfl, rfl, rfl, Nat.le_refl _, Keep.start, hO⟩
    case round =>
      clear hO
      obtain ⟨k, M, la, D, xs, S, hk, hgk, rfl, rfl, rfl, hM, hKp, hO⟩ := hrel
      have HGK := Go.Lib.hid hgk
      clear hgk
      have hla := hKp.l0
      have hla1 := hKp.l1
      by_cases hlt : k < T
      · obtain ⟨lb, lo, rfl, hlb, hz⟩ := HL.out (by omega)
        have c1 := hO.quiet.cell (hz k hlt) (by simp)
        have HO := Go.Lib.hid hO
        have HK := Go.Lib.hid hKp
        clear hz hO hKp
        go_upto_if 50 with (fail)
        go_cut [12, 13, 15, 16] (fun l m t o wx => ∃ (M' : Nat) (l' t' : Int) (o' : Bool), l = .int .i64 l' ∧ m = .int .i64 M' ∧ t = .int .i64 t' ∧ o = .bool o' ∧ M' ≤ k + 1 ∧ Mid w b g N T old wx M' l' t' o')
        case first =>
          cases hP : P k
          · rw [hP] at c1
            have hp := push_in b D N old (M : Int) xs wr HO.out.ring
            have hk2 := HK.out.pushed (old := old) hN1
            generalize told N old xs M = t at hp hk2
            generalize isShed N xs = o at hp hk2
            generalize pushed N old xs M = ys at hp hk2
            have HP := Go.Lib.hid hp
            have HK2 := Go.Lib.hid hk2
            clear hp hk2
            go_wp2_with fail
            refine HP.out.mono ?_
            rintro e w4 ⟨rfl, hst⟩
            obtain ⟨D2, hO2⟩ := HO.out.step hst
            have HO2 := Go.Lib.hid hO2
            clear hst hO2 c1
            go_wp2
            go_meet
            exact ⟨M + 1, la, t, o, rfl, by go_num, rfl, rfl, by omega, D2, ys, S, HO2.out, HK2.out.1, HK2.out.2⟩
          · rw [hP] at c1
            have hp := pop_in b D N old xs wr HO.out.ring
            cases xs with
            | nil =>
              have HP := Go.Lib.hid hp
              clear hp
              go_wp2_with fail
              refine HP.out.mono ?_
              rintro e w4 ⟨rfl, hst⟩
              obtain ⟨D2, hO2⟩ := HO.out.step hst
              have HO2 := Go.Lib.hid hO2
              clear hst hO2 c1
              go_wp2
              go_meet
              exact ⟨M, la, 0, false, rfl, rfl, rfl, rfl, by omega, D2, [], S, HO2.out, fun _ => HK.out, fun h => by cases h⟩
            | cons x r =>
              obtain ⟨X, rfl, hX, hX2⟩ := HK.out.nat
              obtain ⟨g1, g2⟩ := HK.out.gone (l' := X) (by omega) (Int.le_refl _)
              have HP := Go.Lib.hid hp
              have HG := Go.Lib.hid (And.intro g1 g2)
              clear hp g1 g2
              go_wp2_with fail
              refine HP.out.mono ?_
              rintro e w4 ⟨rfl, hst⟩
              obtain ⟨D2, hO2⟩ := HO.out.step hst
              have HO2 := Go.Lib.hid hO2
              clear hst hO2 c1
              go_wp2
              go_meet
              exact ⟨M, X, X, true, rfl, rfl, rfl, rfl, by omega, D2, r, S, HO2.out, (fun h => by cases h), fun _ => ⟨X, rfl, hX, HG.out.1, HG.out.2⟩⟩
        case rest =>
          obtain ⟨M', l', t', o', rfl, rfl, rfl, rfl, hM', D', ys, S', hO', hf, ht⟩ := hcut
          clear HO HK hla hla1 c1
          have HO := Go.Lib.hid hO'
          cases o'
          · have HF := Go.Lib.hid (hf rfl)
            clear hf ht hO'
            go_wp2
            go_roundg (T - (k + 1))
            case measure => have := HGK.out; omega
            case rel => exact ⟨k + 1, M', l', D', ys, S', by omega, rfl, by go_num, rfl, rfl, hM', HF.out, HO.out⟩
          · obtain ⟨X, rfl, hX, hX2, hX3⟩ := ht rfl
            have HF := Go.Lib.hid hX3
            have cX := hO'.blk.cell X (bools_at T S' X (by omega))
            rw [hX2] at cX
            have fX := hO'.blk.free X
            have HM := Go.Lib.hid (hO'.mark X)
            clear hf ht hO' hX3 hX2
            go_wp2
            go_roundg (T - (k + 1))
            case measure => have := HGK.out; omega
            case rel => exact ⟨k + 1, M', l', D', ys, _, by omega, rfl, by go_num, rfl, rfl, hM', HF.out, HM.out⟩
      · obtain rfl : k = T := by omega
        have HKp := Go.Lib.hid hKp
        have hlens := hO.ring.lens
        have HO := Go.Lib.hid hO
        clear hKp hO HL HGK
        go_wp2_with fail
        refine (items_in b D N old xs 300 wr HO.out.ring (by omega) (by omega)).mono ?_
        rintro e w4 ⟨v', rfl, hi, hfr, hq⟩
        rw [List.take_of_length_le (by omega)] at hi
        obtain ⟨A, c, rfl⟩ : ∃ A c, v' = .slice A xs.length c := by obtain ⟨A, c, e, _⟩ := hi; exact ⟨A, c, e⟩
        have hgl := HO.out.blk.lt
        have HI := Go.Lib.hid hi
        have HW := Go.Lib.hid (show Quiet w w4 from HO.out.quiet.trans hq)
        have HO4 := Go.Lib.hid (HO.out.on hq)
        have hK0 : Keep M la (xs.drop 0) S := HKp.out
        clear hi hq HO HKp hla hla1
        go_wp2
        go_loopg [12, 18] xs.length (fun j l i wx => ∃ (n : Nat) (la : Int) (S : Nat → Bool), n ≤ xs.length ∧ j = xs.length - n ∧ i = .int .i64 n ∧ l = .int .i64 la ∧ Keep M la (xs.drop n) S ∧ KeepAt w b g N k old wx D xs S ∧ Alters (fun k => k = g) w4 wx)
        case atStart => exact ⟨0, la, S, Nat.zero_le _, rfl, rfl, rfl, hK0, HO4.out, Alters.refl _⟩
        case round =>
          clear hK0 HO4
          obtain ⟨n, la, S, hn, hgn, rfl, rfl, hKp, hO, hA⟩ := hrel
          have HGN := Go.Lib.hid hgn
          clear hgn
          have hl0 := hKp.l0
          have hl1 := hKp.l1
          by_cases hlt2 : n < xs.length
          · obtain ⟨b1, o1, rfl, hz⟩ := HI.out.cell hlt2
            have hfb := hfr b1 rfl
            have c1 := hA.cell hz (by simp; omega)
            have e1 : xs.drop n = xs.getD n 0 :: xs.drop (n + 1) := by
              rw [List.drop_eq_getElem_cons hlt2]; simp [hlt2]
            rw [e1] at hKp
            obtain ⟨X, hXe, hX, hX2⟩ := hKp.nat
            rw [hXe] at hKp c1 hX2
            obtain ⟨g1, g2⟩ := hKp.gone (l' := X) (by omega) (Int.le_refl _)
            have cX := hO.blk.cell X (bools_at k S X (by omega))
            rw [g1] at cX
            have fX := hO.blk.free X
            have HM := Go.Lib.hid (hO.mark X)
            have HG := Go.Lib.hid g2
            have HA := Go.Lib.hid (hA.set (q := ⟨g, X, none⟩) (fun _ => rfl) (.bool true))
            clear hz e1 hKp hXe g1 g2 hO hA
            go_wp2
            go_roundg (xs.length - (n + 1))
            case measure => have := HGN.out; omega
            case rel => exact ⟨n + 1, X, _, by omega, rfl, by go_num, rfl, HG.out, HM.out, HA.out⟩
          · obtain rfl : n = xs.length := by omega
            rw [List.drop_eq_nil_of_le (Nat.le_refl _)] at hKp
            have HK := Go.Lib.hid hKp
            have HO := Go.Lib.hid hO
            clear hKp hO hA hfr HI HGN
            go_wp2
            go_loop [19] (fun i => ∃ j : Nat, j ≤ M ∧ i = .int .i64 j) (fun i => M - (intOf i).toNat)
            case atStart => exact ⟨0, Nat.zero_le _, rfl⟩
            case round =>
              obtain ⟨j, hj, rfl⟩ := hrel
              by_cases hlt3 : j < M
              · have cj := HO.out.blk.cell j (bools_at k S j (by omega))
                rw [HK.out.all hlt3] at cj
                go_wp2
                go_round
                case rel => exact ⟨j + 1, by omega, by go_num⟩
                case measure => simp [intOf]; omega
              · obtain rfl : j = M := by omega
                go_wp2_with fail
                refine (len_in b D N old xs wr HO.out.ring).mono ?_
                rintro e w5 ⟨rfl, rfl⟩
                go_wp2
                go_ret
                exact ⟨rfl, HO.out.quiet.below (Nat.le_refl _) (by simp)⟩

section
open Go.ChangeShapes Go.WideShapes Go.ChangeAt Go.Deep

theorem open_bools_at {H : Type} {enc : TypeId × Value → H} {w : World} {spare : Nat → Bool} {held : Bool} {v : Value} {d : DataW H} {ps : List MemPlace} (hv : Value.okWide Try.prog w .any 0 48 v)
    (h : DataW.Trod enc Try.prog w 0 spare held 48 v d ps) : ∃ (a : Option Addr) (len cap : Nat) (P : Nat → Bool), v = .slice a len cap ∧ len ≤ maxLen ∧ BoolsIn w a len P := by
  have c4 : Try.prog.cellsOf 4 = 1 := by kernel_rfl
  obtain ⟨a, len, cap, rfl, hl, hx⟩ := open_elems Try.underlying48 hv (by rw [c4]; omega) h
  by_cases h0 : 0 < len
  · obtain ⟨b, off, rfl, hb, hx⟩ := hx h0
    obtain ⟨X, hX⟩ := choose_lt (α := Bool) (p := fun i x => w.cell? ⟨b, off + i, none⟩ = some (.bool x)) (fun i hi => by
      obtain ⟨cs, n, y, hlen, hcell, hd⟩ := hx i hi
      obtain ⟨q, rfl, _⟩ := DataW.trod_bool Try.underlying4 hd
      have := hcell 0 (by omega)
      rw [c4] at this
      exact ⟨q, by simpa using this⟩)
    exact ⟨_, len, cap, X, rfl, hl, fun _ => ⟨b, off, rfl, hb, hX⟩⟩
  · exact ⟨a, len, cap, fun _ => false, rfl, hl, fun h => absurd h h0⟩

theorem ringKeeps_run {H : Type} {enc : TypeId × Value → H} (W : World) (v0 v1 v2 : Value) (d0 d1 d2 : DataW H) (p0 p1 p2 : List MemPlace)
    (k0 : Value.okWide Try.prog W .any 0 5 v0) (h0 : DataW.Trod enc Try.prog W 0 (fun _ => true) true 5 v0 d0 p0)
    (k1 : Value.okWide Try.prog W .any 0 4 v1) (h1 : DataW.Trod enc Try.prog W 0 (fun _ => true) true 4 v1 d1 p1)
    (k2 : Value.okWide Try.prog W .any 0 48 v2) (h2 : DataW.Trod enc Try.prog W 0 (fun _ => true) true 48 v2 d2 p2) :
    Calls Try.prog 6 #[v0, v1, v2] W fun e w' => e = .returned (.bool true) ∧ Below W.heap.size W w' := by
  obtain ⟨r, rfl, wr⟩ := open_i Try.underlying5 k0 h0
  obtain ⟨o, rfl⟩ := open_b Try.underlying4 k1 h1
  obtain ⟨a, n, cap, P, rfl, hn, hl⟩ := open_bools_at k2 h2
  simp [Lit.wf, IntKind.min, IntKind.max, IntKind.bits, IntKind.signed] at wr
  obtain ⟨u, rfl⟩ := Int.eq_ofNat_of_zero_le (show 0 ≤ r by omega)
  exact keeps_walk u o a n cap P W (by omega) hn hl

theorem ringKeeps_own : ownKnob Try.prog.godebug = none := by kernel_rfl
theorem ringKeeps_laidOut : laidOutB Try.prog = true := by kernel_rfl

set_option maxRecDepth 100000 in
theorem ringKeeps_lifted (os : Os) (started : os.Started) (H : Type) (enc : TypeId × Value → H) :
    ReturnsInHanded {} Try.checked os 6 .any (Rows.ringKeepsSpec.pre6 enc Try.prog Try.f6 Rows.ringKeepsRow.domain false) (Rows.ringKeepsSpec.post enc Try.prog Try.f6 false true false false) := by
  refine returnsInHanded_of_change (C := Try.checked) ringKeeps_own started (by kernel_rfl) Try.func6
    (ChangeSpec.witness6 (enc := enc) (C := Try.checked) false ⟨#[], #[.int .u8 0, .bool false, .slice none 0 0], []⟩ 8 (by kernel_rfl) (by kernel_rfl) (by kernel_rfl) (by kernel_rfl)) ?_
  intro W base args ds gs before hval0 hW hcnd _
  have hval : ∀ (j : Nat) t v, Try.f6.params[j]? = some t → args[j]? = some v → Value.okWide Try.prog W .any base t v := hval0
  have hW' := hW
  obtain ⟨p, q, hA0, hV, rfl, hfz, hnd⟩ := hW
  have hA : DataW.TrodAll enc Try.prog W 0 (fun _ => true) true Try.f6.params.toList args.toList ds p := hA0
  rw [Try.params6] at hA hval
  obtain ⟨v0, vs0, d0, ds0, p0, q0, hargs, rfl, rfl, h0, r0⟩ := trodAll_cons hA
  obtain ⟨v1, vs1, d1, ds1, p1, q1, rfl, rfl, rfl, h1, r1⟩ := trodAll_cons r0
  obtain ⟨v2, vs2, d2, ds2, p2, q2, rfl, rfl, rfl, h2, r2⟩ := trodAll_cons r1
  obtain ⟨rfl, rfl, rfl⟩ := trodAll_nil r2
  obtain rfl : args = #[v0, v1, v2] := by cases args; simp_all
  obtain ⟨rfl, rfl⟩ := trodVars_none hV
  have lt0 : ∀ x ∈ p0, x.block < W.heap.size := by obtain ⟨m, hm⟩ := h0; exact DataW.trod_lt m _ _ _ hm
  have lt1 : ∀ x ∈ p1, x.block < W.heap.size := by obtain ⟨m, hm⟩ := h1; exact DataW.trod_lt m _ _ _ hm
  have lt2 : ∀ x ∈ p2, x.block < W.heap.size := by obtain ⟨m, hm⟩ := h2; exact DataW.trod_lt m _ _ _ hm
  clear hA0
  refine (ringKeeps_run W v0 v1 v2 d0 d1 d2 p0 p1 p2 (hval 0 5 v0 rfl rfl) h0 (hval 1 4 v1 rfl rfl) h1 (hval 2 48 v2 rfl rfl) h2).mono fun e W' ⟨he, bel⟩ => ?_
  subst he
  exact ⟨_, rfl, _, _, _, [], _, [], hW', trodAll_mk1 (shut_bool Try.underlying4 _), (trodAll_cons_mk (Below.trod ringKeeps_laidOut (by kernel_rfl) (of_decide_eq_true (by kernel_rfl)) h0 bel lt0) (trodAll_cons_mk (Below.trod ringKeeps_laidOut (by kernel_rfl) (of_decide_eq_true (by kernel_rfl)) h1 bel lt1) (trodAll_cons_mk (Below.trod ringKeeps_laidOut (by kernel_rfl) (of_decide_eq_true (by kernel_rfl)) h2 bel lt2) trodAll_mk0))), rfl, bel.frame _, fun h => by cases h⟩

/-- The given statement. -/
theorem ringKeeps_holds : Rows.RingKeepsSaid :=
  OpenClaim.holds_of_wide 6 Try.f6 rfl rfl rfl rfl rfl rfl rfl ⟨rfl, rfl, rfl, rfl, rfl⟩ rfl rfl rfl rfl rfl (by kernel_rfl) Try.func6 (by kernel_rfl)
    (of_decide_eq_true (by kernel_rfl)) (by unfold Func.isWrapper; first | (rw [if_pos (by decide +kernel)]; kernel_rfl) | (rw [if_neg (by decide +kernel)]; exact ⟨rfl, rfl⟩))
    (fun os started H enc _ => ringKeeps_lifted os started H enc)
#print axioms ringKeeps_holds

end
end Go.Proofs.Ythlekeaebefhfaa
