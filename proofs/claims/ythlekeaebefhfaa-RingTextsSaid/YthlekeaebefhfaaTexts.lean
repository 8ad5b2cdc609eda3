/- RingTexts: for every input the law returns true and its arguments read as before. No condition. -/
import Derived.Test.YthlekeaebefhfaaOrder
import Derived.Test.YthlekeaebefhfaaWalkS
import Derived.Deep.LoopGhost
import Derived.Deep.DeepCutAuto
namespace Go.Proofs.Ythlekeaebefhfaa
open Go.RowKit Go.Lo Go.WideShapes

theorem texts_step (n : Nat) (old : Bool) (xs : List Int) (x : Int) (f : Int → ByteArray) : S.pushed n old (xs.map f) (f x) = (pushed n old xs x).map f ∧ S.isShed n (xs.map f) = isShed n xs ∧
    (isShed n xs = false → S.told n old (xs.map f) (f x) = ByteArray.empty ∧ told n old xs x = 0) ∧ (1 ≤ n → isShed n xs = true → S.told n old (xs.map f) (f x) = f (told n old xs x)) := by
  refine ⟨?_, by simp [S.isShed, isShed], fun h => ?_, fun hn h => ?_⟩
  · unfold S.pushed pushed
    simp only [List.length_map]
    by_cases hl : xs.length < n
    · rw [if_pos hl, if_pos hl]; simp
    · rw [if_neg hl, if_neg hl]; cases old <;> simp
  · have hl : xs.length < n := by simpa [isShed] using h
    unfold S.told told
    simp only [List.length_map]
    rw [if_pos hl, if_pos hl]
    exact ⟨rfl, rfl⟩
  · have hl : ¬ xs.length < n := by simp [isShed] at h; omega
    unfold S.told told
    simp only [List.length_map]
    rw [if_neg hl, if_neg hl]
    cases old
    · rfl
    · cases xs with
      | nil => simp at hl; omega
      | cons y r => rfl

/-- What is told is one of those that wait, or the one that is put in; what waits behind a step waited, or is the one. -/
theorem texts_mem (n : Nat) (old : Bool) (xs : List Int) (x : Int) (p : Int → Prop) (h : ∀ y ∈ xs, p y) (hx : p x) (h0 : 1 ≤ n) : (∀ y ∈ pushed n old xs x, p y) ∧ (isShed n xs = true → p (told n old xs x)) := by
  constructor
  · intro y hy
    unfold pushed at hy
    by_cases hl : xs.length < n
    · rw [if_pos hl] at hy
      rcases List.mem_append.1 hy with h1 | h1
      · exact h y h1
      · simp at h1; subst h1; exact hx
    · rw [if_neg hl] at hy
      cases old
      · exact h y hy
      · rcases List.mem_append.1 hy with h1 | h1
        · exact h y (List.mem_of_mem_tail h1)
        · simp at h1; subst h1; exact hx
  · intro hs
    have hl : ¬ xs.length < n := by simp [isShed] at hs; omega
    unfold told
    rw [if_neg hl]
    cases old
    · exact hx
    · cases xs with
      | nil => simp at hl; omega
      | cons y r => exact h y (by simp)

/-- The law's loop: the ring of numbers and that of texts, side by side. -/
structure TextsAt (w0 : World) (a b n : Nat) (old : Bool) (f : Int → ByteArray) (T : Nat) (w : World) (D E : Nat → Prop) (xs : List Int) : Prop where
  ra : RingIn w a D n old xs
  rb : S.RingIn w b E n old (xs.map f)
  far : Far D E
  lowa : ∀ k, D k → w0.heap.size ≤ k ∧ k < w.heap.size
  lowb : ∀ k, E k → w0.heap.size ≤ k ∧ k < w.heap.size
  bd : ∀ x ∈ xs, 0 ≤ x ∧ x < T
  quiet : Quiet w0 w

theorem TextsAt.on {w0 w w' : World} {a b n T : Nat} {old : Bool} {f : Int → ByteArray} {D E : Nat → Prop} {xs : List Int} (h : TextsAt w0 a b n old f T w D E xs) (hq : Quiet w w') : TextsAt w0 a b n old f T w' D E xs :=
  ⟨h.ra.quiet hq, h.rb.quiet hq, h.far, fun k e => ⟨(h.lowa k e).1, Nat.lt_of_lt_of_le (h.lowa k e).2 hq.size⟩, fun k e => ⟨(h.lowb k e).1, Nat.lt_of_lt_of_le (h.lowb k e).2 hq.size⟩, h.bd, h.quiet.trans hq⟩

/-- The ring of numbers has made a step, that of texts not yet. -/
structure TextsMid (w0 : World) (a b n : Nat) (old : Bool) (f : Int → ByteArray) (w : World) (D E : Nat → Prop) (xs ys : List Int) : Prop where
  ra : RingIn w a D n old ys
  rb : S.RingIn w b E n old (xs.map f)
  far : Far D E
  lowa : ∀ k, D k → w0.heap.size ≤ k ∧ k < w.heap.size
  lowb : ∀ k, E k → w0.heap.size ≤ k ∧ k < w.heap.size
  quiet : Quiet w0 w

theorem TextsAt.first {w0 w w' : World} {a b n T : Nat} {old : Bool} {f : Int → ByteArray} {D E : Nat → Prop} {xs ys : List Int} (h : TextsAt w0 a b n old f T w D E xs) (hs : StepIn w w' a D n old ys) : ∃ D', TextsMid w0 a b n old f w' D' E xs ys := by
  obtain ⟨D', r, g, al⟩ := hs
  have hz := al.size
  have hq := h.quiet.size
  refine ⟨D', r, h.rb.keep al (fun k h2 h1 => h.far k h1 h2), h.far.grew g (fun k h2 => (h.lowb k h2).2), fun k hk => ?_, fun k hk => ?_, h.quiet.then al (fun i hi hd => by have := (h.lowa i hd).1; omega)⟩
  · rcases g k hk with h1 | h1
    · have := h.lowa k h1; omega
    · omega
  · have := h.lowb k hk; omega

theorem TextsMid.second {w0 w w' : World} {a b n T : Nat} {old : Bool} {f : Int → ByteArray} {D E : Nat → Prop} {xs ys : List Int} (h : TextsMid w0 a b n old f w D E xs ys) (hbd : ∀ x ∈ ys, 0 ≤ x ∧ x < T) (hs : S.StepIn w w' b E n old (ys.map f)) : ∃ E', TextsAt w0 a b n old f T w' D E' ys := by
  obtain ⟨E', r, g, al⟩ := hs
  have hz := al.size
  have hq := h.quiet.size
  refine ⟨E', h.ra.keep al (fun k h1 h2 => h.far k h1 h2), r, (h.far.symm.grew g (fun k h2 => (h.lowa k h2).2)).symm, fun k hk => ?_, fun k hk => ?_, hbd, h.quiet.then al (fun i hi hd => by have := (h.lowb i hd).1; omega)⟩
  · have := h.lowa k hk; omega
  · rcases g k hk with h1 | h1
    · have := h.lowb k h1; omega
    · omega

/-- n texts that came in. -/
def TextsIn (w : World) (a : Option Addr) (n : Nat) (fs : Nat → ByteArray) : Prop :=
  0 < n → ∃ b off, a = some ⟨b, off, none⟩ ∧ b < w.heap.size ∧ ∀ i, i < n → w.cell? ⟨b, off + i, none⟩ = some (.string (fs i))

theorem ints_alters {w w' : World} {p : Nat → Prop} {v : Value} {xs : List Int} (h : Ints w v xs) (hA : Alters p w w') (hv : ∀ k, v.ownBlock = some k → ¬ p k) : Ints w' v xs := by
  obtain ⟨A, c, rfl, hl, hr, hs⟩ := h
  exact ⟨A, c, rfl, hl, hr.keep hA (fun ad e _ => hv ad.block (by rw [e]; rfl)), hs⟩

theorem items_in2 (b : Nat) (D : Nat → Prop) (room : Nat) (old : Bool) (xs : List Int) (m : Nat) (w : World) (h : RingIn w b D room old xs) (hm : 1 ≤ m) (hm2 : m ≤ 1000) :
    Calls Try.prog 17 #[.pointer (some ⟨b, 0, none⟩), .int .i64 m] w fun e w' => ∃ v', e = .returned v' ∧ Ints w' v' (xs.take m) ∧ (∀ k, v'.ownBlock = some k → w.heap.size ≤ k ∧ k < w'.heap.size) ∧ Quiet w w' := by
  obtain ⟨v, hr, _, _⟩ := h
  refine (items_walk b v room old xs m w hr hm hm2).mono ?_
  rintro e w' ⟨v', rfl, ho, hq⟩
  exact ⟨v', rfl, Ints.of_row ho, fun k e => ho.lt k e, hq⟩

/-- A list that lies beside both rings. -/
def Beside (w : World) (D E : Nat → Prop) (v : Value) (xs : List Int) : Prop := Ints w v xs ∧ ∀ k, v.ownBlock = some k → ¬ D k ∧ ¬ E k ∧ k < w.heap.size

theorem Beside.left {w w' : World} {D E D' : Nat → Prop} {v : Value} {xs : List Int} (h : Beside w D E v xs) (hg : Grew D D' w w') (hA : Alters D w w') : Beside w' D' E v xs := by
  have hz := hA.size
  refine ⟨ints_alters h.1 hA (fun k e => (h.2 k e).1), fun k e => ⟨fun hd => ?_, (h.2 k e).2.1, by have := h.2 k e; omega⟩⟩
  have := h.2 k e
  rcases hg k hd with h1 | h1
  · exact this.1 h1
  · omega

theorem Beside.right {w w' : World} {D E E' : Nat → Prop} {v : Value} {xs : List Int} (h : Beside w D E v xs) (hg : Grew E E' w w') (hA : Alters E w w') : Beside w' D E' v xs := by
  have hz := hA.size
  refine ⟨ints_alters h.1 hA (fun k e => (h.2 k e).2.1), fun k e => ⟨(h.2 k e).1, fun hd => ?_, by have := h.2 k e; omega⟩⟩
  have := h.2 k e
  rcases hg k hd with h1 | h1
  · exact this.2.1 h1
  · omega

theorem TextsAt.first_b {w0 w w' : World} {a b n T : Nat} {old : Bool} {f : Int → ByteArray} {D E : Nat → Prop} {xs ys l : List Int} {v : Value} (h : TextsAt w0 a b n old f T w D E xs) (hv : Beside w D E v l) (hs : StepIn w w' a D n old ys) :
    ∃ D', TextsMid w0 a b n old f w' D' E xs ys ∧ Beside w' D' E v l := by
  obtain ⟨D', r, g, al⟩ := hs
  have hz := al.size
  have hq := h.quiet.size
  refine ⟨D', ⟨r, h.rb.keep al (fun k h2 h1 => h.far k h1 h2), h.far.grew g (fun k h2 => (h.lowb k h2).2), fun k hk => ?_, fun k hk => ?_, h.quiet.then al (fun i hi hd => by have := (h.lowa i hd).1; omega)⟩, hv.left g al⟩
  · rcases g k hk with h1 | h1
    · have := h.lowa k h1; omega
    · omega
  · have := h.lowb k hk; omega

theorem TextsMid.second_b {w0 w w' : World} {a b n T : Nat} {old : Bool} {f : Int → ByteArray} {D E : Nat → Prop} {xs ys l : List Int} {v : Value} (h : TextsMid w0 a b n old f w D E xs ys) (hv : Beside w D E v l) (hbd : ∀ x ∈ ys, 0 ≤ x ∧ x < T) (hs : S.StepIn w w' b E n old (ys.map f)) :
    ∃ E', TextsAt w0 a b n old f T w' D E' ys ∧ Beside w' D E' v l := by
  obtain ⟨E', r, g, al⟩ := hs
  have hz := al.size
  have hq := h.quiet.size
  refine ⟨E', ⟨h.ra.keep al (fun k h1 h2 => h.far k h1 h2), r, (h.far.symm.grew g (fun k h2 => (h.lowa k h2).2)).symm, fun k hk => ?_, fun k hk => ?_, hbd, h.quiet.then al (fun i hi hd => by have := (h.lowb i hd).1; omega)⟩, hv.right g al⟩
  · have := h.lowa k hk; omega
  · rcases g k hk with h1 | h1
    · have := h.lowb k h1; omega
    · omega

set_option maxRecDepth 100000 in
set_option maxHeartbeats 4000000 in
theorem texts_walk (u un : Nat) (old : Bool) (ad : Option Addr) (T cap : Nat) (fs : Nat → ByteArray) (w : World) (hu : u ≤ 255) (hun : un ≤ 255) (hT : T ≤ maxLen) (hl : TextsIn w ad T fs) :
    Calls Try.prog 7 #[.int .u8 u, .bool old, .slice ad T cap, .int .u8 un] w fun e w' => e = .returned (.bool true) ∧ Below w.heap.size w w' := by
  have HL := Go.Lib.hid hl
  unfold maxLen at hT
  clear hl
  have m0 : 0 ≤ (u : Int) % 64 := by omega
  have m1 : (u : Int) % 64 < 64 := by omega
  go_enter Try.func7, Try.ntmps7
  go_wp2_with fail
  refine (awake_walk w).mono ?_
  rintro e w1 ⟨rfl, q1⟩
  by_cases hn200 : 150 < T
  · go_wp2
    go_ret
    exact ⟨rfl, q1.below (Nat.le_refl _) (by simp)⟩
  · go_wp2_with fail
    obtain ⟨N, hN⟩ := Int.eq_ofNat_of_zero_le (show 0 ≤ (u : Int) % 64 + 1 by omega)
    have hN1 : 1 ≤ N := by omega
    have hN64 : N ≤ 64 := by omega
    rw [hN]
    clear hN m0 m1
    refine (new_in N old w1 (by omega) (by omega)).mono ?_
    rintro e w2 ⟨rfl, hR, q2⟩
    rw [Int.toNat_natCast] at hR
    go_wp2_with fail
    refine (S.new_in N old w2 (by omega) (by omega)).mono ?_
    rintro e w3 ⟨rfl, hRb, q3⟩
    rw [Int.toNat_natCast] at hRb
    have hO : TextsAt w w1.heap.size w2.heap.size N old (fun x => fs x.toNat) 0 w3 (fun k => k = w1.heap.size) (fun k => k = w2.heap.size) [] := by
      have l1 : w1.heap.size < w2.heap.size := by obtain ⟨v, h, _⟩ := hR; exact h.own.lt
      have l2 : w2.heap.size < w3.heap.size := by obtain ⟨v, h, _⟩ := hRb; exact h.own.lt
      have hz := q1.size
      exact ⟨hR.quiet q3, hRb, fun k h1 h2 => by omega, fun k e => by omega, fun k e => by omega, by simp, (q1.trans q2).trans q3⟩
    clear hR hRb q2 q1 q3
    go_wp2
    generalize w1.heap.size = a at *
    generalize w2.heap.size = b at *
    go_loopg [15] T (fun j i wr => ∃ (k : Nat) (D E : Nat → Prop) (xs : List Int), k ≤ T ∧ j = T - k ∧ i = .int .i64 k ∧ TextsAt w a b N old (fun x => fs x.toNat) k wr D E xs)
    case atStart => exact ⟨0, _, _, [], Nat.zero_le _, rfl, rfl, hO⟩
    case round =>
      clear hO
      obtain ⟨k, D, E, xs, hk, hgk, rfl, hO⟩ := hrel
      have HGK := Go.Lib.hid hgk
      clear hgk
      by_cases hlt : k < T
      · obtain ⟨lb, lo, rfl, hlb, hz⟩ := HL.out (by omega)
        obtain ⟨s1, s2, s3, s4⟩ := texts_step N old xs k (fun x => fs x.toNat)
        obtain ⟨p1, p2⟩ := texts_mem N old xs k (fun x => 0 ≤ x ∧ x < ((k + 1 : Nat) : Int)) (fun y hy => by have := hO.bd y hy; omega) (by omega) hN1
        have hp := push_in a D N old (k : Int) xs wr hO.ra
        have hp2 := fun w h => S.push_in b E N old (fs k) (xs.map fun x => fs x.toNat) w h
        simp only [Int.toNat_natCast] at s1 s3 s4
        rw [s1, s2] at hp2
        generalize told N old xs k = t at *
        generalize S.told N old (xs.map fun x => fs x.toNat) (fs k) = t2 at *
        generalize isShed N xs = o at *
        generalize pushed N old xs k = ys at *
        have HP := Go.Lib.hid hp
        have HP2 := Go.Lib.hid hp2
        have HZ := Go.Lib.hid hz
        have HS := Go.Lib.hid (And.intro s3 (And.intro s4 (And.intro p1 p2)))
        have HO := Go.Lib.hid hO
        clear hp hp2 s1 s2 s3 s4 p1 p2 hO hz
        go_wp2_with fail
        refine HP.out.mono ?_
        rintro e w4 ⟨rfl, hst⟩
        obtain ⟨D2, hM⟩ := HO.out.first hst
        have c1 := hM.quiet.cell (HZ.out k hlt) (by simp)
        have HM := Go.Lib.hid hM
        clear hst hM
        go_wp2_with fail
        refine (HP2.out w4 HM.out.rb).mono ?_
        rintro e w5 ⟨rfl, hst⟩
        obtain ⟨E2, hO2⟩ := HM.out.second HS.out.2.2.1 hst
        have HO2 := Go.Lib.hid hO2
        cases o
        · obtain ⟨rfl, rfl⟩ := HS.out.1 rfl
          clear hst hO2 c1 HO HM HP HP2 HS
          go_wp2
          go_roundg (T - (k + 1))
          case measure => have := HGK.out; omega
          case rel => exact ⟨k + 1, D2, E2, ys, by omega, rfl, by go_num, HO2.out⟩
        · have e1 := HS.out.2.1 hN1 rfl
          have e2 := HS.out.2.2.2 rfl
          obtain ⟨X, rfl⟩ := Int.eq_ofNat_of_zero_le e2.1
          rw [Int.toNat_natCast] at e1
          subst e1
          have hX : X < T := by omega
          have cX := hO2.quiet.cell (HZ.out X hX) (by simp)
          clear hst hO2 c1 HO HM HP HP2 HS e2
          go_wp2
          go_roundg (T - (k + 1))
          case measure => have := HGK.out; omega
          case rel => exact ⟨k + 1, D2, E2, ys, by omega, rfl, by go_num, HO2.out⟩
      · obtain rfl : k = T := by omega
        have lens := hO.ra.lens
        have hi := items_in a D N old xs (un + 1) wr hO.ra (by omega) (by omega)
        rw [show ((un + 1 : Nat) : Int) = (un : Int) + 1 by omega] at hi
        have HI := Go.Lib.hid hi
        have HO := Go.Lib.hid hO
        clear hi hO HGK
        go_wp2_with fail
        refine HI.out.mono ?_
        rintro e w4 ⟨vg, rfl, hg, hgf, hq4⟩
        have hO4 := HO.out.on hq4
        go_wp2_with fail
        refine (items_in2 a D N old xs 300 w4 hO4.ra (by omega) (by omega)).mono ?_
        rintro e w5 ⟨va, rfl, ha, haf, hq5⟩
        rw [List.take_of_length_le (by omega)] at ha
        have hO5 := hO4.on hq5
        have hg5 := hg.quiet hq5
        have hlt' : (xs.take (un + 1)).length ≤ xs.length := by simp; omega
        have htk : xs.take (xs.take (un + 1)).length = xs.take (un + 1) := by simp [Nat.min_comm]
        have hlen := S.len_in b E N old (xs.map fun x => fs x.toNat) w5 hO5.rb
        rw [List.length_map] at hlen
        generalize xs.take (un + 1) = gl at *
        obtain ⟨A1, c1, rfl⟩ : ∃ A c, vg = .slice A gl.length c := by obtain ⟨A, c, e, _⟩ := hg; exact ⟨A, c, e⟩
        obtain ⟨A2, c2, rfl⟩ : ∃ A c, va = .slice A xs.length c := by obtain ⟨A, c, e, _⟩ := ha; exact ⟨A, c, e⟩
        have hac : xs.length ≤ c2 ∧ c2 ≤ maxLen := by
          obtain ⟨A', c', e, h, _⟩ := ha
          obtain ⟨_, rfl⟩ : _ ∧ c2 = c' := by simpa using e
          exact h
        obtain ⟨hac1, hac2⟩ := hac
        unfold maxLen at hac2
        have hcut := ha.take (k := gl.length) hlt'
        rw [htk] at hcut
        have hbs : Beside w5 D E (.slice A2 xs.length c2) xs := ⟨ha, fun k e => by
          have h1 := haf k e
          refine ⟨fun hd => by have := (hO4.lowa k hd).2; omega, fun hd => by have := (hO4.lowb k hd).2; omega, h1.2⟩⟩
        have HG := Go.Lib.hid (And.intro hg5 hcut)
        have HO5 := Go.Lib.hid hO5
        have HB := Go.Lib.hid hbs
        have HLEN := Go.Lib.hid hlen
        clear hg hgf hq4 hO4 ha haf hq5 hO5 hg5 htk hlen hcut hbs HI HO
        go_wp2_with fail
        refine HLEN.out.mono ?_
        rintro e w6 ⟨rfl, rfl⟩
        go_wp2_with fail
        refine (same_walk _ _ gl w5 HG.out.1 HG.out.2).mono ?_
        rintro e w6 ⟨rfl, nd, rfl⟩
        have hO6 := HO5.out.on ((Alters.refl _).drewN nd)
        have hB6 : Beside (w5.drewN nd) D E (.slice A2 xs.length c2) xs := HB.out
        have hO6 : TextsAt w a b N old (fun x => fs x.toNat) k (w5.drewN nd) D E (xs.drop 0) := hO6
        have hdec : decide (xs.length < gl.length) = false := by simp; omega
        clear HG HB HO5 HLEN
        go_wp2
        have hxl : xs.length ≤ 64 := by omega
        clear hlt' hac1 hac2 lens
        generalize w5.drewN nd = w6 at *
        go_loopg [22] xs.length (fun j i wx => ∃ (n : Nat) (D E : Nat → Prop), n ≤ xs.length ∧ j = xs.length - n ∧ i = .int .i64 n ∧ TextsAt w a b N old (fun x => fs x.toNat) k wx D E (xs.drop n) ∧ Beside wx D E (.slice A2 xs.length c2) xs)
        case atStart => exact ⟨0, D, E, Nat.zero_le _, rfl, rfl, hO6, hB6⟩
        case round =>
          clear hO6 hB6
          obtain ⟨n, D, E, hn, hgn, rfl, hO, hB⟩ := hrel
          have HGN := Go.Lib.hid hgn
          clear hgn
          by_cases hlt2 : n < xs.length
          · have e1 : xs.drop n = xs.getD n 0 :: xs.drop (n + 1) := by
              rw [List.drop_eq_getElem_cons hlt2]; simp [hlt2]
            have hbd := hO.bd (xs.getD n 0) (by rw [e1]; simp)
            have hbd2 : ∀ x ∈ xs.drop (n + 1), 0 ≤ x ∧ x < k := fun x hx => hO.bd x (by rw [e1]; simp [hx])
            rw [e1] at hO
            obtain ⟨X, hX⟩ := Int.eq_ofNat_of_zero_le hbd.1
            have hX2 : X < k := by omega
            obtain ⟨lb, lo, rfl, hlb, hz⟩ := HL.out (by omega)
            have HZ := Go.Lib.hid (hz X hX2)
            have hp := pop_in a D N old _ wr hO.ra
            have hp2 := fun w h => S.pop_in b E N old ((xs.getD n 0 :: xs.drop (n + 1)).map fun x => fs x.toNat) w h
            simp only [List.headD_cons, List.isEmpty_cons, Bool.not_false, List.tail_cons, List.map_cons, hX, Int.toNat_natCast] at hp hp2
            have HP := Go.Lib.hid hp
            have HP2 := Go.Lib.hid hp2
            have HO := Go.Lib.hid hO
            have HB := Go.Lib.hid hB
            have HX := Go.Lib.hid hX
            have HBD := Go.Lib.hid hbd2
            clear hp hp2 hO hB hX hbd hbd2 e1 hz
            go_wp2_with fail
            refine HP.out.mono ?_
            rintro e w7 ⟨rfl, hst⟩
            obtain ⟨D2, hM, hB2⟩ := HO.out.first_b HB.out hst
            have HM := Go.Lib.hid hM
            have HB2 := Go.Lib.hid hB2
            have hrb := hM.rb
            simp only [List.map_cons, HX.out, Int.toNat_natCast] at hrb
            have HRB := Go.Lib.hid hrb
            clear hM hB2 hst hrb
            go_wp2_with fail
            refine (HP2.out w7 HRB.out).mono ?_
            rintro e w8 ⟨rfl, hst⟩
            obtain ⟨E2, hO3, hB3⟩ := HM.out.second_b HB2.out HBD.out hst
            obtain ⟨b1, o1, rfl, hzz⟩ := hB3.1.cell hlt2
            rw [HX.out] at hzz
            have cX := hO3.quiet.cell HZ.out (by simp)
            have HO3 := Go.Lib.hid hO3
            have HB3 := Go.Lib.hid hB3
            clear hO3 hB3 hst HM HB2 HRB HP HP2 HO HB HX HBD HZ
            go_wp2
            go_roundg (xs.length - (n + 1))
            case measure => have := HGN.out; omega
            case rel => exact ⟨n + 1, D2, E2, by omega, rfl, by go_num, HO3.out, HB3.out⟩
          · obtain rfl : n = xs.length := by omega
            have HQ := Go.Lib.hid hO.quiet
            clear hO hB
            go_wp2
            go_ret
            exact ⟨rfl, HQ.out.below (Nat.le_refl _) (by simp)⟩

section
open Go.ChangeShapes Go.WideShapes Go.ChangeAt Go.Deep

theorem open_texts {H : Type} {enc : TypeId × Value → H} {w : World} {spare : Nat → Bool} {held : Bool} {v : Value} {d : DataW H} {ps : List MemPlace} (hv : Value.okWide Try.prog w .any 0 50 v)
    (h : DataW.Trod enc Try.prog w 0 spare held 50 v d ps) : ∃ (a : Option Addr) (len cap : Nat) (fs : Nat → ByteArray), v = .slice a len cap ∧ len ≤ maxLen ∧ TextsIn w a len fs := by
  have c9 : Try.prog.cellsOf 9 = 1 := by kernel_rfl
  obtain ⟨a, len, cap, rfl, hl, hx⟩ := open_elems Try.underlying50 hv (by rw [c9]; omega) h
  by_cases h0 : 0 < len
  · obtain ⟨b, off, rfl, hb, hx⟩ := hx h0
    obtain ⟨X, hX⟩ := choose_lt (α := ByteArray) (p := fun i x => w.cell? ⟨b, off + i, none⟩ = some (.string x)) (fun i hi => by
      obtain ⟨cs, n, y, hlen, hcell, hd⟩ := hx i hi
      obtain ⟨q, rfl, _⟩ := DataW.trod_string Try.underlying9 hd
      have := hcell 0 (by omega)
      rw [c9] at this
      exact ⟨q, by simpa using this⟩)
    exact ⟨_, len, cap, X, rfl, hl, fun _ => ⟨b, off, rfl, hb, hX⟩⟩
  · exact ⟨a, len, cap, fun _ => ByteArray.empty, rfl, hl, fun h => absurd h h0⟩

theorem ringTexts_run {H : Type} {enc : TypeId × Value → H} (W : World) (v0 v1 v2 v3 : Value) (d0 d1 d2 d3 : DataW H) (p0 p1 p2 p3 : List MemPlace)
    (k0 : Value.okWide Try.prog W .any 0 5 v0) (h0 : DataW.Trod enc Try.prog W 0 (fun _ => true) true 5 v0 d0 p0)
    (k1 : Value.okWide Try.prog W .any 0 4 v1) (h1 : DataW.Trod enc Try.prog W 0 (fun _ => true) true 4 v1 d1 p1)
    (k2 : Value.okWide Try.prog W .any 0 50 v2) (h2 : DataW.Trod enc Try.prog W 0 (fun _ => true) true 50 v2 d2 p2)
    (k3 : Value.okWide Try.prog W .any 0 5 v3) (h3 : DataW.Trod enc Try.prog W 0 (fun _ => true) true 5 v3 d3 p3) :
    Calls Try.prog 7 #[v0, v1, v2, v3] W fun e w' => e = .returned (.bool true) ∧ Below W.heap.size W w' := by
  obtain ⟨r, rfl, wr⟩ := open_i Try.underlying5 k0 h0
  obtain ⟨o, rfl⟩ := open_b Try.underlying4 k1 h1
  obtain ⟨a, n, cap, fs, rfl, hn, hl⟩ := open_texts k2 h2
  obtain ⟨r2, rfl, wr2⟩ := open_i Try.underlying5 k3 h3
  simp [Lit.wf, IntKind.min, IntKind.max, IntKind.bits, IntKind.signed] at wr wr2
  obtain ⟨u, rfl⟩ := Int.eq_ofNat_of_zero_le (show 0 ≤ r by omega)
  obtain ⟨u2, rfl⟩ := Int.eq_ofNat_of_zero_le (show 0 ≤ r2 by omega)
  exact texts_walk u u2 o a n cap fs W (by omega) (by omega) hn hl

theorem ringTexts_own : ownKnob Try.prog.godebug = none := by kernel_rfl
theorem ringTexts_laidOut : laidOutB Try.prog = true := by kernel_rfl

set_option maxRecDepth 100000 in
theorem ringTexts_lifted (os : Os) (started : os.Started) (H : Type) (enc : TypeId × Value → H) :
    ReturnsInHanded {} Try.checked os 7 .any (Rows.ringTextsSpec.pre6 enc Try.prog Try.f7 Rows.ringTextsRow.domain false) (Rows.ringTextsSpec.post enc Try.prog Try.f7 false true false false) := by
  refine returnsInHanded_of_change (C := Try.checked) ringTexts_own started (by kernel_rfl) Try.func7
    (ChangeSpec.witness6 (enc := enc) (C := Try.checked) false ⟨#[], #[.int .u8 0, .bool false, .slice none 0 0, .int .u8 0], []⟩ 8 (by kernel_rfl) (by kernel_rfl) (by kernel_rfl) (by kernel_rfl)) ?_
  intro W base args ds gs before hval0 hW hcnd _
  have hval : ∀ (j : Nat) t v, Try.f7.params[j]? = some t → args[j]? = some v → Value.okWide Try.prog W .any base t v := hval0
  have hW' := hW
  obtain ⟨p, q, hA0, hV, rfl, hfz, hnd⟩ := hW
  have hA : DataW.TrodAll enc Try.prog W 0 (fun _ => true) true Try.f7.params.toList args.toList ds p := hA0
  rw [Try.params7] at hA hval
  obtain ⟨v0, vs0, d0, ds0, p0, q0, hargs, rfl, rfl, h0, r0⟩ := trodAll_cons hA
  obtain ⟨v1, vs1, d1, ds1, p1, q1, rfl, rfl, rfl, h1, r1⟩ := trodAll_cons r0
  obtain ⟨v2, vs2, d2, ds2, p2, q2, rfl, rfl, rfl, h2, r2⟩ := trodAll_cons r1
  obtain ⟨v3, vs3, d3, ds3, p3, q3, rfl, rfl, rfl, h3, r3⟩ := trodAll_cons r2
  obtain ⟨rfl, rfl, rfl⟩ := trodAll_nil r3
  obtain rfl : args = #[v0, v1, v2, v3] := by cases args; simp_all
  obtain ⟨rfl, rfl⟩ := trodVars_none hV
  have lt0 : ∀ x ∈ p0, x.block < W.heap.size := by obtain ⟨m, hm⟩ := h0; exact DataW.trod_lt m _ _ _ hm
  have lt1 : ∀ x ∈ p1, x.block < W.heap.size := by obtain ⟨m, hm⟩ := h1; exact DataW.trod_lt m _ _ _ hm
  have lt2 : ∀ x ∈ p2, x.block < W.heap.size := by obtain ⟨m, hm⟩ := h2; exact DataW.trod_lt m _ _ _ hm
  have lt3 : ∀ x ∈ p3, x.block < W.heap.size := by obtain ⟨m, hm⟩ := h3; exact DataW.trod_lt m _ _ _ hm
  clear hA0
  refine (ringTexts_run W v0 v1 v2 v3 d0 d1 d2 d3 p0 p1 p2 p3 (hval 0 5 v0 rfl rfl) h0 (hval 1 4 v1 rfl rfl) h1 (hval 2 50 v2 rfl rfl) h2 (hval 3 5 v3 rfl rfl) h3).mono fun e W' ⟨he, bel⟩ => ?_
  subst he
  exact ⟨_, rfl, _, _, _, [], _, [], hW', trodAll_mk1 (shut_bool Try.underlying4 _), (trodAll_cons_mk (Below.trod ringTexts_laidOut (by kernel_rfl) (of_decide_eq_true (by kernel_rfl)) h0 bel lt0) (trodAll_cons_mk (Below.trod ringTexts_laidOut (by kernel_rfl) (of_decide_eq_true (by kernel_rfl)) h1 bel lt1) (trodAll_cons_mk (Below.trod ringTexts_laidOut (by kernel_rfl) (of_decide_eq_true (by kernel_rfl)) h2 bel lt2) (trodAll_cons_mk (Below.trod ringTexts_laidOut (by kernel_rfl) (of_decide_eq_true (by kernel_rfl)) h3 bel lt3) trodAll_mk0)))), rfl, bel.frame _, fun h => by cases h⟩

/-- The given statement. -/
theorem ringTexts_holds : Rows.RingTextsSaid :=
  OpenClaim.holds_of_wide 7 Try.f7 rfl rfl rfl rfl rfl rfl rfl ⟨rfl, rfl, rfl, rfl, rfl⟩ rfl rfl rfl rfl rfl (by kernel_rfl) Try.func7 (by kernel_rfl)
    (of_decide_eq_true (by kernel_rfl)) (by unfold Func.isWrapper; first | (rw [if_pos (by decide +kernel)]; kernel_rfl) | (rw [if_neg (by decide +kernel)]; exact ⟨rfl, rfl⟩))
    (fun os started H enc _ => ringTexts_lifted os started H enc)
#print axioms ringTexts_holds

end
end Go.Proofs.Ythlekeaebefhfaa
