/- A range over a function whose iterator keeps state of its own in memory: a contract for the iterator, a law for the caller. No condition. -/
import Derived.RangeFuncNested
import Derived.RangeFuncBound
import Derived.RangeFuncCalls
import Derived.RangeFuncLeaves
import Derived.WalkKit
import Derived.OwnWalkIn
import Derived.TacticsInMore
import Derived.LoopNIn
import Derived.LoopIn
import Derived.Test.YtnpcakakjhiboaaDoorLo
namespace Go.Lo
open Go Go.RowKit

/-- What hangs on the blocks below B, and on those of D, alone. -/
def Stable {β : Type} (B : Nat) (I : β → (Nat → Prop) → World → Prop) : Prop := ∀ s D W W', Alters (fun k => B ≤ k ∧ ¬ D k) W W' → I s D W → I s D W'

/-- What the body of a round may touch: its own blocks D, and those of which Z tells that lay ahead of the loop. -/
abbrev Kept (Z : Nat → Prop) (B : Nat) (D : Nat → Prop) (W W' : World) : Prop := Alters (fun k => D k ∨ (Z k ∧ k < B)) W W'

/-- The body's own blocks behind a round: those that it had, and new ones. -/
def Grew (D D' : Nat → Prop) (W W' : World) : Prop := ∀ k, D' k → D k ∨ (W.heap.size ≤ k ∧ k < W'.heap.size)

theorem Grew.refl (D : Nat → Prop) (W W' : World) : Grew D D W W' := fun _ h => .inl h

/-- THE ITERATOR's CONTRACT: called with yield, it hands over the list L, one after the other, till it is told to stop; it changes nothing that lay there when it was called, and none of the body's own blocks. -/
def SeqC {α : Type} (F : Fence) (n : Nat) (P : Program) (g : Nat) (lb : Array Value) (encs : α → Array Value) (Z : Nat → Prop) (L : List α) (w : World) : Prop :=
  ∀ (l : Nat) (J Jx : List α → (Nat → Prop) → World → Prop) (W : World) (D0 : Nat → Prop), Below w.heap.size w W → l < W.heap.size → (∀ k, D0 k → Z k ∧ k < W.heap.size) → Stable W.heap.size J →
    (∀ pre x rest W1 D, L = pre ++ x :: rest → J pre D W1 → W.heap.size ≤ W1.heap.size → YieldAt F (n - 1) P l (encs x) W1 fun e W' =>
      (e = .returned (.bool true) ∧ ∃ D', J (pre ++ [x]) D' W' ∧ Kept Z W.heap.size D W1 W' ∧ Grew D D' W1 W') ∨ (e = .returned (.bool false) ∧ ∃ D', Jx (pre ++ [x]) D' W')) →
    J [] D0 W → Stable W.heap.size Jx →
    CallsIn F n P g (#[.func (.yield l) #[] #[]] ++ lb) W fun e W' => (∃ v, e = .returned v) ∧ ((∃ D, J L D W') ∨ (∃ pre x rest D, L = pre ++ x :: rest ∧ Jx (pre ++ [x]) D W'))

/-- HOW THE BODY OF A ROUND MAY BE LEFT. -/
def postC {α : Type} (Z : Nat → Prop) (B : Nat) (I : List α → (Nat → Prop) → World → Prop) (Ix : Code → List α → (Nat → Prop) → World → Prop) (xs : List α) (D : Nat → Prop) (W : World) : Exit → Act → World → Prop
  | .normal, _, W' => Kept Z B D W W' ∧ ∃ D', Grew D D' W W' ∧ I xs D' W'
  | .ret, _, W' => Kept Z B D W W' ∧ ∃ D', Grew D D' W W' ∧ Ix .ret xs D' W'
  | .exit id, _, W' => Kept Z B D W W' ∧ ∃ D', Grew D D' W W' ∧ Ix (.exit id) xs D' W'
  | .goto t, _, W' => Kept Z B D W W' ∧ ∃ D', Grew D D' W W' ∧ Ix (.goto t) xs D' W'
  | .panic _, _, _ => False
  | .outgrown, _, _ => False

theorem alters_putObj {p : Nat → Prop} (W : World) (l : Nat) (o : Obj) (h : p l) : Alters p W (W.putObj l o) :=
  (Alters.refl W).grown (grownBy_putObj' W l o) (fun k e _ => by cases e; exact h)

variable {F : Fence} {n : Nat} {P : Program}

/-- THE LAW. -/
theorem wpIn_rangeC {α : Type} {g : Operand} {ps : Array Tmp} {assign body : Code} {Q : Exit → Act → World → Prop} {a : Act} {w : World}
    (hro : F.round = none) (h1 : 1 ≤ n) {gf : Nat} {lb : Array Value} (hg : a.eval g = .func (.func gf) #[] lb) (hFg : F.fn gf) (eg : ∀ args w, (callFunc gf args).run P w = .ok (.enter gf args) w)
    {encs : α → Array Value} {Z : Nat → Prop} (hZ : ∀ k, w.heap.size ≤ k → Z k) {L : List α} (hseq : SeqC F (n - 1) P gf lb encs Z L w) (hps : ∀ x, (encs x).size = ps.size)
    (I : List α → (Nat → Prop) → World → Prop) (Ix : Code → List α → (Nat → Prop) → World → Prop) (D0 : Nat → Prop) (hD0 : ∀ k, D0 k → Z k ∧ k < w.heap.size) (hI : Stable w.heap.size I) (hIx : ∀ c, Stable w.heap.size (Ix c)) (h0 : I [] D0 w)
    (Ax : α → Act → World → Prop)
    (hassign : ∀ (l : Nat) (pre : List α) (x : α) (rest : List α) (D : Nat → Prop) (W : World) (K : Act → World → Prop), L = pre ++ x :: rest → I pre D W → w.heap.size < W.heap.size →
      (∀ a' W', Quiet W W' → Ax x a' W' → K a' W') →
      assign.wpIn (F.inRound l) (n - 1 - 1) P (Exit.then K (fun _ _ _ => False)) { tmps := (ps.zip (encs x)).foldl (fun t (p, v) => t.setIfInBounds p v) a.tmps, defers := [] } W)
    (hAx : ∀ x a' W W' l, w.heap.size ≤ l → (∃ r, W.heap[l]? = some (.loop r)) → W.grownBy W' (some l) → Ax x a' W → Ax x a' W')
    (hbody : ∀ (l : Nat) (pre : List α) (x : α) (rest : List α) (a' : Act) (D : Nat → Prop) (W : World), L = pre ++ x :: rest → w.heap.size < W.heap.size → I pre D W → Ax x a' W → (∀ k, D k → k < W.heap.size) →
      body.wpIn (F.inRound l) (n - 1 - 1) P (postC Z w.heap.size I Ix (pre ++ [x]) D W) a' W)
    (hdone : ∀ (d : Nat) (D : Nat → Prop) (W : World), w.heap.size ≤ d → I L D W → ¬ D d → W.heap[d]? = some (.deferred (some [])) → Q .normal { a with defers := { target := .collected d, args := #[] } :: a.defers } W)
    (hstop : ∀ (d : Nat) (c : Code) (pre : List α) (x : α) (rest : List α) (D : Nat → Prop) (W : World), w.heap.size ≤ d → L = pre ++ x :: rest → Ix c (pre ++ [x]) D W → ¬ D d → W.heap[d]? = some (.deferred (some [])) → c.wpIn F n P Q { a with defers := { target := .collected d, args := #[] } :: a.defers } W) :
    (Code.rangeFunc g ps assign body).wpIn F n P Q a w := by
  refine wpIn_rangeFunc ?_
  intro fn hfn
  rw [hro]
  obtain ⟨rec, hrec⟩ : ∃ rec : LoopState → Option Code → Loop, rec = fun st pe => { state := st, pending := pe, fn, tmps := a.tmps, params := ps, assign, body, defers := w.heap.size } := ⟨_, rfl⟩
  obtain ⟨W1, hW1⟩ : ∃ W1, (w.alloc (.deferred (some []))).alloc (.loop (rec .ready none)) = W1 := ⟨_, rfl⟩
  have hsz : W1.heap.size = w.heap.size + 2 := by rw [← hW1]; simp
  have hL1 : W1.heap[w.heap.size + 1]? = some (.loop (rec .ready none)) := by
    rw [← hW1]; have := World.alloc_heap_new (w.alloc (.deferred (some []))) (.loop (rec .ready none)); rwa [World.size_alloc] at this
  have hK1 : W1.heap[w.heap.size]? = some (.deferred (some [])) := by
    rw [← hW1]; exact (Below.heap_alloc _ _ _ (by simp)).trans (World.alloc_heap_new w _)
  have hq1 : Quiet w W1 := by rw [← hW1]; exact ((Alters.refl _).alloc _).alloc _
  have hb1 : Below w.heap.size w W1 := Alters.below hq1 (Nat.le_refl _) (by simp)
  have hI1 : I [] D0 W1 := hI _ _ _ _ hq1.to h0
  refine ⟨w.heap.size + 1, [{ target := .collected w.heap.size, args := #[] }], W1, { target := .fn (.func gf) lb, args := #[.func (.yield (w.heap.size + 1)) #[] #[]] }, W1, gf,
    #[.func (.yield (w.heap.size + 1)) #[] #[]] ++ lb, W1, ?_, ?_, ?_, ?_, fun _ => h1, ?_⟩
  · rw [← hW1, hrec]; exact run_enterLoop_outer _ _ _ _ _
  · simp only [resolve, hg]
    simp [go_sem]
  · intro f' hf'; simp [Target.leads] at hf'; subst hf'; exact hFg
  · simp [invoke, go_sem, eg]
  · refine (hseq (w.heap.size + 1)
      (fun pre D W => I pre D W ∧ W1.heap.size ≤ W.heap.size ∧ W.heap[w.heap.size + 1]? = some (.loop (rec .ready none)) ∧ W.heap[w.heap.size]? = some (.deferred (some [])) ∧ (∀ k, D k → k < w.heap.size ∨ (W1.heap.size ≤ k ∧ k < W.heap.size)))
      (fun pre D W => ∃ c, Ix c pre D W ∧ W1.heap.size ≤ W.heap.size ∧ W.heap[w.heap.size + 1]? = some (.loop (rec .done (some c))) ∧ W.heap[w.heap.size]? = some (.deferred (some [])) ∧ (∀ k, D k → k < w.heap.size ∨ W1.heap.size ≤ k))
      W1 D0 hb1 (by omega) (fun k hk => ⟨(hD0 k hk).1, by have := (hD0 k hk).2; omega⟩)
      (fun s D A B hb hs => ⟨hI s D A B (hb.mono (fun k _ h => ⟨by omega, h.2⟩)) hs.1, Nat.le_trans hs.2.1 hb.size, (hb.block _ (by have := hs.2.1; omega) (by omega)).trans hs.2.2.1, (hb.block _ (by have := hs.2.1; omega) (by omega)).trans hs.2.2.2.1,
        fun k hk => (hs.2.2.2.2 k hk).imp (fun h => h) (fun h => ⟨h.1, Nat.lt_of_lt_of_le h.2 hb.size⟩)⟩)
      ?_ ⟨hI1, Nat.le_refl _, hL1, hK1, fun k hk => .inl (hD0 k hk).2⟩
      (fun s D A B hb hs => by
        obtain ⟨c, hc, hz, hl, hk, hd⟩ := hs
        exact ⟨c, hIx c s D A B (hb.mono (fun k _ h => ⟨by omega, h.2⟩)) hc, Nat.le_trans hz hb.size, (hb.block _ (by omega) (by omega)).trans hl, (hb.block _ (by omega) (by omega)).trans hk, hd⟩)).mono ?_
    · rintro pre x rest W D hLx ⟨hi, hz, hl, hk, hd⟩ -
      have hy := run_yield (P := P) (args := encs x) hl (by rw [hrec]; exact hps x)
      rw [hrec] at hy
      refine ⟨fn, _, assign, body, hy, roundIn_of_wpIn hfn (hassign _ pre x rest D W _ hLx hi (by omega) ?_)⟩
      clear hy
      intro a' Wa hqa hax
      have hi' : I pre D Wa := hI _ _ _ _ hqa.to hi
      have hl' : Wa.heap[w.heap.size + 1]? = some (.loop (rec .ready none)) := (hqa.block _ (by omega) (by simp)).trans hl
      have hk' : Wa.heap[w.heap.size]? = some (.deferred (some [])) := (hqa.block _ (by omega) (by simp)).trans hk
      have hz' : W1.heap.size ≤ Wa.heap.size := Nat.le_trans hz hqa.size
      refine ⟨_, run_beginRound hl' (by rw [hrec]), ?_⟩
      have hlt : w.heap.size + 1 < Wa.heap.size := by omega
      have hD1 : ¬ D (w.heap.size + 1) := fun h => by have := hd _ h; omega
      have hD2 : ¬ D w.heap.size := fun h => by have := hd _ h; omega
      obtain ⟨Wb, hWb⟩ : ∃ Wb, Wa.putObj (w.heap.size + 1) (.loop { rec .ready none with state := .busy }) = Wb := ⟨_, rfl⟩
      have hzb : Wb.heap.size = Wa.heap.size := by rw [← hWb]; simp
      have hl2 : Wb.heap[w.heap.size + 1]? = some (.loop { rec .ready none with state := .busy }) := by rw [← hWb]; exact World.putObj_heap_same hlt
      have hk2 : Wb.heap[w.heap.size]? = some (.deferred (some [])) := by rw [← hWb]; exact (World.putObj_heap_other (by omega)).trans hk'
      have hkp2 : Kept Z W1.heap.size D W Wb := by rw [← hWb]; exact hqa.to.trans (alters_putObj _ _ _ (.inr ⟨hZ _ (by omega), by omega⟩))
      have hib : I pre D Wb := by rw [← hWb]; exact hI _ _ _ _ (alters_putObj _ _ _ ⟨by omega, hD1⟩) hi'
      have hab : Ax x a' Wb := by rw [← hWb]; exact hAx x a' _ _ (w.heap.size + 1) (by omega) ⟨_, hl'⟩ (grownBy_putObj' _ _ _) hax
      rw [hWb]
      refine wpIn_mono (hbody _ pre x rest a' D _ hLx (by omega) hib hab (fun k h => by have := hd k h; have := hqa.size; omega)) ?_
      have fin : ∀ (jump : Option Code) (W3 : World) (D' : Nat → Prop), Kept Z w.heap.size D Wb W3 → Grew D D' Wb W3 →
          (Instr.endRound (w.heap.size + 1) jump).run P W3 = .ok (.bool jump.isNone) (W3.putObj (w.heap.size + 1) (.loop (rec (if jump.isNone then .ready else .done) jump))) ∧
          Alters (fun k => w.heap.size ≤ k ∧ ¬ D' k) W3 (W3.putObj (w.heap.size + 1) (.loop (rec (if jump.isNone then .ready else .done) jump))) ∧
          W1.heap.size ≤ (W3.putObj (w.heap.size + 1) (.loop (rec (if jump.isNone then .ready else .done) jump))).heap.size ∧
          (W3.putObj (w.heap.size + 1) (.loop (rec (if jump.isNone then .ready else .done) jump))).heap[w.heap.size + 1]? = some (.loop (rec (if jump.isNone then .ready else .done) jump)) ∧
          (W3.putObj (w.heap.size + 1) (.loop (rec (if jump.isNone then .ready else .done) jump))).heap[w.heap.size]? = some (.deferred (some [])) ∧
          Kept Z W1.heap.size D W (W3.putObj (w.heap.size + 1) (.loop (rec (if jump.isNone then .ready else .done) jump))) ∧
          (∀ k, D' k → k < w.heap.size ∨ (W1.heap.size ≤ k ∧ k < (W3.putObj (w.heap.size + 1) (.loop (rec (if jump.isNone then .ready else .done) jump))).heap.size)) ∧ Grew D D' W (W3.putObj (w.heap.size + 1) (.loop (rec (if jump.isNone then .ready else .done) jump))) := fun jump W3 D' hk3 hgr => by
        have hz3 : Wb.heap.size ≤ W3.heap.size := hk3.size
        have hzw := hqa.size
        have hl3 := (hk3.block (w.heap.size + 1) (by omega) (fun h => h.elim hD1 (fun h => absurd h.2 (by omega)))).trans hl2
        have hd3 : ∀ k, D' k → k < w.heap.size ∨ (W1.heap.size ≤ k ∧ k < W3.heap.size) := fun k h => by
          rcases hgr k h with h1 | h1
          · have := hd k h1; omega
          · omega
        have hr := run_endRound (P := P) jump hl3
        rw [hrec] at hr ⊢
        refine ⟨hr, alters_putObj _ _ _ ⟨by omega, fun h => by have := hd3 _ h; omega⟩, by simp; omega, World.putObj_heap_same (by omega), (World.putObj_heap_other (by omega)).trans ((hk3.block _ (by omega) (fun h => h.elim hD2 (fun h => absurd h.2 (by omega)))).trans hk2), ?_, ?_, ?_⟩
        · exact (hkp2.trans (hk3.mono (fun k _ h => h.imp (fun h => h) (fun h => ⟨h.1, by omega⟩)))).trans (alters_putObj _ _ _ (.inr ⟨hZ _ (by omega), by omega⟩))
        · intro k h; have := hd3 k h; simp; omega
        · intro k h
          rcases hgr k h with h1 | h1
          · exact .inl h1
          · right; simp; omega
      rintro e a3 W3 hp
      cases e with
      | normal =>
        obtain ⟨hk3, D', hg3, hi3⟩ := hp
        obtain ⟨hr, hb, hz4, hl4, hk4, hkp, hd4, hg4⟩ := fin none W3 D' hk3 hg3
        exact ⟨_, _, hr, .inl ⟨rfl, D', ⟨hI _ _ _ _ hb hi3, hz4, hl4, hk4, hd4⟩, hkp, hg4⟩⟩
      | ret =>
        obtain ⟨hk3, D', hg3, hi3⟩ := hp
        obtain ⟨hr, hb, hz4, hl4, hk4, hkp, hd4, hg4⟩ := fin (some .ret) W3 D' hk3 hg3
        exact ⟨_, _, hr, .inr ⟨rfl, D', .ret, hIx _ _ _ _ _ hb hi3, hz4, hl4, hk4, fun k h => (hd4 k h).imp (fun h => h) (fun h => h.1)⟩⟩
      | exit id =>
        obtain ⟨hk3, D', hg3, hi3⟩ := hp
        obtain ⟨hr, hb, hz4, hl4, hk4, hkp, hd4, hg4⟩ := fin (some (.exit id)) W3 D' hk3 hg3
        exact ⟨_, _, hr, .inr ⟨rfl, D', .exit id, hIx _ _ _ _ _ hb hi3, hz4, hl4, hk4, fun k h => (hd4 k h).imp (fun h => h) (fun h => h.1)⟩⟩
      | goto t =>
        obtain ⟨hk3, D', hg3, hi3⟩ := hp
        obtain ⟨hr, hb, hz4, hl4, hk4, hkp, hd4, hg4⟩ := fin (some (.goto t)) W3 D' hk3 hg3
        exact ⟨_, _, hr, .inr ⟨rfl, D', .goto t, hIx _ _ _ _ _ hb hi3, hz4, hl4, hk4, fun k h => (hd4 k h).imp (fun h => h) (fun h => h.1)⟩⟩
      | panic ch => exact hp.elim
      | outgrown => exact hp.elim
    · rintro e W2 ⟨⟨v, rfl⟩, (⟨D, hi, hz, hl, hk, hd⟩ | ⟨pre, x, rest, D, hLx, c, hi, hz, hl, hk, hd⟩)⟩
      · exact ⟨none, _, by have := run_endLoop (P := P) hl (by rw [hrec]; simp); rw [hrec] at this; exact this, hdone _ D _ (Nat.le_refl _) (hI _ _ _ _ (alters_putObj _ _ _ ⟨by omega, fun h => by have := hd _ h; omega⟩) hi) (fun h => by have := hd _ h; omega) ((World.putObj_heap_other (by omega)).trans hk)⟩
      · exact ⟨some c, _, by have := run_endLoop (P := P) hl (by rw [hrec]; simp); rw [hrec] at this; exact this, hstop _ c pre x rest D _ (Nat.le_refl _) hLx (hIx c _ _ _ _ (alters_putObj _ _ _ ⟨by omega, fun h => by have := hd _ h; omega⟩) hi) (fun h => by have := hd _ h; omega) ((World.putObj_heap_other (by omega)).trans hk)⟩

end Go.Lo
