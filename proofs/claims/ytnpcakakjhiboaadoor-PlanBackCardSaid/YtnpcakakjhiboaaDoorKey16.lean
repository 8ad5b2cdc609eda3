/- Steps as a map's keys. No condition. -/
import Derived.Test.YtnpcakakjhiboaaDoorStep16
import Derived.Test.YtnpcakakjhiboaaDoorOpenF
import Derived.Maps.OwnSet
import Derived.DeepKeys4
namespace Go.Proofs.YtnpcakakjhiboaaDoor
open Go Go.RowKit Go.Lo Go.WideShapes Go.Maps

/-- A step's numbers are of 64 bits. -/
def Stp.wf (s : Stp) : Prop := s.n.wf ∧ I64 s.a ∧ I64 s.b

theorem I64.lit {n : Int} (h : I64 n) : (Lit.int .i64 n).wf = true := by
  simp only [Lit.wf, Bool.and_eq_true, decide_eq_true_eq]
  rw [show IntKind.min .i64 = -9223372036854775808 by decide, show IntKind.max .i64 = 9223372036854775807 by decide]
  exact h

set_option maxRecDepth 100000 in
theorem key_some (s : Stp) (h : s.wf) : ∃ kl, keyOf Tryd.prog 70 s.val = some kl := by
  obtain ⟨⟨h0, h2, h3, h4, h5, h1⟩, h6, h7⟩ := h
  have w0 := h0.lit
  have w2 := h2.lit
  have w3 := h3.lit
  have w4 := h4.lit
  have w5 := h5.lit
  have w6 := h6.lit
  have w7 := h7.lit
  have ht : 3 ≤ Tryd.prog.types.size := of_decide_eq_true (by kernel_rfl)
  obtain ⟨d, hd⟩ : ∃ d, Tryd.prog.types.size = d + 3 := ⟨Tryd.prog.types.size - 3, by omega⟩
  have hk : Tryd.prog.keyType 70 = true := by kernel_rfl
  have c70 : Tryd.prog.cellsOf 70 = 8 := by kernel_rfl
  have c3 : Tryd.prog.cellsOf 3 = 1 := by kernel_rfl
  have c2 : Tryd.prog.cellsOf 2 = 1 := by kernel_rfl
  have c9 : Tryd.prog.cellsOf 9 = 1 := by kernel_rfl
  have c23 : Tryd.prog.cellsOf 23 = 3 := by kernel_rfl
  have c25 : Tryd.prog.cellsOf 25 = 2 := by kernel_rfl
  have hf : (Stp.val s).formed Tryd.prog 70 = true := by simp [Stp.val, Value.formed, Tryd.underlying70, c70]
  unfold keyOf
  rw [Tryd.underlying70]
  simp only [hk, hf, Bool.and_self, if_true]
  rw [hd]
  simp [-Array.all_eq_true, ← Array.all_toList, Program.keyLits, Tryd.underlying70, Tryd.underlying3, Tryd.underlying2, Tryd.underlying9, Tryd.underlying23, Tryd.underlying25, c70, c3, c2, c9, c23, c25, Stp.val, Value.cells, w0, w2, w3, w4, w5, w6, w7, h1]

theorem laidOut70 : laidOutB Tryd.prog = true := by kernel_rfl
theorem row70 : (70 : TypeId) < Tryd.prog.types.size := of_decide_eq_true (by kernel_rfl)
theorem wide70 : (match Tryd.prog.underlying 70 with | some (.array _ _) | some (.struct _) => true | _ => false) = true := by rw [Tryd.underlying70]
set_option maxRecDepth 100000 in
theorem law70 : Keyed Tryd.prog 70 := Keyed.of_law (deep_law_laid laidOut70 (m := 3) (by omega) row70 (by kernel_rfl) wide70)

/-- What a step reads as. -/
noncomputable def keyL (s : Stp) : Lit := (keyOf Tryd.prog 70 s.val).getD (.bool false)

theorem key_eq {s : Stp} (h : s.wf) : keyOf Tryd.prog 70 s.val = some (keyL s) := by
  obtain ⟨kl, hk⟩ := key_some s h
  unfold keyL
  rw [hk]
  rfl

theorem val_inj {s u : Stp} (h : s.val = u.val) : s = u := by
  obtain ⟨⟨a0, a1, a2, a3, a4, a5⟩, a6, a7⟩ := s
  obtain ⟨⟨b0, b1, b2, b3, b4, b5⟩, b6, b7⟩ := u
  simp only [Stp.val, Value.agg.injEq, Array.mk.injEq, List.cons.injEq, Value.int.injEq, Value.string.injEq, true_and, and_true] at h
  obtain ⟨rfl, rfl, rfl, rfl, rfl, rfl, rfl, rfl⟩ := h
  rfl

theorem keyL_inj {s u : Stp} (h : s.wf) (h' : u.wf) (e : keyL s = keyL u) : s = u := val_inj (law70.inj (key_eq h) (by rw [e]; exact key_eq h'))

set_option maxRecDepth 100000 in
theorem isKeyL {s : Stp} (h : s.wf) : WideAt.IsKeyLit (keyL s) := law70.key (key_eq h)

/-- The map tells of each step where it stands on the list. -/
structure MapOk (D : DataW Unit) (L : List Stp) : Prop where
  ok : ∀ s, s.wf → Maps.has D (keyL s) = decide (s ∈ L)
  at' : ∀ (i : Nat) (s : Stp), s.wf → L[i]? = some s → D.atKey (keyL s) (.lit (.int .i64 0)) = .lit (.int .i64 i)
  isMap : IsMap D

theorem MapOk.nil : MapOk (.map []) [] := ⟨fun s _ => rfl, fun i s _ h => by simp at h, ⟨_, rfl⟩⟩

set_option maxRecDepth 100000 in
theorem MapOk.put {D : DataW Unit} {L : List Stp} {s : Stp} (h : MapOk D L) (hs : s.wf) (hn : s ∉ L) : MapOk (D.put (keyL s) (.lit (.int .i64 L.length))) (L ++ [s]) := by
  refine ⟨fun u hu => ?_, fun i u hu hi => ?_, ?_⟩
  · by_cases e : u = s
    · subst e
      rw [has_put_same h.isMap (isKeyL hu)]
      simp
    · rw [has_put_other (fun e2 => e (keyL_inj hu hs e2)), h.ok u hu]
      simp [e]
  · by_cases e : u = s
    · subst e
      rw [atKey_put_same h.isMap (isKeyL hu)]
      rcases Nat.lt_or_ge i L.length with hl | hl
      · rw [List.getElem?_append_left hl] at hi
        exact absurd (List.mem_of_getElem? hi) hn
      · rw [List.getElem?_append_right hl] at hi
        have : i - L.length = 0 := by
          rcases Nat.lt_or_ge (i - L.length) 1 with h1 | h1
          · omega
          · rw [List.getElem?_eq_none (by simpa using h1)] at hi; cases hi
        rw [show L.length = i by omega]
    · rw [atKey_put_other (fun e2 => e (keyL_inj hu hs e2))]
      rcases Nat.lt_or_ge i L.length with hl | hl
      · rw [List.getElem?_append_left hl] at hi
        exact h.at' i u hu hi
      · rw [List.getElem?_append_right hl] at hi
        exfalso
        rcases Nat.lt_or_ge (i - L.length) 1 with h1 | h1
        · rw [show i - L.length = 0 by omega] at hi
          exact e (by simpa using hi.symm)
        · rw [List.getElem?_eq_none (by simpa using h1)] at hi; cases hi
  · obtain ⟨es, rfl⟩ := h.isMap
    exact ⟨_, rfl⟩
end Go.Proofs.YtnpcakakjhiboaaDoor
