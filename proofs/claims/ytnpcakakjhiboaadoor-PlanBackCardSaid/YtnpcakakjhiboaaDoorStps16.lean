/- Steps in memory, and small facts of law 16. No condition. -/
import Derived.Test.YtnpcakakjhiboaaDoorPlan56
namespace Go.Proofs.YtnpcakakjhiboaaDoor
open Go Go.RowKit Go.Lo Go.WideShapes

theorem left_size16 {t : Ft} {n : Int} (h : ¬ leftF (Ft.pl t) n ≤ 0) : (t.size : Int) ≤ n := by
  have := ((leftF_range (Ft.pl t) n).2.2 (by omega)).1
  rw [show (Ft.pl t).size = t.size from Tr.map_size _ _] at this
  omega

theorem num_of {t : Ft} (h : ∀ n, n ∈ t.pre → n.top.n.wf) : allNum (Ft.pl t) := fun n hn => by
  have e : (Ft.pl t).pre = t.pre.map Ft.pl := Tr.map_pre Hd.n t
  rw [e] at hn
  obtain ⟨m, hm, rfl⟩ := List.mem_map.1 hn
  obtain ⟨-, -, h1, h2, h3, -⟩ := h m hm
  rw [pl_op]
  exact ⟨h1, h2, h3⟩

theorem stp_len (L : List Stp) : (L.flatMap Stp.cells).length = L.length * 8 := by
  induction L with
  | nil => rfl
  | cons y Y ih => simp only [List.flatMap_cons, List.length_append, ih, List.length_cons]; simp [Stp.cells]; omega

theorem stp_get (L : List Stp) : ∀ (i : Nat) (s : Stp) (j : Nat) (u : Value), L[i]? = some s → s.cells[j]? = some u → (L.flatMap Stp.cells)[i * 8 + j]? = some u := by
  induction L with
  | nil => intro i s j u h; simp at h
  | cons x T ih =>
    intro i s j u h hu
    have hj : j < 8 := by
      rcases Nat.lt_or_ge j 8 with h | h
      · exact h
      · rw [List.getElem?_eq_none (by simpa [Stp.cells] using h)] at hu; cases hu
    rw [List.flatMap_cons]
    cases i with
    | zero =>
      simp at h
      subst h
      rw [List.getElem?_append_left (by simp [Stp.cells]; omega), Nat.zero_mul, Nat.zero_add]
      exact hu
    | succ i =>
      rw [List.getElem?_append_right (by simp [Stp.cells]; omega)]
      simp only [Stp.cells, List.length_cons, List.length_nil]
      rw [show (i + 1) * 8 + j - (0 + 1 + 1 + 1 + 1 + 1 + 1 + 1 + 1) = i * 8 + j by omega]
      exact ih i s j u (by simpa using h) hu

/-- Steps lie one behind the other. -/
def StpsAt (w : World) (a : Option Addr) (L : List Stp) : Prop := L ≠ [] → ∃ b, a = some ⟨b, 0, none⟩ ∧ ∀ (i : Nat) (s : Stp), L[i]? = some s → ∀ (j : Nat) (u : Value), s.cells[j]? = some u → w.cell? ⟨b, i * 8 + j, none⟩ = some u

theorem StpsAt.quiet {w w' : World} {a : Option Addr} {L : List Stp} (h : StpsAt w a L) (hq : Quiet w w') : StpsAt w' a L := fun hn => by
  obtain ⟨b, e, hc⟩ := h hn
  exact ⟨b, e, fun i s hi j u hu => hq.cell (hc i s hi j u hu) (by simp)⟩

theorem stps_of {w : World} {base : Nat} {v : Value} {L : List Stp} (h : w.ownsRow base 70 8 v L.length (L.flatMap Stp.cells)) : ∃ a c, v = .slice a L.length c ∧ StpsAt w a L := by
  obtain ⟨a, c, rfl⟩ := own_form h
  refine ⟨a, c, rfl, fun hn => ?_⟩
  obtain ⟨m, hm⟩ : ∃ m, L.length = m + 1 := ⟨L.length - 1, by have := List.length_pos_iff.2 hn; omega⟩
  have h2 := h
  rw [hm] at h2
  obtain ⟨g, c2, e⟩ := ownsRow_succ h2
  obtain ⟨rfl, -⟩ : a = some ⟨g, 0, none⟩ ∧ c = c2 := by simpa using e
  refine ⟨g, rfl, fun i s hi j u hu => ?_⟩
  have := h.cells (g := g) rfl (i * 8 + j) u (stp_get L i s j u hi hu)
  rw [add_plain, Nat.zero_add] at this
  exact this

end Go.Proofs.YtnpcakakjhiboaaDoor
