/- The builtin clear on the end of a row of formulas. No condition. -/
import Derived.Test.YtnpcakakjhiboaaDoorUpward
import Derived.Laws.CopyRow
namespace Go.Proofs.YtnpcakakjhiboaaDoor
open Go.RowKit Go.Lo Go.WideShapes

theorem run_zero28 (w : World) : (zeroValue 28).run Tryd.prog w = .ok (.agg #[.int .i64 0, .string ⟨#[]⟩, .int .i64 0, .int .i64 0, .int .i64 0, .int .i64 0, .slice none 0 0]) w := by
  obtain ⟨i, hi, hz, -, -⟩ := info_parts info28
  simp [zeroValue, typeInfo, hi, hz]

/-- What clear leaves of a row: its first l. -/
theorem run_clear_row {w : World} {base g l m cap c : Nat} {A : Option Addr} {T : List Ft} {ty : TypeId} (h : w.ownsRow base 28 7 (.slice (some ⟨g, 0, none⟩) (l + m) cap) (l + m) (T.flatMap Ft.cells)) (hm : m ≤ 2) (hA : m ≠ 0 → A = some ⟨g, l * 7, none⟩) :
    ∃ w', (Builtin.clear_ #[26] ty #[.slice A m c]).run Tryd.prog w = .ok (.tuple #[]) w' ∧ w'.ownsRow base 28 7 (.slice (some ⟨g, 0, none⟩) l cap) l ((T.flatMap Ft.cells).take (l * 7)) ∧ w.grownBy w' (some g) := by
  have hcut := row_cut (m := l) h (by omega)
  by_cases h0 : m = 0
  · subst h0
    refine ⟨w, ?_, hcut, ⟨rfl, rfl, rfl, Nat.le_refl _, fun _ _ _ => rfl⟩⟩
    cases A <;> simp [Builtin.clear_, run_underlying Tryd.underlying26]
  · obtain rfl := hA h0
    rcases h.2 with ⟨hv, _⟩ | ⟨g', c', cur, hv, hb, hg, hnc, hcm, hcs, htake⟩
    · cases hv
    · obtain ⟨rfl, rfl⟩ : g = g' ∧ cap = c' := by simpa using hv
      obtain ⟨zs, hzs, hzl, hz1⟩ : ∃ zs : List Value, (Builtin.zeroCells (Value.agg #[.int .i64 0, .string ⟨#[]⟩, .int .i64 0, .int .i64 0, .int .i64 0, .int .i64 0, .slice none 0 0]).cells m).toList = zs ∧ zs.length = m * 7 ∧ ∀ v ∈ zs, v.oneCell' = true := by
        have hm2 : m = 1 ∨ m = 2 := by omega
        rcases hm2 with rfl | rfl
        · exact ⟨_, rfl, by kernel_rfl, List.all_eq_true.1 (by kernel_rfl)⟩
        · exact ⟨_, rfl, by kernel_rfl, List.all_eq_true.1 (by kernel_rfl)⟩
      have hst := run_storeCells_at (P := Tryd.prog) g (l * 7) 28 zs 0 cur w hg (by rw [hzl, hcs, Nat.add_zero, ← Nat.add_mul]; exact Nat.mul_le_mul_right _ hnc) hz1
      refine ⟨w.setRow g (cur.toList.take (l * 7 + 0) ++ zs ++ cur.toList.drop (l * 7 + 0 + zs.length)).toArray, ?_, ?_, ?_⟩
      · obtain ⟨k, rfl⟩ : ∃ k, m = k + 1 := ⟨m - 1, by omega⟩
        simp [Builtin.clear_, run_underlying Tryd.underlying26, hzs, hst]
      · have hlen : (cur.toList.take (l * 7 + 0) ++ zs ++ cur.toList.drop (l * 7 + 0 + zs.length)).length = cur.size := by
          have : (l + m) * 7 ≤ cap * 7 := Nat.mul_le_mul_right _ hnc
          simp [hzl]
          omega
        refine ⟨hcut.1, .inr ⟨g, cap, _, rfl, hb, setRow_heap w g cur _ 28 (0, 0) hg, by omega, hcm, by simpa [hcs] using hlen, ?_⟩⟩
        have hl7 : l * 7 ≤ cur.size := by
          have : (l + m) * 7 ≤ cap * 7 := Nat.mul_le_mul_right _ hnc
          omega
        rw [List.toList_toArray, List.append_assoc, List.take_left' (by simp; omega), Nat.add_zero, ← htake, List.take_take]
        congr 1
        omega
      · exact ⟨rfl, rfl, rfl, by simp, fun k _ hk => setRow_other w g k _ (fun e => hk (by rw [e]))⟩
end Go.Proofs.YtnpcakakjhiboaaDoor
