/- plan.step (91). No condition. -/
import Derived.Test.YtnpcakakjhiboaaDoorMem
import Derived.Test.YtnpcakakjhiboaaDoorPlanP
namespace Go.Proofs.YtnpcakakjhiboaaDoor
open Go Go.RowKit Go.Lo Go.WideShapes

/-- A step's cells. -/
def Stp.cells (s : Stp) : List Value := [.int .i64 s.n.op, .string s.n.nm, .int .i64 s.n.cmp, .int .i64 s.n.val, .int .i64 s.n.lo, .int .i64 s.n.hi, .int .i64 s.a, .int .i64 s.b]
def Stp.val (s : Stp) : Value := .agg #[.int .i64 s.n.op, .string s.n.nm, .int .i64 s.n.cmp, .int .i64 s.n.val, .int .i64 s.n.lo, .int .i64 s.n.hi, .int .i64 s.a, .int .i64 s.b]

/-- Numbers lie one behind the other. -/
def IntsAt (w : World) (a : Option Addr) (l : List Int) : Prop := l ≠ [] → ∃ b o, a = some ⟨b, o, none⟩ ∧ ∀ i x, l[i]? = some x → w.cell? ⟨b, o + i, none⟩ = some (.int .i64 x)

theorem IntsAt.quiet {w w' : World} {a : Option Addr} {l : List Int} (h : IntsAt w a l) (hq : Quiet w w') : IntsAt w' a l := fun hn => by
  obtain ⟨b, o, e, hc⟩ := h hn
  exact ⟨b, o, e, fun i x hi => hq.cell (hc i x hi) (by simp)⟩

theorem eight_cells {w : World} {b : Nat} {x0 x1 x2 x3 x4 x5 x6 x7 : Value} {t : TypeId} (h : Blk w b #[x0, x1, x2, x3, x4, x5, x6, x7] t) :
    w.cell? ⟨b, 0, none⟩ = some x0 ∧ w.cell? ⟨b, 1, none⟩ = some x1 ∧ w.cell? ⟨b, 2, none⟩ = some x2 ∧ w.cell? ⟨b, 3, none⟩ = some x3 ∧ w.cell? ⟨b, 4, none⟩ = some x4 ∧ w.cell? ⟨b, 5, none⟩ = some x5 ∧ w.cell? ⟨b, 6, none⟩ = some x6 ∧ w.cell? ⟨b, 7, none⟩ = some x7 :=
  ⟨h.cell 0 rfl, h.cell 1 rfl, h.cell 2 rfl, h.cell 3 rfl, h.cell 4 rfl, h.cell 5 rfl, h.cell 6 rfl, h.cell 7 rfl⟩

theorem set8 (w : World) (b : Nat) (x0 x1 x2 x3 x4 x5 x6 x7 : Value) : Alters (fun k => k = b) w ((((((((w.setCell ⟨b, 0, none⟩ x0).setCell ⟨b, 1, none⟩ x1).setCell ⟨b, 2, none⟩ x2).setCell ⟨b, 3, none⟩ x3).setCell ⟨b, 4, none⟩ x4).setCell ⟨b, 5, none⟩ x5).setCell ⟨b, 6, none⟩ x6).setCell ⟨b, 7, none⟩ x7) :=
  (set7 w b x0 x1 x2 x3 x4 x5 x6).set (q := ⟨b, 7, none⟩) (fun _ => rfl) x7

theorem blk8 {w : World} {b : Nat} {z0 z1 z2 z3 z4 z5 z6 z7 : Value} {t : TypeId} (h : Blk w b #[z0, z1, z2, z3, z4, z5, z6, z7] t) (x0 x1 x2 x3 x4 x5 x6 x7 : Value) :
    Blk ((((((((w.setCell ⟨b, 0, none⟩ x0).setCell ⟨b, 1, none⟩ x1).setCell ⟨b, 2, none⟩ x2).setCell ⟨b, 3, none⟩ x3).setCell ⟨b, 4, none⟩ x4).setCell ⟨b, 5, none⟩ x5).setCell ⟨b, 6, none⟩ x6).setCell ⟨b, 7, none⟩ x7) b #[x0, x1, x2, x3, x4, x5, x6, x7] t := by
  have := (((((((h.set 0 x0).set 1 x1).set 2 x2).set 3 x3).set 4 x4).set 5 x5).set 6 x6).set 7 x7
  simpa using this

set_option maxRecDepth 100000 in
set_option maxHeartbeats 4000000 in
theorem step91_walk (b o : Nat) (x : Ft) (A : Option Addr) (c : Nat) (l : List Int) (w : World) (hx : AtP w b o x) (hl : IntsAt w A l) (h2 : l.length ≤ 2) : Calls Tryd.prog 91 #[.pointer (some ⟨b, o, none⟩), .slice A l.length c] w (Said (Stp.val ⟨x.top.n, l.headD (-1), l.tail.headD (-1)⟩) w) := by
  obtain ⟨d0, d1, d2, d3, d4, d5, -⟩ := hx.seven
  have HL := Go.Lib.hid hl
  clear hl hx
  go_enter Tryd.func91, Tryd.ntmps91
  go_upto_region 1 with (fail)
  have B : Hid (Blk (w.alloc (.cells #[.int .i64 0, .string ⟨#[]⟩, .int .i64 0, .int .i64 0, .int .i64 0, .int .i64 0, .int .i64 0, .int .i64 0] 70)) w.heap.size #[.int .i64 0, .string ⟨#[]⟩, .int .i64 0, .int .i64 0, .int .i64 0, .int .i64 0, .int .i64 0, .int .i64 0] 70) := Blk.new _ _ _
  have HQ : Hid (Quiet w (w.alloc (.cells #[.int .i64 0, .string ⟨#[]⟩, .int .i64 0, .int .i64 0, .int .i64 0, .int .i64 0, .int .i64 0, .int .i64 0] 70))) := (Alters.refl _).alloc _
  replace d0 := HQ.out.cell d0 (by simp)
  replace d1 := HQ.out.cell d1 (by simp)
  replace d2 := HQ.out.cell d2 (by simp)
  replace d3 := HQ.out.cell d3 (by simp)
  replace d4 := HQ.out.cell d4 (by simp)
  replace d5 := HQ.out.cell d5 (by simp)
  generalize w.alloc _ = w1 at *
  have e0 := fun X => ((Alters.refl (p := fun _ => False) w1).alloc X).cell d0 (by simp)
  have e1 := fun X => ((Alters.refl (p := fun _ => False) w1).alloc X).cell d1 (by simp)
  have e2 := fun X => ((Alters.refl (p := fun _ => False) w1).alloc X).cell d2 (by simp)
  have e3 := fun X => ((Alters.refl (p := fun _ => False) w1).alloc X).cell d3 (by simp)
  have e4 := fun X => ((Alters.refl (p := fun _ => False) w1).alloc X).cell d4 (by simp)
  have e5 := fun X => ((Alters.refl (p := fun _ => False) w1).alloc X).cell d5 (by simp)
  go_region
  have B2 : Hid (Blk (w1.alloc (.cells #[.int .i64 x.top.n.op, .string x.top.n.nm, .int .i64 x.top.n.cmp, .int .i64 x.top.n.val, .int .i64 x.top.n.lo, .int .i64 x.top.n.hi, .int .i64 (-1), .int .i64 (-1)] 70)).drew w1.heap.size #[.int .i64 x.top.n.op, .string x.top.n.nm, .int .i64 x.top.n.cmp, .int .i64 x.top.n.val, .int .i64 x.top.n.lo, .int .i64 x.top.n.hi, .int .i64 (-1), .int .i64 (-1)] 70) := (Blk.new _ _ _).drew
  have B1 : Hid (Blk (w1.alloc (.cells #[.int .i64 x.top.n.op, .string x.top.n.nm, .int .i64 x.top.n.cmp, .int .i64 x.top.n.val, .int .i64 x.top.n.lo, .int .i64 x.top.n.hi, .int .i64 (-1), .int .i64 (-1)] 70)).drew w.heap.size #[.int .i64 0, .string ⟨#[]⟩, .int .i64 0, .int .i64 0, .int .i64 0, .int .i64 0, .int .i64 0, .int .i64 0] 70) := (B.out.alloc _).drew
  have HQ3 : Hid (Quiet w1 (w1.alloc (.cells #[.int .i64 x.top.n.op, .string x.top.n.nm, .int .i64 x.top.n.cmp, .int .i64 x.top.n.val, .int .i64 x.top.n.lo, .int .i64 x.top.n.hi, .int .i64 (-1), .int .i64 (-1)] 70)).drew) := ((Alters.refl _).alloc _).drew
  have HQ2 := Go.Lib.hid (HQ.out.trans HQ3.out)
  have hne : w.heap.size ≠ w1.heap.size := by have := B.out.lt; omega
  have HSB := Go.Lib.hid (show w.heap.size ≤ w1.heap.size from HQ.out.size)
  have HL0 := HL
  replace HL := Go.Lib.hid (HL.out.quiet HQ2.out)
  have HH : Hid (w.heap.size ≤ w.heap.size) := Nat.le_refl _
  clear HQ HQ3 B d0 d1 d2 d3 d4 d5 e0 e1 e2 e3 e4 e5
  generalize (w1.alloc _).drew = w2 at *
  generalize w1.heap.size = sb at *
  obtain ⟨h0, hh0⟩ : ∃ n, n = w.heap.size := ⟨_, rfl⟩
  rw [← hh0] at B1 hne ⊢
  replace HH := Go.Lib.hid (show w.heap.size ≤ h0 by omega)
  clear hh0
  rcases l with _ | ⟨p, _ | ⟨q, _ | ⟨z, r⟩⟩⟩
  · simp only [List.length_nil, List.headD_nil, List.tail_nil]
    obtain ⟨r0, r1, r2, r3, r4, r5, r6, r7⟩ := eight_cells B1.out
    obtain ⟨s0, s1, s2, s3, s4, s5, s6, s7⟩ := eight_cells B2.out
    have fr := fun i => B1.out.free i
    have fs := fun i => B2.out.free i
    go_wp2
    have hb8 := blk8 B1.out (.int .i64 x.top.n.op) (.string x.top.n.nm) (.int .i64 x.top.n.cmp) (.int .i64 x.top.n.val) (.int .i64 x.top.n.lo) (.int .i64 x.top.n.hi) (.int .i64 (-1)) (.int .i64 (-1))
    have hs8 := set8 w2 h0 (.int .i64 x.top.n.op) (.string x.top.n.nm) (.int .i64 x.top.n.cmp) (.int .i64 x.top.n.val) (.int .i64 x.top.n.lo) (.int .i64 x.top.n.hi) (.int .i64 (-1)) (.int .i64 (-1))
    have hq8 : Quiet w _ := HQ2.out.then hs8 (fun i hi e => by have := HH.out; omega)
    clear r0 r1 r2 r3 r4 r5 r6 r7 s0 s1 s2 s3 s4 s5 s6 s7
    obtain ⟨r0, r1, r2, r3, r4, r5, r6, r7⟩ := eight_cells hb8
    exact bodyPost_ret (v := Stp.val ⟨x.top.n, (-1), (-1)⟩) (by simp [results, Tryd.results91, go_sem, Stp.val, r0, r1, r2, r3, r4, r5, r6, r7]) rfl ⟨rfl, hq8⟩
  · obtain ⟨b2, o2, rfl, hc⟩ := HL.out (by simp)
    have p0 := hc 0 p rfl
    rw [Nat.add_zero] at p0
    simp only [List.length_cons, List.length_nil, List.headD_cons, List.tail_cons, List.headD_nil]
    obtain ⟨s0, s1, s2, s3, s4, s5, s6, s7⟩ := eight_cells B2.out
    have fs := fun i => B2.out.free i
    go_upto_region 4 with (fail)
    clear p0
    clear s0 s1 s2 s3 s4 s5 s6 s7 fs
    have B3 : Hid (Blk (w2.setCell ⟨sb, 6, none⟩ (.int .i64 p)) sb #[.int .i64 x.top.n.op, .string x.top.n.nm, .int .i64 x.top.n.cmp, .int .i64 x.top.n.val, .int .i64 x.top.n.lo, .int .i64 x.top.n.hi, .int .i64 p, .int .i64 (-1)] 70) := Go.Lib.hid (by have := B2.out.set 6 (.int .i64 p); simpa using this)
    have B0 := Go.Lib.hid (B1.out.set_other (a := ⟨sb, 6, none⟩) hne (.int .i64 p))
    have hs : Alters (fun k => k = sb) w2 (w2.setCell ⟨sb, 6, none⟩ (.int .i64 p)) := (Alters.refl (p := fun k => k = sb) _).set (q := ⟨sb, 6, none⟩) (fun _ => rfl) _
    have HQ5 := Go.Lib.hid (HQ2.out.then hs (fun i hi e => by have := HSB.out; omega))
    clear hs B1 B2 HQ2
    have B1 := B0
    have B2 := B3
    have HQ2 := HQ5
    clear B0 B3 HQ5
    generalize w2.setCell _ _ = w3 at *
    obtain ⟨r0, r1, r2, r3, r4, r5, r6, r7⟩ := eight_cells B1.out
    obtain ⟨s0, s1, s2, s3, s4, s5, s6, s7⟩ := eight_cells B2.out
    have fr := fun i => B1.out.free i
    have fs := fun i => B2.out.free i
    go_wp2
    have hb8 := blk8 B1.out (.int .i64 x.top.n.op) (.string x.top.n.nm) (.int .i64 x.top.n.cmp) (.int .i64 x.top.n.val) (.int .i64 x.top.n.lo) (.int .i64 x.top.n.hi) (.int .i64 p) (.int .i64 (-1))
    have hs8 := set8 w3 h0 (.int .i64 x.top.n.op) (.string x.top.n.nm) (.int .i64 x.top.n.cmp) (.int .i64 x.top.n.val) (.int .i64 x.top.n.lo) (.int .i64 x.top.n.hi) (.int .i64 p) (.int .i64 (-1))
    have hq8 : Quiet w _ := HQ2.out.then hs8 (fun i hi e => by have := HH.out; omega)
    clear r0 r1 r2 r3 r4 r5 r6 r7 s0 s1 s2 s3 s4 s5 s6 s7
    obtain ⟨r0, r1, r2, r3, r4, r5, r6, r7⟩ := eight_cells hb8
    exact bodyPost_ret (v := Stp.val ⟨x.top.n, p, (-1)⟩) (by simp [results, Tryd.results91, go_sem, Stp.val, r0, r1, r2, r3, r4, r5, r6, r7]) rfl ⟨rfl, hq8⟩
  · obtain ⟨b2, o2, rfl, hc⟩ := HL.out (by simp)
    have p0 := hc 0 p rfl
    have p1 := hc 1 q rfl
    rw [Nat.add_zero] at p0
    have hb2 : b2 ≠ sb := fun e => by
      subst e
      obtain ⟨b', o', e, hc'⟩ := HL0.out (by simp)
      obtain ⟨rfl, rfl⟩ : b2 = b' ∧ o2 = o' := by simpa using e
      have h7 := block_lt_of_cell (hc' 0 p rfl)
      have h8 := HSB.out
      simp only at h7
      omega
    simp only [List.length_cons, List.length_nil, List.headD_cons, List.tail_cons]
    obtain ⟨s0, s1, s2, s3, s4, s5, s6, s7⟩ := eight_cells B2.out
    have fs := fun i => B2.out.free i
    go_upto_region 4 with (fail)
    replace p1 : (w2.setCell ⟨sb, 6, none⟩ (.int .i64 p)).cell? ⟨b2, o2 + 1, none⟩ = some (.int .i64 q) := by
      have hs : Alters (fun k => k = sb) w2 (w2.setCell ⟨sb, 6, none⟩ (.int .i64 p)) := (Alters.refl (p := fun k => k = sb) _).set (q := ⟨sb, 6, none⟩) (fun _ => rfl) _
      exact hs.cell p1 hb2
    clear p0
    clear s0 s1 s2 s3 s4 s5 s6 s7 fs
    have B3 : Hid (Blk (w2.setCell ⟨sb, 6, none⟩ (.int .i64 p)) sb #[.int .i64 x.top.n.op, .string x.top.n.nm, .int .i64 x.top.n.cmp, .int .i64 x.top.n.val, .int .i64 x.top.n.lo, .int .i64 x.top.n.hi, .int .i64 p, .int .i64 (-1)] 70) := Go.Lib.hid (by have := B2.out.set 6 (.int .i64 p); simpa using this)
    have B0 := Go.Lib.hid (B1.out.set_other (a := ⟨sb, 6, none⟩) hne (.int .i64 p))
    have hs : Alters (fun k => k = sb) w2 (w2.setCell ⟨sb, 6, none⟩ (.int .i64 p)) := (Alters.refl (p := fun k => k = sb) _).set (q := ⟨sb, 6, none⟩) (fun _ => rfl) _
    have HQ5 := Go.Lib.hid (HQ2.out.then hs (fun i hi e => by have := HSB.out; omega))
    clear hs B1 B2 HQ2
    have B1 := B0
    have B2 := B3
    have HQ2 := HQ5
    clear B0 B3 HQ5
    generalize w2.setCell _ _ = w3 at *
    obtain ⟨s0, s1, s2, s3, s4, s5, s6, s7⟩ := eight_cells B2.out
    have fs := fun i => B2.out.free i
    go_upto_region 6 with (fail)
    clear p1
    clear s0 s1 s2 s3 s4 s5 s6 s7 fs
    have B3 : Hid (Blk (w3.setCell ⟨sb, 7, none⟩ (.int .i64 q)) sb #[.int .i64 x.top.n.op, .string x.top.n.nm, .int .i64 x.top.n.cmp, .int .i64 x.top.n.val, .int .i64 x.top.n.lo, .int .i64 x.top.n.hi, .int .i64 p, .int .i64 q] 70) := Go.Lib.hid (by have := B2.out.set 7 (.int .i64 q); simpa using this)
    have B0 := Go.Lib.hid (B1.out.set_other (a := ⟨sb, 7, none⟩) hne (.int .i64 q))
    have hs : Alters (fun k => k = sb) w3 (w3.setCell ⟨sb, 7, none⟩ (.int .i64 q)) := (Alters.refl (p := fun k => k = sb) _).set (q := ⟨sb, 7, none⟩) (fun _ => rfl) _
    have HQ5 := Go.Lib.hid (HQ2.out.then hs (fun i hi e => by have := HSB.out; omega))
    clear hs B1 B2 HQ2
    have B1 := B0
    have B2 := B3
    have HQ2 := HQ5
    clear B0 B3 HQ5
    generalize w3.setCell _ _ = w4 at *
    obtain ⟨r0, r1, r2, r3, r4, r5, r6, r7⟩ := eight_cells B1.out
    obtain ⟨s0, s1, s2, s3, s4, s5, s6, s7⟩ := eight_cells B2.out
    have fr := fun i => B1.out.free i
    have fs := fun i => B2.out.free i
    go_wp2
    have hb8 := blk8 B1.out (.int .i64 x.top.n.op) (.string x.top.n.nm) (.int .i64 x.top.n.cmp) (.int .i64 x.top.n.val) (.int .i64 x.top.n.lo) (.int .i64 x.top.n.hi) (.int .i64 p) (.int .i64 q)
    have hs8 := set8 w4 h0 (.int .i64 x.top.n.op) (.string x.top.n.nm) (.int .i64 x.top.n.cmp) (.int .i64 x.top.n.val) (.int .i64 x.top.n.lo) (.int .i64 x.top.n.hi) (.int .i64 p) (.int .i64 q)
    have hq8 : Quiet w _ := HQ2.out.then hs8 (fun i hi e => by have := HH.out; omega)
    clear r0 r1 r2 r3 r4 r5 r6 r7 s0 s1 s2 s3 s4 s5 s6 s7
    obtain ⟨r0, r1, r2, r3, r4, r5, r6, r7⟩ := eight_cells hb8
    exact bodyPost_ret (v := Stp.val ⟨x.top.n, p, q⟩) (by simp [results, Tryd.results91, go_sem, Stp.val, r0, r1, r2, r3, r4, r5, r6, r7]) rfl ⟨rfl, hq8⟩
  · simp at h2
end Go.Proofs.YtnpcakakjhiboaaDoor
