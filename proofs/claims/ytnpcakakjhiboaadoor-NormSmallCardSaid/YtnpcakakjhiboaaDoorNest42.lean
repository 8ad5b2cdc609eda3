/- horizon.Nested. No condition. -/
import Derived.Test.YtnpcakakjhiboaaDoorHor11
import Derived.Test.YtnpcakakjhiboaaDoorEach
import Derived.Deep.LoopGhost
import Derived.Deep.AppendLies
import Derived.Deep.RegionLaw
namespace Go.Proofs.YtnpcakakjhiboaaDoor
open Go Go.RowKit Go.Lo Go.WideShapes

theorem info101 : (Tryd.prog.info? 101).map (fun i => (i.zero, i.size, i.bytes)) = some (some (.agg #[.pointer none, .int .i64 0]), 2, 16) := by kernel_rfl

/-- A node on the way, and how many nodes with a span stand above it. -/
structure Pn where
  b : Nat
  o : Nat
  ab : Nat
  t : Ft

def Pn.cells (e : Pn) : List Value := [.pointer (some ⟨e.b, e.o, none⟩), .int .i64 (e.ab : Int)]

theorem pn_len (S : List Pn) : (S.flatMap Pn.cells).length = S.length * 2 := by
  induction S with
  | nil => rfl
  | cons y Y ih => simp only [List.flatMap_cons, List.length_append, ih, List.length_cons]; simp [Pn.cells]; omega

/-- The kids as places. -/
def kn (b o ab : Nat) : List Ft → List Pn | [] => [] | k :: ks => ⟨b, o, ab, k⟩ :: kn b (o + 7) ab ks

theorem kn_len (ks : List Ft) : ∀ b o ab, (kn b o ab ks).length = ks.length := by
  induction ks with
  | nil => intro b o ab; rfl
  | cons k ks ih => intro b o ab; simp [kn, ih]

theorem kn_get (ks : List Ft) : ∀ (b o ab i : Nat) (k : Ft), ks[i]? = some k → (kn b o ab ks)[i]? = some ⟨b, o + i * 7, ab, k⟩ := by
  induction ks with
  | nil => intro b o ab i k h; simp at h
  | cons x ks ih =>
    intro b o ab i k h
    cases i with
    | zero => simp at h; subst h; simp [kn]
    | succ i =>
      have := ih b (o + 7) ab i k (by simpa using h)
      simp only [kn, List.getElem?_cons_succ, this]
      rw [show o + 7 + i * 7 = o + (i + 1) * 7 by omega]

theorem kn_mem (ks : List Ft) : ∀ (b o ab : Nat) (e : Pn), e ∈ kn b o ab ks → e.ab = ab ∧ e.t ∈ ks := by
  induction ks with
  | nil => intro b o ab e h; cases h
  | cons x ks ih =>
    intro b o ab e h
    rcases List.mem_cons.1 h with rfl | h
    · exact ⟨rfl, by simp⟩
    · obtain ⟨h1, h2⟩ := ih b (o + 7) ab e h
      exact ⟨h1, by simp [h2]⟩

/-- What the places come to. -/
def mxl : List Pn → Nat | [] => 0 | e :: S => max (e.ab + nestN e.t) (mxl S)
def wtl : List Pn → Nat | [] => 0 | e :: S => e.t.size + wtl S

theorem mxl_append (S T : List Pn) : mxl (S ++ T) = max (mxl S) (mxl T) := by
  induction S with
  | nil => simp [mxl]
  | cons e S ih => simp only [List.cons_append, mxl, ih]; omega

theorem wtl_append (S T : List Pn) : wtl (S ++ T) = wtl S + wtl T := by
  induction S with
  | nil => simp [wtl]
  | cons e S ih => simp only [List.cons_append, wtl, ih]; omega

theorem len_wtl (S : List Pn) : S.length ≤ wtl S := by
  induction S with
  | nil => simp
  | cons e S ih =>
    have : 1 ≤ e.t.size := by cases e.t; simp [Tr.size]
    simp only [List.length_cons, wtl]; omega

theorem mxl_kn (ks : List Ft) : ∀ b o ab, max ab (mxl (kn b o ab ks)) = ab + nestL ks := by
  induction ks with
  | nil => intro b o ab; simp [kn, mxl, nestL]
  | cons k ks ih => intro b o ab; have := ih b (o + 7) ab; simp only [kn, mxl, nestL]; omega

theorem wtl_kn (ks : List Ft) : ∀ b o ab, wtl (kn b o ab ks) = Tr.sizeL ks := by
  induction ks with
  | nil => intro b o ab; rfl
  | cons k ks ih => intro b o ab; simp only [kn, wtl, Tr.sizeL, ih]

theorem pl_eta3 (n : Ft) : Ft.pl n = .nd n.top.n (n.kids.map Ft.pl) := by
  obtain ⟨⟨x, a, c⟩, ks⟩ := n
  exact pl_nd _ _ _ _

theorem nestN_top (t : Ft) : nestN t = if 9 ≤ t.top.n.op then nestL t.kids + 1 else nestL t.kids := by
  cases t; simp only [nestN]; rfl

/-- What lies in memory. -/
structure NsAt (w0 : World) (mb : Nat) (v : Value) (S : List Pn) (W : World) : Prop where
  row : W.ownsRow w0.heap.size 101 2 v S.length (S.flatMap Pn.cells)
  vis : ∀ e, e ∈ S → e.b < mb ∧ AtP W e.b e.o e.t ∧ In (fun k => k < mb) W e.t ∧ sound (Ft.pl e.t)
  low : mb ≤ w0.heap.size
  quiet : Quiet w0 W

theorem NsAt.turn {w0 W W' : World} {mb : Nat} {v v2 : Value} {S S2 : List Pn} {p : Nat → Prop} (h : NsAt w0 mb v S W) (hA : Alters p W W') (hp : ∀ k, k < w0.heap.size → ¬ p k) (hr : W'.ownsRow w0.heap.size 101 2 v2 S2.length (S2.flatMap Pn.cells))
    (hv : ∀ e, e ∈ S2 → e.b < mb ∧ AtP W e.b e.o e.t ∧ In (fun k => k < mb) W e.t ∧ sound (Ft.pl e.t)) : NsAt w0 mb v2 S2 W' :=
  ⟨hr, fun e he => by
    obtain ⟨h1, h2, h3, h4⟩ := hv e he
    exact ⟨h1, h2.keep hA (hp _ (by have := h.low; omega)), h3.keep hA (fun k hk _ => hp k (by have := h.low; omega)), h4⟩, h.low, h.quiet.then hA (fun i hi e => hp i hi e)⟩

theorem NsAt.cut {w0 W : World} {mb g cap : Nat} {S : List Pn} {e : Pn} (h : NsAt w0 mb (.slice (some ⟨g, 0, none⟩) (S.length + 1) cap) (S ++ [e]) W) : NsAt w0 mb (.slice (some ⟨g, 0, none⟩) S.length cap) S W := by
  have hr := h.row
  rw [List.length_append, List.length_singleton] at hr
  have := row_cut (m := S.length) hr (by omega)
  rw [List.flatMap_append, List.take_left' (pn_len S)] at this
  exact ⟨this, fun x hx => h.vis x (by simp [hx]), h.low, h.quiet⟩

theorem NsAt.top {w0 W : World} {mb g cap : Nat} {S : List Pn} {e : Pn} (h : NsAt w0 mb (.slice (some ⟨g, 0, none⟩) (S.length + 1) cap) (S ++ [e]) W) :
    W.cell? ⟨g, S.length * 2, none⟩ = some (.pointer (some ⟨e.b, e.o, none⟩)) ∧ W.cell? ⟨g, S.length * 2 + 1, none⟩ = some (.int .i64 (e.ab : Int)) := by
  have hr := h.row
  have h0 : ((S ++ [e]).flatMap Pn.cells)[S.length * 2]? = some (.pointer (some ⟨e.b, e.o, none⟩)) := by
    rw [List.flatMap_append, List.getElem?_append_right (by rw [pn_len]; omega), pn_len, Nat.sub_self]; rfl
  have h1 : ((S ++ [e]).flatMap Pn.cells)[S.length * 2 + 1]? = some (.int .i64 (e.ab : Int)) := by
    rw [List.flatMap_append, List.getElem?_append_right (by rw [pn_len]; omega), pn_len, show S.length * 2 + 1 - S.length * 2 = 1 by omega]; rfl
  rw [List.length_append, List.length_singleton] at hr
  have a0 := hr.cells (g := g) rfl _ _ h0
  have a1 := hr.cells (g := g) rfl _ _ h1
  rw [add_plain, Nat.zero_add] at a0 a1
  exact ⟨a0, a1⟩

/-- The box of the place that is looked at. -/
structure PlBox (w0 : World) (mb : Nat) (v : Value) (S : List Pn) (pb : Nat) (e : Pn) (ab : Nat) (W : World) : Prop where
  ns : NsAt w0 mb v S W
  box : Blk W pb #[.pointer (some ⟨e.b, e.o, none⟩), .int .i64 (ab : Int)] 101
  off : v.ownBlock ≠ some pb
  big : w0.heap.size ≤ pb
  at_ : e.b < mb ∧ AtP W e.b e.o e.t ∧ In (fun k => k < mb) W e.t ∧ sound (Ft.pl e.t)

theorem PlBox.quiet {w0 : World} {mb : Nat} {v : Value} {S : List Pn} {pb : Nat} {e : Pn} {ab : Nat} {W W' : World} (h : PlBox w0 mb v S pb e ab W) (hq : Quiet W W') : PlBox w0 mb v S pb e ab W' :=
  ⟨h.ns.turn hq (by simp) (row_keep h.ns.row hq (by simp)) h.ns.vis, hq.blk h.box (by simp), h.off, h.big, ⟨h.at_.1, h.at_.2.1.keep hq (by simp), h.at_.2.2.1.quiet hq, h.at_.2.2.2⟩⟩

theorem PlBox.set {w0 : World} {mb : Nat} {v : Value} {S : List Pn} {pb : Nat} {e : Pn} {ab : Nat} {W : World} (h : PlBox w0 mb v S pb e ab W) (x : Nat) : PlBox w0 mb v S pb e x (W.setCell ⟨pb, 1, none⟩ (.int .i64 (x : Int))) := by
  have hs : Alters (fun k => k = pb) W (W.setCell ⟨pb, 1, none⟩ (.int .i64 (x : Int))) := (Alters.refl (p := fun k => k = pb) W).set (q := ⟨pb, 1, none⟩) (fun _ => rfl) _
  have hl := h.ns.low
  have hb := h.big
  refine ⟨h.ns.turn hs (fun k hk e => by omega) (row_keep h.ns.row hs (fun k hk e => h.off (by rw [hk, e]))) h.ns.vis, by have := h.box.set 1 (.int .i64 (x : Int)); simpa using this, h.off, h.big, ⟨h.at_.1, h.at_.2.1.keep hs (by have := h.at_.1; omega), h.at_.2.2.1.keep hs (fun k hk _ e => by omega), h.at_.2.2.2⟩⟩

theorem PlBox.push {w0 : World} {mb : Nat} {v : Value} {S : List Pn} {pb : Nat} {e : Pn} {ab : Nat} {W w4 : World} {g cp : Nat} {x : Pn} {o : Obj} (h : PlBox w0 mb v S pb e ab W) (hx : x.b < mb ∧ AtP W x.b x.o x.t ∧ In (fun k => k < mb) W x.t ∧ sound (Ft.pl x.t))
    (hown : w4.ownsRow w0.heap.size 101 2 (.slice (some ⟨g, 0, none⟩) (S.length + 1) cp) (S.length + 1) (S.flatMap Pn.cells ++ Pn.cells x)) (hgrow : (W.drew.alloc o).grownBy w4 v.ownBlock) (hat : v.ownBlock = some g ∨ g = W.heap.size + 1) :
    PlBox w0 mb (.slice (some ⟨g, 0, none⟩) (S.length + 1) cp) (S ++ [x]) pb e ab w4 := by
  have hA : Alters (fun k => v.ownBlock = some k) W w4 := (((Alters.refl W).drew).alloc o).grown hgrow (fun k e _ => e)
  have hl := h.ns.low
  have hb := h.big
  have hr := h.ns.row
  have hbl := h.box.lt
  have hv : ∀ k, k < w0.heap.size → ¬ v.ownBlock = some k := fun k hk e => by have := (hr.lt k e).1; omega
  refine ⟨h.ns.turn hA hv (by simpa using hown) (fun y hy => ?_), hA.blk h.box h.off, fun e2 => ?_, h.big, ⟨h.at_.1, h.at_.2.1.keep hA (hv _ (by have := h.at_.1; omega)), h.at_.2.2.1.keep hA (fun k hk _ => hv k (by omega)), h.at_.2.2.2⟩⟩
  · rcases List.mem_append.1 hy with hy | hy
    · exact h.ns.vis y hy
    · obtain rfl : y = x := by simpa using hy
      exact hx
  · have e3 : g = pb := by simpa [Value.ownBlock] using e2
    subst e3
    rcases hat with h1 | h1
    · exact h.off h1
    · omega

set_option maxRecDepth 100000 in
set_option maxHeartbeats 4000000 in
theorem nested42_walk (D : Nat → Prop) (t : Ft) (w : World) (hin : In D w t) (hS : Shapes w) (hsz : t.size ≤ 1000) : Calls Tryd.prog 42 #[t.val] w (Said (.int .i64 (nestOf t.pl)) w) := by
  have hin1 : In (fun k => k < w.heap.size) w t := hin.mono (fun k hk _ => hk)
  have HV : Hid (nestOf t.pl = if first t.pl = 0 then (nestN t : Int) else 0) := Go.Lib.hid (by unfold nestOf; rw [nestN_eq])
  have HSO : Hid (first t.pl = 0 → sound t.pl) := Go.Lib.hid (first_zero _).1
  obtain ⟨i101, hi0, hz0, hz1, hz2⟩ := info_parts info101
  generalize nestOf t.pl = V at *
  obtain ⟨⟨⟨op, nm, cmp, val, lo, hi⟩, a, cap⟩, ks⟩ := t
  have hB := Blk.new w #[.int .i64 op, .string nm, .int .i64 cmp, .int .i64 val, .int .i64 lo, .int .i64 hi, .slice a ks.length cap] 28
  have hq : Quiet w (w.alloc (.cells #[.int .i64 op, .string nm, .int .i64 cmp, .int .i64 val, .int .i64 lo, .int .i64 hi, .slice a ks.length cap] 28)) := (Alters.refl _).alloc _
  have HC := Go.Lib.hid (sound_walk (fun k => k < w.heap.size) (.nd ⟨⟨op, nm, cmp, val, lo, hi⟩, a, cap⟩ ks) (w.alloc (.cells #[.int .i64 op, .string nm, .int .i64 cmp, .int .i64 val, .int .i64 lo, .int .i64 hi, .slice a ks.length cap] 28)) (hin1.quiet hq) (hS.keep hq (by simp)) (by omega))
  have HAT : Hid (AtP (w.alloc (.cells #[.int .i64 op, .string nm, .int .i64 cmp, .int .i64 val, .int .i64 lo, .int .i64 hi, .slice a ks.length cap] 28)) w.heap.size 0 (.nd ⟨⟨op, nm, cmp, val, lo, hi⟩, a, cap⟩ ks)) := boxed_at hB
  have HIN : Hid (In (fun k => k < w.heap.size) (w.alloc (.cells #[.int .i64 op, .string nm, .int .i64 cmp, .int .i64 val, .int .i64 lo, .int .i64 hi, .slice a ks.length cap] 28)) (.nd ⟨⟨op, nm, cmp, val, lo, hi⟩, a, cap⟩ ks)) := hin1.quiet hq
  have HQ := Go.Lib.hid hq
  have HZ : Hid ((w.alloc (.cells #[.int .i64 op, .string nm, .int .i64 cmp, .int .i64 val, .int .i64 lo, .int .i64 hi, .slice a ks.length cap] 28)).heap.size = w.heap.size + 1) := Go.Lib.hid (by simp)
  clear hB hq hin hin1 hS
  unfold Ft.val at HC ⊢
  simp only [Tr.top, Tr.kids] at HC ⊢
  go_enter Tryd.func42, Tryd.ntmps42
  go_wp2_with fail
  refine HC.out.mono ?_
  rintro e w2 ⟨rfl, q2⟩
  replace HAT := Go.Lib.hid (HAT.out.keep q2 (by simp))
  replace HIN := Go.Lib.hid (HIN.out.quiet q2)
  have HQ2 := Go.Lib.hid (HQ.out.trans q2)
  have HZ2 := Go.Lib.hid (show w.heap.size + 1 ≤ w2.heap.size by have := q2.size; have := HZ.out; omega)
  clear HC HZ q2 HQ
  generalize htt : (Tr.nd ⟨⟨op, nm, cmp, val, lo, hi⟩, a, cap⟩ ks : Ft) = tt at *
  clear htt
  by_cases hf : first (Ft.pl tt) = 0
  rotate_left
  · obtain rfl : V = 0 := by rw [HV.out, if_neg hf]
    have b0 : decide (first (Ft.pl tt) = 0) = false := by simpa using hf
    clear hf HV
    go_wp2_with fail
    go_ret
    exact ⟨rfl, HQ2.out⟩
  rw [if_pos hf] at HV
  have hso := HSO.out hf
  have b0 : decide (first (Ft.pl tt) = 0) = true := by simpa using hf
  have HVV := Go.Lib.hid HV.out
  clear hf HV HSO
  obtain rfl : V = (nestN tt : Int) := HVV.out
  clear HVV
  have htz : nestN tt ≤ 1000 := by have := nestN_le tt; omega
  have HP : Hid (NsAt w2 (w.heap.size + 1) (.slice (some ⟨w2.heap.size, 0, none⟩) 1 1) [⟨w.heap.size, 0, 0, tt⟩] (w2.alloc (.cells #[.pointer (some ⟨w.heap.size, 0, none⟩), .int .i64 0] 101))) := Go.Lib.hid (by
    have hq : Quiet w2 (w2.alloc (.cells #[.pointer (some ⟨w.heap.size, 0, none⟩), .int .i64 0] 101)) := (Alters.refl _).alloc _
    refine ⟨World.ownsRow_lit w2 #[.pointer (some ⟨w.heap.size, 0, none⟩), .int .i64 0] 1 (Nat.le_refl _) (by simp [maxLen]) rfl, fun e he => ?_, HZ2.out, hq⟩
    obtain rfl : e = ⟨w.heap.size, 0, 0, tt⟩ := by simpa using he
    exact ⟨by simp only; omega, HAT.out.keep hq (by simp), (HIN.out.quiet hq).mono (fun k _ hk => by omega), hso⟩)
  have HN0 : Hid (max 0 (mxl [⟨w.heap.size, 0, 0, tt⟩]) = nestN tt) := Go.Lib.hid (by simp [mxl])
  have HW0 : Hid (wtl [⟨w.heap.size, 0, 0, tt⟩] ≤ 1000) := Go.Lib.hid (by simp only [wtl]; omega)
  clear hso HAT HIN HZ2
  go_upto_region 5 with (fail)
  clear b0
  generalize w.heap.size + 1 = mb at *
  generalize nestN tt = N at *
  generalize w2.alloc _ = w3 at *
  go_loopg [3, 4] 1000 (fun k m v wr => ∃ (mm : Nat) (S : List Pn), wtl S ≤ k ∧ k ≤ 1000 ∧ m = .int .i64 (mm : Int) ∧ max mm (mxl S) = N ∧ (∀ e, e ∈ S → e.ab ≤ mm) ∧ NsAt w2 mb v S wr)
  case atStart => exact ⟨0, _, HW0.out, Nat.le_refl _, rfl, HN0.out, by simp, HP.out⟩
  case round =>
    clear HP HN0 HW0
    obtain ⟨mm, S, hwk, hkk, rfl, hN, hab, hP⟩ := hrel
    generalize u4 = lv at *
    rcases List.eq_nil_or_concat S with rfl | ⟨S0, e, rfl⟩
    · obtain ⟨A, c, rfl⟩ := own_form hP.row
      have hmn : mm = N := by simpa [mxl] using hN
      subst hmn
      have HPA := Go.Lib.hid hP
      clear hP hN hab hwk hkk
      go_wp2_with fail
      go_ret
      exact ⟨rfl, HQ2.out.trans HPA.out.quiet⟩
    rw [List.concat_eq_append] at *
    have h1 := hP.row
    rw [List.length_append, List.length_singleton] at h1
    obtain ⟨g, cap, rfl⟩ := ownsRow_succ h1
    obtain ⟨t0, t1⟩ := hP.top
    have hrm := row_room h1
    have hvis := hP.vis e (by simp)
    have hcut := hP.cut
    have hea := hab e (by simp)
    have hlS := len_wtl (S0 ++ [e])
    rw [List.length_append, List.length_singleton] at hlS
    rw [mxl_append] at hN
    rw [wtl_append] at hwk hlS
    simp only [mxl, wtl, Nat.max_zero, Nat.add_zero] at hN hwk hlS
    have HN := Go.Lib.hid hN
    have HWK := Go.Lib.hid hwk
    have HKK := Go.Lib.hid hkk
    have HAB : Hid (∀ x, x ∈ S0 → x.ab ≤ mm) := Go.Lib.hid (fun x hx => hab x (by simp [hx]))
    have HE := Go.Lib.hid hea
    have HVS := Go.Lib.hid hvis
    have HCUT := Go.Lib.hid hcut
    have HEZ : Hid (1 ≤ e.t.size) := Go.Lib.hid (by cases e.t; simp [Tr.size])
    have hls : S0.length ≤ 1000 := by omega
    have htm := hP.quiet.size
    have hgl : g < wr.heap.size := (hP.row.lt g rfl).2
    have HGL := Go.Lib.hid hgl
    have HTM := Go.Lib.hid htm
    clear hP h1 hvis hcut hea hN hwk hkk hab hlS htm hgl
    go_upto_region 8 with (fail)
    have HB : Hid (PlBox w2 mb (.slice (some ⟨g, 0, none⟩) S0.length cap) S0 wr.heap.size e e.ab (wr.alloc (.cells #[.pointer (some ⟨e.b, e.o, none⟩), .int .i64 (e.ab : Int)] 101))) := Go.Lib.hid (by
      have hq : Quiet wr (wr.alloc (.cells #[.pointer (some ⟨e.b, e.o, none⟩), .int .i64 (e.ab : Int)] 101)) := (Alters.refl _).alloc _
      have hv := HVS.out
      refine ⟨HCUT.out.turn hq (by simp) (row_keep HCUT.out.row hq (by simp)) HCUT.out.vis, Blk.new _ _ _, fun e2 => ?_, HTM.out, ⟨hv.1, hv.2.1.keep hq (by simp), hv.2.2.1.quiet hq, hv.2.2.2⟩⟩
      have e3 : g = wr.heap.size := by simpa [Value.ownBlock] using e2
      have := HGL.out
      omega)
    clear t0 t1 HCUT HVS
    have hbg := HTM.out
    generalize wr.alloc _ = w5 at *
    generalize wr.heap.size = pb at *
    have h12 : e.t.top.n.op ≤ 12 := by
      have hs := HB.out.at_.2.2.2
      rw [pl_eta3] at hs
      obtain ⟨-, h, -⟩ := wrong_zero (sound_top hs)
      exact h
    obtain ⟨d0, d1, d2, d3, d4, d5, d6⟩ := HB.out.at_.2.1.seven
    have p0 := HB.out.box.cell 0 rfl
    have p1 := HB.out.box.cell 1 rfl
    by_cases hsp : 9 ≤ e.t.top.n.op
    · by_cases hmx : mm < e.ab + 1
      · have h9 : 9 ≤ e.t.top.n.op := hsp
        have HSP := Go.Lib.hid (spans83_walk e.t w5 true h12 ⟨fun _ => h9, fun _ => rfl⟩)
        have HKEY : Hid (max (e.ab + 1) (max (mxl S0) ((e.ab + 1) + nestL e.t.kids)) = N) := Go.Lib.hid (by
          have h1 := HN.out
          have h2 : nestN e.t = nestL e.t.kids + 1 := by rw [nestN_top, if_pos h9]
          have h3 := HE.out
          rw [h2] at h1
          omega)
        clear h9 hsp h12
        unfold Ft.val at HSP
        go_wp2_with fail
        refine HSP.out.mono ?_
        rintro e2 w6 ⟨rfl, q6⟩
        replace HB := Go.Lib.hid (HB.out.quiet q6)
        clear HSP q6 d0 d1 d2 d3 d4 d5 d6 p0 p1
        have p0 := HB.out.box.cell 0 rfl
        have p1 := HB.out.box.cell 1 rfl
        have fb := fun i => HB.out.box.free i
        have hea : e.ab ≤ 1000 := by have := HKEY.out; omega
        have dmx : (mm : Int) < (e.ab : Int) + 1 := by omega
        have dm2 : (mm : Int) ≤ (e.ab : Int) := by omega
        have dm3 : mm ≤ e.ab := by omega
        have dm4 : mm < e.ab + 1 := by omega
        have HMX := Go.Lib.hid hmx
        clear hmx
        go_upto_region 11 with (fail)
        have HB6 : Hid (PlBox w2 mb (.slice (some ⟨g, 0, none⟩) S0.length cap) S0 pb e (e.ab + 1) (w6.setCell ⟨pb, 1, none⟩ (.int .i64 ((e.ab : Int) + 1)))) := Go.Lib.hid (by have := HB.out.set (e.ab + 1); simpa using this)
        clear p0 p1 fb HB dmx dm2 dm3 dm4
        have HB := HB6
        clear HB6
        generalize World.setCell w6 _ _ = w7 at *
        obtain ⟨ab, hab2⟩ : ∃ n : Nat, n = (e.ab + 1) := ⟨_, rfl⟩
        rw [← hab2] at HB HKEY
        obtain ⟨m2, hm2⟩ : ∃ n : Nat, n = (e.ab + 1) := ⟨_, rfl⟩

        have HKEY2 : Hid (max m2 (max (mxl S0) (ab + nestL e.t.kids)) = N) := Go.Lib.hid (by have := HKEY.out; omega)
        have HABX : Hid (ab ≤ m2 ∧ ab ≤ 1000 ∧ m2 ≤ 1000 ∧ mm ≤ m2) := Go.Lib.hid (by have := HKEY2.out; have := HE.out; have := HMX.out; omega)
        clear HKEY
        have e3 : (e.ab : Int) + 1 = (m2 : Int) := by omega
        simp only [e3]
        clear e3
        clear hab2 hm2
        obtain ⟨kb, ko, hko⟩ : ∃ kb ko, e.t.kids ≠ [] → e.t.top.a = some ⟨kb, ko, none⟩ ∧ kb < mb ∧ ∀ i x, e.t.kids[i]? = some x → AtP w7 kb (ko + i * 7) x := by
          by_cases hne : e.t.kids = []
          · exact ⟨0, 0, fun h => absurd hne h⟩
          · obtain ⟨kb, ko, e1, hD, hc⟩ := HB.out.at_.2.2.1.fs hne
            exact ⟨kb, ko, fun _ => ⟨e1, hD, hc⟩⟩
        have HKO := Go.Lib.hid hko
        have p0 := HB.out.box.cell 0 rfl
        have p1 := HB.out.box.cell 1 rfl
        obtain ⟨-, -, -, -, -, -, d6⟩ := HB.out.at_.2.1.seven
        clear hko
        go_wp2_with fail
        generalize Value.slice (some ⟨g, 0, none⟩) S0.length cap = wv0 at *
        clear p0 p1 d6
        have HKZ : Hid (wtl S0 + (1 + Tr.sizeL e.t.kids) ≤ gk ∧ e.t.kids.length ≤ 1000) := Go.Lib.hid (by
          have h1 : e.t.size = 1 + Tr.sizeL e.t.kids := by cases e.t; rfl
          have h2 := HWK.out
          have h3 := HKK.out
          have h4 := Tr.kids_le e.t.kids
          omega)
        clear HWK HN HE HEZ hbg
        go_loopw [4, 45] (fun v i wr => ∃ j : Nat, j ≤ e.t.kids.length ∧ i = .int .i64 (j : Int) ∧ PlBox w2 mb v (S0 ++ (kn kb ko ab e.t.kids).take j) pb e ab wr) (fun _ i _ => e.t.kids.length - (intOf i).toNat)
        case atStart => exact ⟨0, Nat.zero_le _, rfl, by simpa using HB.out⟩
        case round =>
          clear HB
          obtain ⟨j, hj, rfl, hB2⟩ := hrel
          generalize u4 = lv2 at *
          by_cases hlt : j < e.t.kids.length
          · have hne : e.t.kids ≠ [] := fun h => by rw [h] at hlt; simp at hlt
            obtain ⟨ha, hkb, -⟩ := HKO.out hne
            obtain ⟨kb', ko', e', -, hc⟩ := hB2.at_.2.2.1.fs hne
            obtain ⟨rfl, rfl⟩ : kb = kb' ∧ ko = ko' := by rw [ha] at e'; simpa using e'
            have p0 := hB2.box.cell 0 rfl
            have p1 := hB2.box.cell 1 rfl
            obtain ⟨-, -, -, -, -, -, d6⟩ := hB2.at_.2.1.seven
            rw [ha] at d6
            have hso : sound (Ft.pl e.t.kids[j]) := by
              have hs := hB2.at_.2.2.2
              rw [pl_eta3] at hs
              exact sound_kid hs (List.mem_map_of_mem (by simp))
            have HX : Hid (kb < mb ∧ AtP wr kb (ko + j * 7) e.t.kids[j] ∧ In (fun k => k < mb) wr e.t.kids[j] ∧ sound (Ft.pl e.t.kids[j])) := ⟨hkb, hc j _ (by simp [hlt]), hB2.at_.2.2.1.kid (by simp), hso⟩
            have hgk := kn_get e.t.kids kb ko ab j e.t.kids[j] (by simp [hlt])
            have HTK : Hid (S0 ++ (kn kb ko ab e.t.kids).take (j + 1) = S0 ++ (kn kb ko ab e.t.kids).take j ++ [⟨kb, ko + j * 7, ab, e.t.kids[j]⟩]) := Go.Lib.hid (by rw [List.take_add_one, hgk]; simp)
            have HTL : Hid ((S0 ++ (kn kb ko ab e.t.kids).take j).length ≤ 2000) := Go.Lib.hid (by
              rw [List.length_append, List.length_take, kn_len]
              have := HKZ.out.2
              omega)
            have HB2 := Go.Lib.hid hB2
            clear hB2 hc e' hso hgk hkb ha
            generalize e.t.kids[j] = kk at *
            generalize S0 ++ (kn kb ko ab e.t.kids).take j = T at *
            have HRW : Hid ((wr.drew.alloc (.cells #[.pointer (some ⟨kb, ko + j * 7, none⟩), .int .i64 (ab : Int)] 101)).ownsRow w2.heap.size 101 2 lv2 T.length (T.flatMap Pn.cells)) := Go.Lib.hid (row_keep HB2.out.ns.row (((Alters.refl (p := fun _ => False) wr).drew).alloc _) (by simp))
            have HNW : Hid (∀ j2 u, (Pn.cells ⟨kb, ko + j * 7, ab, kk⟩)[j2]? = some u → (wr.drew.alloc (.cells #[.pointer (some ⟨kb, ko + j * 7, none⟩), .int .i64 (ab : Int)] 101)).cell? ((⟨wr.heap.size, 0, none⟩ : Addr).add j2) = some u) := World.news_of_block (Blk.new wr.drew _ 101)
            have HBG : Hid (w2.heap.size ≤ (wr.drew.alloc (.cells #[.pointer (some ⟨kb, ko + j * 7, none⟩), .int .i64 (ab : Int)] 101)).heap.size) := Go.Lib.hid (by have := HB2.out.ns.quiet.size; simp; omega)
            have HLT := Go.Lib.hid hlt
            have hjm : j ≤ 1000 := by have := HKZ.out.2; omega
            have htl := HTL.out
            go_upto_region 14 with (fail)
            go_region_law ((refine step_append_lies (w := wr.drew.alloc (.cells #[.pointer (some ⟨kb, ko + j * 7, none⟩), .int .i64 (ab : Int)] 101)) rfl (.tmp 48) (.tmp 59) 102 rfl w2.heap.size 101 i101 _ 2 16 Tryd.underlying102 hi0 hz0 hz1 hz2 rfl (by decide) lv2 T.length (T.flatMap Pn.cells) (by simp [Act.eval]) HRW.out ⟨wr.heap.size, 0, none⟩ 1 1 (Pn.cells ⟨kb, ko + j * 7, ab, kk⟩) (by simp [Act.eval]) rfl HNW.out (by intro u hu; simp [Pn.cells] at hu; rcases hu with rfl | rfl <;> rfl) (by decide) (by unfold maxLen; omega) (by omega) HBG.out (wr.heap.size + 1) (by simp) ?_; intro g9 cp9 w9 hown hgrow hat hlt4; have HN9 := Go.Lib.hid (HB2.out.push HX.out hown hgrow hat); clear hown hgrow hat hlt4))
            all_goals
              clear p0 p1 d6 HRW HNW HBG HB2 HX
              go_wp2_with fail
              go_roundw
              case rel => exact ⟨j + 1, by have := HLT.out; omega, by go_num, by rw [HTK.out]; exact HN9.out⟩
              case measure => have := HLT.out; simp [intOf]; omega
          · obtain rfl : j = e.t.kids.length := by omega
            have HB2 : Hid (PlBox w2 mb lv2 (S0 ++ kn kb ko ab e.t.kids) pb e ab wr) := Go.Lib.hid (by
              have := hB2
              rwa [List.take_of_length_le (by rw [kn_len]; exact Nat.le_refl _)] at this)
            clear hB2
            go_wp2_with fail
            go_roundg (wtl (S0 ++ kn kb ko ab e.t.kids))
            case measure => have := HKZ.out; rw [wtl_append, wtl_kn]; omega
            case rel => exact ⟨m2, _, Nat.le_refl _, by have := HKZ.out; have := HKK.out; rw [wtl_append, wtl_kn]; omega, rfl, by have h1 := HKEY2.out; have h2 := mxl_kn e.t.kids kb ko ab; have h3 := HABX.out; rw [mxl_append]; omega, fun x hx => by
              have h3 := HABX.out
              rcases List.mem_append.1 hx with hx | hx
              · have := HAB.out x hx; omega
              · have := (kn_mem _ _ _ _ _ hx).1; omega, HB2.out.ns⟩

      · have h9 : 9 ≤ e.t.top.n.op := hsp
        have HSP := Go.Lib.hid (spans83_walk e.t w5 true h12 ⟨fun _ => h9, fun _ => rfl⟩)
        have HKEY : Hid (max mm (max (mxl S0) ((e.ab + 1) + nestL e.t.kids)) = N) := Go.Lib.hid (by
          have h1 := HN.out
          have h2 : nestN e.t = nestL e.t.kids + 1 := by rw [nestN_top, if_pos h9]
          have h3 := HE.out
          rw [h2] at h1
          omega)
        clear h9 hsp h12
        unfold Ft.val at HSP
        go_wp2_with fail
        refine HSP.out.mono ?_
        rintro e2 w6 ⟨rfl, q6⟩
        replace HB := Go.Lib.hid (HB.out.quiet q6)
        clear HSP q6 d0 d1 d2 d3 d4 d5 d6 p0 p1
        have p0 := HB.out.box.cell 0 rfl
        have p1 := HB.out.box.cell 1 rfl
        have fb := fun i => HB.out.box.free i
        have hea : e.ab ≤ 1000 := by have := HKEY.out; omega
        have dmx : ¬ (mm : Int) < (e.ab : Int) + 1 := by omega
        have dm2 : ¬ (mm : Int) ≤ (e.ab : Int) := by omega
        have dm3 : ¬ mm ≤ e.ab := by omega
        have dm4 : ¬ mm < e.ab + 1 := by omega
        have HMX := Go.Lib.hid hmx
        clear hmx
        go_upto_region 11 with (fail)
        have HB6 : Hid (PlBox w2 mb (.slice (some ⟨g, 0, none⟩) S0.length cap) S0 pb e (e.ab + 1) (w6.setCell ⟨pb, 1, none⟩ (.int .i64 ((e.ab : Int) + 1)))) := Go.Lib.hid (by have := HB.out.set (e.ab + 1); simpa using this)
        clear p0 p1 fb HB dmx dm2 dm3 dm4
        have HB := HB6
        clear HB6
        generalize World.setCell w6 _ _ = w7 at *
        obtain ⟨ab, hab2⟩ : ∃ n : Nat, n = (e.ab + 1) := ⟨_, rfl⟩
        rw [← hab2] at HB HKEY
        obtain ⟨m2, hm2⟩ : ∃ n : Nat, n = mm := ⟨_, rfl⟩
        rw [← hm2] at HKEY
        have HKEY2 : Hid (max m2 (max (mxl S0) (ab + nestL e.t.kids)) = N) := Go.Lib.hid (by have := HKEY.out; omega)
        have HABX : Hid (ab ≤ m2 ∧ ab ≤ 1000 ∧ m2 ≤ 1000 ∧ mm ≤ m2) := Go.Lib.hid (by have := HKEY2.out; have := HE.out; have := HMX.out; omega)
        clear HKEY
        rw [show (mm : Int) = (m2 : Int) by omega]
        clear hab2 hm2
        obtain ⟨kb, ko, hko⟩ : ∃ kb ko, e.t.kids ≠ [] → e.t.top.a = some ⟨kb, ko, none⟩ ∧ kb < mb ∧ ∀ i x, e.t.kids[i]? = some x → AtP w7 kb (ko + i * 7) x := by
          by_cases hne : e.t.kids = []
          · exact ⟨0, 0, fun h => absurd hne h⟩
          · obtain ⟨kb, ko, e1, hD, hc⟩ := HB.out.at_.2.2.1.fs hne
            exact ⟨kb, ko, fun _ => ⟨e1, hD, hc⟩⟩
        have HKO := Go.Lib.hid hko
        have p0 := HB.out.box.cell 0 rfl
        have p1 := HB.out.box.cell 1 rfl
        obtain ⟨-, -, -, -, -, -, d6⟩ := HB.out.at_.2.1.seven
        clear hko
        go_wp2_with fail
        generalize Value.slice (some ⟨g, 0, none⟩) S0.length cap = wv0 at *
        clear p0 p1 d6
        have HKZ : Hid (wtl S0 + (1 + Tr.sizeL e.t.kids) ≤ gk ∧ e.t.kids.length ≤ 1000) := Go.Lib.hid (by
          have h1 : e.t.size = 1 + Tr.sizeL e.t.kids := by cases e.t; rfl
          have h2 := HWK.out
          have h3 := HKK.out
          have h4 := Tr.kids_le e.t.kids
          omega)
        clear HWK HN HE HEZ hbg
        go_loopw [4, 45] (fun v i wr => ∃ j : Nat, j ≤ e.t.kids.length ∧ i = .int .i64 (j : Int) ∧ PlBox w2 mb v (S0 ++ (kn kb ko ab e.t.kids).take j) pb e ab wr) (fun _ i _ => e.t.kids.length - (intOf i).toNat)
        case atStart => exact ⟨0, Nat.zero_le _, rfl, by simpa using HB.out⟩
        case round =>
          clear HB
          obtain ⟨j, hj, rfl, hB2⟩ := hrel
          generalize u4 = lv2 at *
          by_cases hlt : j < e.t.kids.length
          · have hne : e.t.kids ≠ [] := fun h => by rw [h] at hlt; simp at hlt
            obtain ⟨ha, hkb, -⟩ := HKO.out hne
            obtain ⟨kb', ko', e', -, hc⟩ := hB2.at_.2.2.1.fs hne
            obtain ⟨rfl, rfl⟩ : kb = kb' ∧ ko = ko' := by rw [ha] at e'; simpa using e'
            have p0 := hB2.box.cell 0 rfl
            have p1 := hB2.box.cell 1 rfl
            obtain ⟨-, -, -, -, -, -, d6⟩ := hB2.at_.2.1.seven
            rw [ha] at d6
            have hso : sound (Ft.pl e.t.kids[j]) := by
              have hs := hB2.at_.2.2.2
              rw [pl_eta3] at hs
              exact sound_kid hs (List.mem_map_of_mem (by simp))
            have HX : Hid (kb < mb ∧ AtP wr kb (ko + j * 7) e.t.kids[j] ∧ In (fun k => k < mb) wr e.t.kids[j] ∧ sound (Ft.pl e.t.kids[j])) := ⟨hkb, hc j _ (by simp [hlt]), hB2.at_.2.2.1.kid (by simp), hso⟩
            have hgk := kn_get e.t.kids kb ko ab j e.t.kids[j] (by simp [hlt])
            have HTK : Hid (S0 ++ (kn kb ko ab e.t.kids).take (j + 1) = S0 ++ (kn kb ko ab e.t.kids).take j ++ [⟨kb, ko + j * 7, ab, e.t.kids[j]⟩]) := Go.Lib.hid (by rw [List.take_add_one, hgk]; simp)
            have HTL : Hid ((S0 ++ (kn kb ko ab e.t.kids).take j).length ≤ 2000) := Go.Lib.hid (by
              rw [List.length_append, List.length_take, kn_len]
              have := HKZ.out.2
              omega)
            have HB2 := Go.Lib.hid hB2
            clear hB2 hc e' hso hgk hkb ha
            generalize e.t.kids[j] = kk at *
            generalize S0 ++ (kn kb ko ab e.t.kids).take j = T at *
            have HRW : Hid ((wr.drew.alloc (.cells #[.pointer (some ⟨kb, ko + j * 7, none⟩), .int .i64 (ab : Int)] 101)).ownsRow w2.heap.size 101 2 lv2 T.length (T.flatMap Pn.cells)) := Go.Lib.hid (row_keep HB2.out.ns.row (((Alters.refl (p := fun _ => False) wr).drew).alloc _) (by simp))
            have HNW : Hid (∀ j2 u, (Pn.cells ⟨kb, ko + j * 7, ab, kk⟩)[j2]? = some u → (wr.drew.alloc (.cells #[.pointer (some ⟨kb, ko + j * 7, none⟩), .int .i64 (ab : Int)] 101)).cell? ((⟨wr.heap.size, 0, none⟩ : Addr).add j2) = some u) := World.news_of_block (Blk.new wr.drew _ 101)
            have HBG : Hid (w2.heap.size ≤ (wr.drew.alloc (.cells #[.pointer (some ⟨kb, ko + j * 7, none⟩), .int .i64 (ab : Int)] 101)).heap.size) := Go.Lib.hid (by have := HB2.out.ns.quiet.size; simp; omega)
            have HLT := Go.Lib.hid hlt
            have hjm : j ≤ 1000 := by have := HKZ.out.2; omega
            have htl := HTL.out
            go_upto_region 14 with (fail)
            go_region_law ((refine step_append_lies (w := wr.drew.alloc (.cells #[.pointer (some ⟨kb, ko + j * 7, none⟩), .int .i64 (ab : Int)] 101)) rfl (.tmp 48) (.tmp 59) 102 rfl w2.heap.size 101 i101 _ 2 16 Tryd.underlying102 hi0 hz0 hz1 hz2 rfl (by decide) lv2 T.length (T.flatMap Pn.cells) (by simp [Act.eval]) HRW.out ⟨wr.heap.size, 0, none⟩ 1 1 (Pn.cells ⟨kb, ko + j * 7, ab, kk⟩) (by simp [Act.eval]) rfl HNW.out (by intro u hu; simp [Pn.cells] at hu; rcases hu with rfl | rfl <;> rfl) (by decide) (by unfold maxLen; omega) (by omega) HBG.out (wr.heap.size + 1) (by simp) ?_; intro g9 cp9 w9 hown hgrow hat hlt4; have HN9 := Go.Lib.hid (HB2.out.push HX.out hown hgrow hat); clear hown hgrow hat hlt4))
            all_goals
              clear p0 p1 d6 HRW HNW HBG HB2 HX
              go_wp2_with fail
              go_roundw
              case rel => exact ⟨j + 1, by have := HLT.out; omega, by go_num, by rw [HTK.out]; exact HN9.out⟩
              case measure => have := HLT.out; simp [intOf]; omega
          · obtain rfl : j = e.t.kids.length := by omega
            have HB2 : Hid (PlBox w2 mb lv2 (S0 ++ kn kb ko ab e.t.kids) pb e ab wr) := Go.Lib.hid (by
              have := hB2
              rwa [List.take_of_length_le (by rw [kn_len]; exact Nat.le_refl _)] at this)
            clear hB2
            go_wp2_with fail
            go_roundg (wtl (S0 ++ kn kb ko ab e.t.kids))
            case measure => have := HKZ.out; rw [wtl_append, wtl_kn]; omega
            case rel => exact ⟨m2, _, Nat.le_refl _, by have := HKZ.out; have := HKK.out; rw [wtl_append, wtl_kn]; omega, rfl, by have h1 := HKEY2.out; have h2 := mxl_kn e.t.kids kb ko ab; have h3 := HABX.out; rw [mxl_append]; omega, fun x hx => by
              have h3 := HABX.out
              rcases List.mem_append.1 hx with hx | hx
              · have := HAB.out x hx; omega
              · have := (kn_mem _ _ _ _ _ hx).1; omega, HB2.out.ns⟩

    · have h9 : ¬ 9 ≤ e.t.top.n.op := hsp
      have HSP := Go.Lib.hid (spans83_walk e.t w5 false h12 ⟨fun h => Bool.noConfusion h, fun h => absurd h h9⟩)
      have HKEY : Hid (max mm (max (mxl S0) (e.ab + nestL e.t.kids)) = N) := Go.Lib.hid (by
        have h1 := HN.out
        have h2 : nestN e.t = nestL e.t.kids := by rw [nestN_top, if_neg h9]
        have h3 := HE.out
        rw [h2] at h1
        omega)
      clear h9 hsp h12
      unfold Ft.val at HSP
      go_wp2_with fail
      refine HSP.out.mono ?_
      rintro e2 w6 ⟨rfl, q6⟩
      replace HB := Go.Lib.hid (HB.out.quiet q6)
      clear HSP q6 d0 d1 d2 d3 d4 d5 d6 p0 p1
      go_upto_region 11 with (fail)
      generalize w6 = w7 at *
      obtain ⟨ab, hab2⟩ : ∃ n : Nat, n = e.ab := ⟨_, rfl⟩
      rw [← hab2] at HB HKEY
      obtain ⟨m2, hm2⟩ : ∃ n : Nat, n = mm := ⟨_, rfl⟩
      rw [← hm2] at HKEY
      have HKEY2 : Hid (max m2 (max (mxl S0) (ab + nestL e.t.kids)) = N) := Go.Lib.hid (by have := HKEY.out; omega)
      have HABX : Hid (ab ≤ m2 ∧ ab ≤ 1000 ∧ m2 ≤ 1000 ∧ mm ≤ m2) := Go.Lib.hid (by have := HKEY2.out; have := HE.out; omega)
      clear HKEY
      rw [show (mm : Int) = (m2 : Int) by omega]
      clear hab2 hm2
      obtain ⟨kb, ko, hko⟩ : ∃ kb ko, e.t.kids ≠ [] → e.t.top.a = some ⟨kb, ko, none⟩ ∧ kb < mb ∧ ∀ i x, e.t.kids[i]? = some x → AtP w7 kb (ko + i * 7) x := by
        by_cases hne : e.t.kids = []
        · exact ⟨0, 0, fun h => absurd hne h⟩
        · obtain ⟨kb, ko, e1, hD, hc⟩ := HB.out.at_.2.2.1.fs hne
          exact ⟨kb, ko, fun _ => ⟨e1, hD, hc⟩⟩
      have HKO := Go.Lib.hid hko
      have p0 := HB.out.box.cell 0 rfl
      have p1 := HB.out.box.cell 1 rfl
      obtain ⟨-, -, -, -, -, -, d6⟩ := HB.out.at_.2.1.seven
      clear hko
      go_wp2_with fail
      generalize Value.slice (some ⟨g, 0, none⟩) S0.length cap = wv0 at *
      clear p0 p1 d6
      have HKZ : Hid (wtl S0 + (1 + Tr.sizeL e.t.kids) ≤ gk ∧ e.t.kids.length ≤ 1000) := Go.Lib.hid (by
        have h1 : e.t.size = 1 + Tr.sizeL e.t.kids := by cases e.t; rfl
        have h2 := HWK.out
        have h3 := HKK.out
        have h4 := Tr.kids_le e.t.kids
        omega)
      clear HWK HN HE HEZ hbg
      go_loopw [4, 45] (fun v i wr => ∃ j : Nat, j ≤ e.t.kids.length ∧ i = .int .i64 (j : Int) ∧ PlBox w2 mb v (S0 ++ (kn kb ko ab e.t.kids).take j) pb e ab wr) (fun _ i _ => e.t.kids.length - (intOf i).toNat)
      case atStart => exact ⟨0, Nat.zero_le _, rfl, by simpa using HB.out⟩
      case round =>
        clear HB
        obtain ⟨j, hj, rfl, hB2⟩ := hrel
        generalize u4 = lv2 at *
        by_cases hlt : j < e.t.kids.length
        · have hne : e.t.kids ≠ [] := fun h => by rw [h] at hlt; simp at hlt
          obtain ⟨ha, hkb, -⟩ := HKO.out hne
          obtain ⟨kb', ko', e', -, hc⟩ := hB2.at_.2.2.1.fs hne
          obtain ⟨rfl, rfl⟩ : kb = kb' ∧ ko = ko' := by rw [ha] at e'; simpa using e'
          have p0 := hB2.box.cell 0 rfl
          have p1 := hB2.box.cell 1 rfl
          obtain ⟨-, -, -, -, -, -, d6⟩ := hB2.at_.2.1.seven
          rw [ha] at d6
          have hso : sound (Ft.pl e.t.kids[j]) := by
            have hs := hB2.at_.2.2.2
            rw [pl_eta3] at hs
            exact sound_kid hs (List.mem_map_of_mem (by simp))
          have HX : Hid (kb < mb ∧ AtP wr kb (ko + j * 7) e.t.kids[j] ∧ In (fun k => k < mb) wr e.t.kids[j] ∧ sound (Ft.pl e.t.kids[j])) := ⟨hkb, hc j _ (by simp [hlt]), hB2.at_.2.2.1.kid (by simp), hso⟩
          have hgk := kn_get e.t.kids kb ko ab j e.t.kids[j] (by simp [hlt])
          have HTK : Hid (S0 ++ (kn kb ko ab e.t.kids).take (j + 1) = S0 ++ (kn kb ko ab e.t.kids).take j ++ [⟨kb, ko + j * 7, ab, e.t.kids[j]⟩]) := Go.Lib.hid (by rw [List.take_add_one, hgk]; simp)
          have HTL : Hid ((S0 ++ (kn kb ko ab e.t.kids).take j).length ≤ 2000) := Go.Lib.hid (by
            rw [List.length_append, List.length_take, kn_len]
            have := HKZ.out.2
            omega)
          have HB2 := Go.Lib.hid hB2
          clear hB2 hc e' hso hgk hkb ha
          generalize e.t.kids[j] = kk at *
          generalize S0 ++ (kn kb ko ab e.t.kids).take j = T at *
          have HRW : Hid ((wr.drew.alloc (.cells #[.pointer (some ⟨kb, ko + j * 7, none⟩), .int .i64 (ab : Int)] 101)).ownsRow w2.heap.size 101 2 lv2 T.length (T.flatMap Pn.cells)) := Go.Lib.hid (row_keep HB2.out.ns.row (((Alters.refl (p := fun _ => False) wr).drew).alloc _) (by simp))
          have HNW : Hid (∀ j2 u, (Pn.cells ⟨kb, ko + j * 7, ab, kk⟩)[j2]? = some u → (wr.drew.alloc (.cells #[.pointer (some ⟨kb, ko + j * 7, none⟩), .int .i64 (ab : Int)] 101)).cell? ((⟨wr.heap.size, 0, none⟩ : Addr).add j2) = some u) := World.news_of_block (Blk.new wr.drew _ 101)
          have HBG : Hid (w2.heap.size ≤ (wr.drew.alloc (.cells #[.pointer (some ⟨kb, ko + j * 7, none⟩), .int .i64 (ab : Int)] 101)).heap.size) := Go.Lib.hid (by have := HB2.out.ns.quiet.size; simp; omega)
          have HLT := Go.Lib.hid hlt
          have hjm : j ≤ 1000 := by have := HKZ.out.2; omega
          have htl := HTL.out
          go_upto_region 14 with (fail)
          go_region_law ((refine step_append_lies (w := wr.drew.alloc (.cells #[.pointer (some ⟨kb, ko + j * 7, none⟩), .int .i64 (ab : Int)] 101)) rfl (.tmp 48) (.tmp 59) 102 rfl w2.heap.size 101 i101 _ 2 16 Tryd.underlying102 hi0 hz0 hz1 hz2 rfl (by decide) lv2 T.length (T.flatMap Pn.cells) (by simp [Act.eval]) HRW.out ⟨wr.heap.size, 0, none⟩ 1 1 (Pn.cells ⟨kb, ko + j * 7, ab, kk⟩) (by simp [Act.eval]) rfl HNW.out (by intro u hu; simp [Pn.cells] at hu; rcases hu with rfl | rfl <;> rfl) (by decide) (by unfold maxLen; omega) (by omega) HBG.out (wr.heap.size + 1) (by simp) ?_; intro g9 cp9 w9 hown hgrow hat hlt4; have HN9 := Go.Lib.hid (HB2.out.push HX.out hown hgrow hat); clear hown hgrow hat hlt4))
          all_goals
            clear p0 p1 d6 HRW HNW HBG HB2 HX
            go_wp2_with fail
            go_roundw
            case rel => exact ⟨j + 1, by have := HLT.out; omega, by go_num, by rw [HTK.out]; exact HN9.out⟩
            case measure => have := HLT.out; simp [intOf]; omega
        · obtain rfl : j = e.t.kids.length := by omega
          have HB2 : Hid (PlBox w2 mb lv2 (S0 ++ kn kb ko ab e.t.kids) pb e ab wr) := Go.Lib.hid (by
            have := hB2
            rwa [List.take_of_length_le (by rw [kn_len]; exact Nat.le_refl _)] at this)
          clear hB2
          go_wp2_with fail
          go_roundg (wtl (S0 ++ kn kb ko ab e.t.kids))
          case measure => have := HKZ.out; rw [wtl_append, wtl_kn]; omega
          case rel => exact ⟨m2, _, Nat.le_refl _, by have := HKZ.out; have := HKK.out; rw [wtl_append, wtl_kn]; omega, rfl, by have h1 := HKEY2.out; have h2 := mxl_kn e.t.kids kb ko ab; have h3 := HABX.out; rw [mxl_append]; omega, fun x hx => by
            have h3 := HABX.out
            rcases List.mem_append.1 hx with hx | hx
            · have := HAB.out x hx; omega
            · have := (kn_mem _ _ _ _ _ hx).1; omega, HB2.out.ns⟩
end Go.Proofs.YtnpcakakjhiboaaDoor
