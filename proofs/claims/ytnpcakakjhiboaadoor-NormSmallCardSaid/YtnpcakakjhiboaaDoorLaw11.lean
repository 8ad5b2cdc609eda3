/- Law 11's own maker and its example: horizons, names, how deep spans are nested. No condition. -/
import Derived.Test.YtnpcakakjhiboaaDoorOf44
import Derived.Test.YtnpcakakjhiboaaDoorNest42
import Derived.Test.YtnpcakakjhiboaaDoorNames43
import Derived.Test.YtnpcakakjhiboaaDoorLawAt
import Derived.Test.YtnpcakakjhiboaaDoorNfP
namespace Go.Proofs.YtnpcakakjhiboaaDoor
open Go Go.RowKit Go.Lo Go.WideShapes

theorem num_of11 {t : Ft} (h : ∀ n, n ∈ t.pre → n.top.n.wf) : allNum (Ft.pl t) := fun n hn => by
  have e : (Ft.pl t).pre = t.pre.map Ft.pl := Tr.map_pre Hd.n t
  rw [e] at hn
  obtain ⟨m, hm, rfl⟩ := List.mem_map.1 hn
  obtain ⟨-, -, h1, h2, h3, -⟩ := h m hm
  rw [pl_op]
  exact ⟨h1, h2, h3⟩

theorem left_size11 {t : Ft} {n : Int} (h : ¬ leftF (Ft.pl t) n ≤ 0) : (t.size : Int) ≤ n := by
  have := ((leftF_range (Ft.pl t) n).2.2 (by omega)).1
  rw [show (Ft.pl t).size = t.size from Tr.map_size _ _] at this
  omega

set_option maxRecDepth 100000 in
set_option maxHeartbeats 2000000 in
theorem ev_v {D : Nat → Prop} {f : Fm} {v : Value} {w : World} (lo hi : Int) (hD : ∀ k, w.heap.size ≤ k → D k) (h : MadeIn D f v w) : Calls Tryd.prog 69 #[.agg #[.int .i64 lo, .int .i64 hi], v] w (Gives D (exOne 9 lo hi f) w) := by
  obtain ⟨X, rfl, hp, hi'⟩ := h
  have HX := Go.Lib.hid hi'
  unfold Ft.val
  go_enter Tryd.func69, Tryd.ntmps69
  go_wp2
  have hk : Blk ((((w.alloc (.cells #[.int .i64 lo, .int .i64 hi] 25)).alloc (.cells #[.int .i64 X.top.n.op, .string X.top.n.nm, .int .i64 X.top.n.cmp, .int .i64 X.top.n.val, .int .i64 X.top.n.lo, .int .i64 X.top.n.hi, .slice X.top.a X.kids.length X.top.cap] 28)).alloc (.cells #[.int .i64 9, .string ⟨#[]⟩, .int .i64 0, .int .i64 0, .int .i64 lo, .int .i64 hi, .slice (some ⟨w.heap.size + 1 + 1 + 1, 0, none⟩) 1 1] 28)).alloc (.cells #[.int .i64 X.top.n.op, .string X.top.n.nm, .int .i64 X.top.n.cmp, .int .i64 X.top.n.val, .int .i64 X.top.n.lo, .int .i64 X.top.n.hi, .slice X.top.a X.kids.length X.top.cap] 28)) (w.heap.size + 1 + 1 + 1) ([X].flatMap Ft.cells).toArray 28 := alloc4 _ _ _ _ _ _
  have hq : Quiet w ((((w.alloc (.cells #[.int .i64 lo, .int .i64 hi] 25)).alloc (.cells #[.int .i64 X.top.n.op, .string X.top.n.nm, .int .i64 X.top.n.cmp, .int .i64 X.top.n.val, .int .i64 X.top.n.lo, .int .i64 X.top.n.hi, .slice X.top.a X.kids.length X.top.cap] 28)).alloc (.cells #[.int .i64 9, .string ⟨#[]⟩, .int .i64 0, .int .i64 0, .int .i64 lo, .int .i64 hi, .slice (some ⟨w.heap.size + 1 + 1 + 1, 0, none⟩) 1 1] 28)).alloc (.cells #[.int .i64 X.top.n.op, .string X.top.n.nm, .int .i64 X.top.n.cmp, .int .i64 X.top.n.val, .int .i64 X.top.n.lo, .int .i64 X.top.n.hi, .slice X.top.a X.kids.length X.top.cap] 28)) := ((((Alters.refl _).alloc _).alloc _).alloc _).alloc _
  have hin := In.made (n := { z0 with op := 9, lo := lo, hi := hi }) (c := 1) (T := [X]) hk (by simp [maxLen]) (fun t ht => by
    obtain rfl : t = X := by simpa using ht
    exact HX.out) hq (by omega)
  exact bodyPost_ret (v := Ft.val (.nd ⟨{ z0 with op := 9, lo := lo, hi := hi }, some ⟨w.heap.size + 1 + 1 + 1, 0, none⟩, 1⟩ [X])) (by simp [results, Tryd.results69, go_sem, Ft.val, Tr.top, Tr.kids, z0]) rfl ⟨_, rfl, ⟨_, rfl, by rw [pl_nd, ← hp]; rfl, hin.mono (fun k _ h => h.elim (fun h => h) (fun h => hD k h))⟩, hq⟩

/-- horizon.Of of a formula that was made. -/
theorem of_of {w : World} {t : Ft} {f : Fm} {h e : Int} (hp : Ft.pl t = f) (hi : In AllD w t) (hS : Shapes w) (hsz : f.size ≤ 1000) (hn : allNum f) (hL : horOf f = (h, e)) :
    Calls Tryd.prog 44 #[t.val] w (Said (.tuple #[.int .i64 h, .int .i64 e]) w) := by
  subst hp
  have := of44_walk AllD t w hi hS (by rw [pl_size] at hsz; exact hsz) hn
  rwa [hL] at this

theorem names_of {w : World} {t : Ft} {f : Fm} {L : List Nm} (hp : Ft.pl t = f) (hi : In AllD w t) (hS : Shapes w) (hsz : f.size ≤ 1000) (hL : namesOf f = L) : Calls Tryd.prog 43 #[t.val] w (GivesNames L w) := by
  subst hp hL
  exact names43_walk AllD t w hi hS (by rw [pl_size] at hsz; exact hsz)

theorem nest_of {w : World} {t : Ft} {f : Fm} {n : Int} (hp : Ft.pl t = f) (hi : In AllD w t) (hS : Shapes w) (hsz : f.size ≤ 1000) (hL : nestOf f = n) : Calls Tryd.prog 42 #[t.val] w (Said (.int .i64 n) w) := by
  subst hp hL
  exact nested42_walk AllD t w hi hS (by rw [pl_size] at hsz; exact hsz)

def exF11 : Fm := exOne 9 0 3 (exTwo 11 1 4 (exName 98) (exName 97))
theorem ex_hor : horOf exF11 = (7, 0) := by kernel_rfl
theorem ex_hor2 : horOf (exOne 9 0 9223372036854775807 exF11) = (0, 25) := by kernel_rfl
theorem ex_names : namesOf exF11 = [[97], [98]] := by kernel_rfl
theorem ex_nest : nestOf exF11 = 2 := by kernel_rfl
theorem ex_size : exF11.size ≤ 1000 := by decide
theorem ex_size2 : (exOne 9 0 9223372036854775807 exF11).size ≤ 1000 := by decide
theorem i64_nat (n : Int) (h : 0 ≤ n) (h2 : n ≤ 9223372036854775807) : I64 n := by unfold I64; omega
theorem an_exName (b : UInt8) : allNum (exName b) := allNum_nd.2 ⟨⟨i64_0, i64_0, i64_0⟩, by simp⟩
theorem an_exOne {op lo hi : Int} {f : Fm} (hl : I64 lo) (hh : I64 hi) (h : allNum f) : allNum (exOne op lo hi f) := allNum_nd.2 ⟨⟨i64_0, hl, hh⟩, by simpa using h⟩
theorem an_exTwo {op lo hi : Int} {f g : Fm} (hl : I64 lo) (hh : I64 hi) (h : allNum f) (h' : allNum g) : allNum (exTwo op lo hi f g) := allNum_nd.2 ⟨⟨i64_0, hl, hh⟩, by simp [h, h']⟩
theorem an_ex : allNum exF11 := an_exOne (i64_nat 0 (by decide) (by decide)) (i64_nat 3 (by decide) (by decide)) (an_exTwo (i64_nat 1 (by decide) (by decide)) (i64_nat 4 (by decide) (by decide)) (an_exName _) (an_exName _))
theorem an_ex2 : allNum (exOne 9 0 9223372036854775807 exF11) := an_exOne (i64_nat 0 (by decide) (by decide)) (i64_nat 9223372036854775807 (by decide) (by decide)) an_ex

def nmT (b : UInt8) : Ft := .nd ⟨{ z0 with op := 3, nm := ⟨#[b]⟩ }, none, 0⟩ []
theorem nmT_in (D : Nat → Prop) (w : World) (b : UInt8) : In D w (nmT b) := In.leaf _ _ _
theorem nmT_pl (b : UInt8) : Ft.pl (nmT b) = exName b := pl_nd _ _ _ _

set_option maxRecDepth 100000 in
set_option maxHeartbeats 4000000 in
theorem awake63_walk (w : World) (hS : Shapes w) : Calls Tryd.prog 63 #[] w (Said (.bool true) w) := by
  have HSH := Go.Lib.hid hS
  clear hS
  go_enter Tryd.func63, Tryd.ntmps63
  go_upto_region 3 with (fail)
  have HQ : Hid (Quiet w ((w.alloc (.cells #[.int .i64 3, .string ⟨#[97]⟩, .int .i64 0, .int .i64 0, .int .i64 0, .int .i64 0, .slice none 0 0] 28)).alloc (.cells #[.int .i64 3, .string ⟨#[98]⟩, .int .i64 0, .int .i64 0, .int .i64 0, .int .i64 0, .slice none 0 0] 28))) := ((Alters.refl _).alloc _).alloc _
  have B0 : Blk ((w.alloc (.cells #[.int .i64 3, .string ⟨#[97]⟩, .int .i64 0, .int .i64 0, .int .i64 0, .int .i64 0, .slice none 0 0] 28)).alloc (.cells #[.int .i64 3, .string ⟨#[98]⟩, .int .i64 0, .int .i64 0, .int .i64 0, .int .i64 0, .slice none 0 0] 28)) w.heap.size #[.int .i64 3, .string ⟨#[97]⟩, .int .i64 0, .int .i64 0, .int .i64 0, .int .i64 0, .slice none 0 0] 28 := (Blk.new _ _ _).alloc _
  have B1 : Blk ((w.alloc (.cells #[.int .i64 3, .string ⟨#[97]⟩, .int .i64 0, .int .i64 0, .int .i64 0, .int .i64 0, .slice none 0 0] 28)).alloc (.cells #[.int .i64 3, .string ⟨#[98]⟩, .int .i64 0, .int .i64 0, .int .i64 0, .int .i64 0, .slice none 0 0] 28)) (w.heap.size + 1) #[.int .i64 3, .string ⟨#[98]⟩, .int .i64 0, .int .i64 0, .int .i64 0, .int .i64 0, .slice none 0 0] 28 := alloc2 _ _ _ _
  obtain ⟨a0, a1, a2, a3, a4, a5, a6⟩ := seven_cells B0
  obtain ⟨b0, b1, b2, b3, b4, b5, b6⟩ := seven_cells B1
  clear B0 B1
  generalize (w.alloc _).alloc _ = w1 at *
  have HM : Hid (MadeIn AllD (exTwo 11 1 4 (exName 98) (exName 97)) (.agg #[.int .i64 11, .string ⟨#[]⟩, .int .i64 0, .int .i64 0, .int .i64 1, .int .i64 4, .slice (some ⟨w1.heap.size, 0, none⟩) 2 2]) (w1.alloc (.cells #[.int .i64 3, .string ⟨#[98]⟩, .int .i64 0, .int .i64 0, .int .i64 0, .int .i64 0, .slice none 0 0, .int .i64 3, .string ⟨#[97]⟩, .int .i64 0, .int .i64 0, .int .i64 0, .int .i64 0, .slice none 0 0] 28))) := by
    refine ⟨.nd ⟨{ z0 with op := 11, lo := 1, hi := 4 }, some ⟨w1.heap.size, 0, none⟩, 2⟩ [nmT 98, nmT 97], rfl, by rw [pl_nd, List.map_cons, List.map_cons, nmT_pl, nmT_pl]; rfl, ?_⟩
    exact (In.made (n := { z0 with op := 11, lo := 1, hi := 4 }) (D := AllD) (w := w1) (c := 2) (T := [nmT 98, nmT 97]) (ty := 28) (b := w1.heap.size) (Blk.new w1 _ 28) (by simp [maxLen]) (fun t ht => by
      simp only [List.mem_cons, List.not_mem_nil, or_false] at ht
      rcases ht with rfl | rfl <;> exact nmT_in _ _ _) ((Alters.refl _).alloc _) (Nat.le_refl _)).mono (fun _ _ _ => trivial)
  have HEV := Go.Lib.hid (ev_v (D := AllD) 0 3 allD HM.out)
  replace HQ := Go.Lib.hid (HQ.out.alloc (.cells #[.int .i64 3, .string ⟨#[98]⟩, .int .i64 0, .int .i64 0, .int .i64 0, .int .i64 0, .slice none 0 0, .int .i64 3, .string ⟨#[97]⟩, .int .i64 0, .int .i64 0, .int .i64 0, .int .i64 0, .slice none 0 0] 28))
  go_wp2_with fail
  refine HEV.out.mono ?_
  rintro e w2 ⟨v, rfl, ⟨tf, rfl, hpf, hif⟩, hq⟩
  replace HQ := Go.Lib.hid (HQ.out.trans hq)
  clear a0 a1 a2 a3 a4 a5 a6 b0 b1 b2 b3 b4 b5 b6 HM HEV hq
  unfold Ft.val
  have HPF : Hid (Ft.pl tf = exF11) := hpf
  have HL : Hid (LawAt w2 [(w2.heap.size, 28, tf)] [] (w2.alloc (.cells #[.int .i64 tf.top.n.op, .string tf.top.n.nm, .int .i64 tf.top.n.cmp, .int .i64 tf.top.n.val, .int .i64 tf.top.n.lo, .int .i64 tf.top.n.hi, .slice tf.top.a tf.kids.length tf.top.cap] 28))) := Go.Lib.hid ((LawAt.zero w2 (HSH.out.keep HQ.out (by simp))).box 28 hif)
  clear hpf hif HSH
  go_upto_region 4 with (fail)
  generalize w2.alloc _ = w3 at *
  generalize hb2 : w2.heap.size = b at *
  clear hb2
  obtain ⟨x0, x1, x2, x3, x4, x5, x6⟩ := HL.out.seven b 28 tf (by simp)
  have HC := Go.Lib.hid (of_of HPF.out (HL.out.inn b 28 tf (by simp)) HL.out.shapes ex_size an_ex ex_hor)
  unfold Ft.val at HC
  go_wp2_with fail
  refine HC.out.mono ?_
  rintro e w4 ⟨rfl, hq⟩
  clear HC x0 x1 x2 x3 x4 x5 x6
  replace HL := Go.Lib.hid (HL.out.keep hq)
  clear hq
  obtain ⟨x0, x1, x2, x3, x4, x5, x6⟩ := HL.out.seven b 28 tf (by simp)
  have HC := Go.Lib.hid (names_of HPF.out (HL.out.inn b 28 tf (by simp)) HL.out.shapes ex_size ex_names)
  unfold Ft.val at HC
  go_wp2_with fail
  refine HC.out.mono ?_
  rintro e w5 ⟨na, nc, rfl, hst, hq⟩
  clear HC x0 x1 x2 x3 x4 x5 x6
  replace HL := Go.Lib.hid (HL.out.keep hq)
  clear hq
  have HST := Go.Lib.hid hst
  clear hst
  obtain ⟨x0, x1, x2, x3, x4, x5, x6⟩ := HL.out.seven b 28 tf (by simp)
  have HC := Go.Lib.hid (ev_v (D := AllD) (f := exF11) (v := Ft.val tf) (w := w5) 0 9223372036854775807 allD ⟨tf, rfl, HPF.out, HL.out.inn b 28 tf (by simp)⟩)
  unfold Ft.val at HC
  go_wp2_with fail
  refine HC.out.mono ?_
  rintro e w6 ⟨v, rfl, ⟨tg, rfl, hpg, hig⟩, hq⟩
  clear HC x0 x1 x2 x3 x4 x5 x6
  replace HL := Go.Lib.hid (HL.out.keep hq)
  replace HST := Go.Lib.hid (HST.out.quiet hq)
  clear hq
  unfold Ft.val
  have HC := Go.Lib.hid (of_of hpg hig HL.out.shapes ex_size2 an_ex2 ex_hor2)
  unfold Ft.val at HC
  clear hpg hig
  go_wp2_with fail
  refine HC.out.mono ?_
  rintro e w7 ⟨rfl, hq⟩
  clear HC
  replace HL := Go.Lib.hid (HL.out.keep hq)
  replace HST := Go.Lib.hid (HST.out.quiet hq)
  clear hq
  obtain ⟨nb, rfl, hc⟩ := HST.out (by simp)
  have n0 := hc 0 _ rfl
  have n1 := hc 1 _ rfl
  clear hc HST
  obtain ⟨x0, x1, x2, x3, x4, x5, x6⟩ := HL.out.seven b 28 tf (by simp)
  have HC := Go.Lib.hid (nest_of HPF.out (HL.out.inn b 28 tf (by simp)) HL.out.shapes ex_size ex_nest)
  unfold Ft.val at HC
  go_wp2_with fail
  refine HC.out.mono ?_
  rintro e w8 ⟨rfl, hq⟩
  go_wp2_with fail
  go_ret
  exact ⟨rfl, HQ.out.trans (HL.out.quiet.trans hq)⟩
end Go.Proofs.YtnpcakakjhiboaaDoor
