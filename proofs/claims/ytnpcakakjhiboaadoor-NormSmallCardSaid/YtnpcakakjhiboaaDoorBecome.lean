/- norm.become: what becomes of a node, of what its kids became. No condition. -/
import Derived.Test.YtnpcakakjhiboaaDoorClos
import Derived.Test.YtnpcakakjhiboaaDoorForm
namespace Go.Proofs.YtnpcakakjhiboaaDoor
open Go.RowKit Go.Lo Go.WideShapes

set_option maxRecDepth 100000 in
set_option maxHeartbeats 2000000 in
theorem itself_walk (D : Nat → Prop) (m X Y : Ft) (w : World) : Calls Tryd.prog 137 #[m.val, X.val, Y.val] w (Gives D (.nd { m.top.n with lo := 0, hi := 0 } []) w) := by
  unfold Ft.val
  go_enter Tryd.func137, Tryd.ntmps137
  go_wp2
  exact bodyPost_ret (v := Ft.val (.nd ⟨{ m.top.n with lo := 0, hi := 0 }, none, 0⟩ [])) (by simp [results, Tryd.results137, go_sem, Ft.val, Tr.top, Tr.kids]) rfl ⟨_, rfl, ⟨_, rfl, by rw [pl_nd]; rfl, In.leaf _ _ _⟩, ((((Alters.refl _).alloc _).alloc _).alloc _).alloc _⟩

/-- The table of rows. -/
def rowCells (m : Ft) (bm : Nat) : Array Value := #[.int .i64 1, .func (.func 137) #[m.val] #[], .int .i64 2, .func (.func 137) #[m.val] #[], .int .i64 3, .func (.func 137) #[m.val] #[], .int .i64 4, .func (.func 138) #[] #[], .int .i64 5, .func (.func 140) #[] #[], .int .i64 6, .func (.func 141) #[] #[], .int .i64 7, .func (.func 142) #[] #[], .int .i64 8, .func (.func 143) #[] #[],
  .int .i64 9, .func (.func 144) #[] #[.pointer (some ⟨bm, 0, none⟩)], .int .i64 10, .func (.func 146) #[] #[.pointer (some ⟨bm, 0, none⟩)], .int .i64 11, .func (.func 147) #[m.val] #[], .int .i64 12, .func (.func 148) #[] #[.pointer (some ⟨bm, 0, none⟩)]]

set_option maxRecDepth 100000 in
set_option maxHeartbeats 2000000 in
theorem rows_walk (m : Ft) (w : World) : Calls Tryd.prog 105 #[m.val] w fun e w' => e = .returned (.slice (some ⟨w.heap.size + 1, 0, none⟩) 12 12) ∧ w' = (w.alloc (.cells #[.int .i64 m.top.n.op, .string m.top.n.nm, .int .i64 m.top.n.cmp, .int .i64 m.top.n.val, .int .i64 m.top.n.lo, .int .i64 m.top.n.hi, .slice m.top.a m.kids.length m.top.cap] 126)).alloc (.cells (rowCells m w.heap.size) 131) := by
  unfold Ft.val
  go_enter Tryd.func105, Tryd.ntmps105
  go_wp2
  go_ret
  exact ⟨rfl, rfl⟩

/-- What lies where become's loop stands. -/
structure BecAt (w : World) (D : Nat → Prop) (n X Y : Ft) (f g : Fm) (W : World) : Prop where
  bn : Blk W w.heap.size (Ft.cells n).toArray 28
  bx : Blk W (w.heap.size + 1) (Ft.cells X).toArray 28
  bz : Blk W (w.heap.size + 1 + 1) (Ft.cells Y).toArray 28
  res : Blk W (w.heap.size + 1 + 1 + 1) #[.int .i64 0, .string ⟨#[]⟩, .int .i64 0, .int .i64 0, .int .i64 0, .int .i64 0, .slice none 0 0] 28
  mkr : Blk W (w.heap.size + 1 + 1 + 1 + 1 + 1) (Ft.cells n).toArray 126
  tab : Blk W (w.heap.size + 1 + 1 + 1 + 1 + 1 + 1) (rowCells n (w.heap.size + 1 + 1 + 1 + 1 + 1)) 131
  mx : MadeIn D f (Ft.val X) W
  my : MadeIn D g (Ft.val Y) W
  quiet : Quiet w W
  big : w.heap.size + 7 ≤ W.heap.size

theorem BecAt.keep {w : World} {D : Nat → Prop} {n X Y : Ft} {f g : Fm} (W W' : World) (hq : Quiet W W') (h : BecAt w D n X Y f g W) : BecAt w D n X Y f g W' :=
  ⟨hq.blk h.bn (by simp), hq.blk h.bx (by simp), hq.blk h.bz (by simp), hq.blk h.res (by simp), hq.blk h.mkr (by simp), hq.blk h.tab (by simp), h.mx.quiet hq, h.my.quiet hq, h.quiet.trans hq, Nat.le_trans h.big hq.size⟩

theorem bec_ends {w W : World} {D D1 : Nat → Prop} {n X Y t : Ft} {f g r : Fm} (hd : (fun k => D k ∧ k ≠ w.heap.size + 1 + 1 + 1) = D1) (hA : BecAt w D1 n X Y f g W) (hi : In D1 W t) (hp : Ft.pl t = r) :
    Gives D r w (.returned (Ft.val t)) (((((((W.setCell ⟨w.heap.size + 1 + 1 + 1, 0, none⟩ (.int .i64 t.top.n.op)).setCell ⟨w.heap.size + 1 + 1 + 1, 1, none⟩ (.string t.top.n.nm)).setCell ⟨w.heap.size + 1 + 1 + 1, 2, none⟩ (.int .i64 t.top.n.cmp)).setCell ⟨w.heap.size + 1 + 1 + 1, 3, none⟩ (.int .i64 t.top.n.val)).setCell ⟨w.heap.size + 1 + 1 + 1, 4, none⟩ (.int .i64 t.top.n.lo)).setCell ⟨w.heap.size + 1 + 1 + 1, 5, none⟩ (.int .i64 t.top.n.hi)).setCell ⟨w.heap.size + 1 + 1 + 1, 6, none⟩ (.slice t.top.a t.kids.length t.top.cap)) ∧ Blk (((((((W.setCell ⟨w.heap.size + 1 + 1 + 1, 0, none⟩ (.int .i64 t.top.n.op)).setCell ⟨w.heap.size + 1 + 1 + 1, 1, none⟩ (.string t.top.n.nm)).setCell ⟨w.heap.size + 1 + 1 + 1, 2, none⟩ (.int .i64 t.top.n.cmp)).setCell ⟨w.heap.size + 1 + 1 + 1, 3, none⟩ (.int .i64 t.top.n.val)).setCell ⟨w.heap.size + 1 + 1 + 1, 4, none⟩ (.int .i64 t.top.n.lo)).setCell ⟨w.heap.size + 1 + 1 + 1, 5, none⟩ (.int .i64 t.top.n.hi)).setCell ⟨w.heap.size + 1 + 1 + 1, 6, none⟩ (.slice t.top.a t.kids.length t.top.cap)) (w.heap.size + 1 + 1 + 1) #[.int .i64 t.top.n.op, .string t.top.n.nm, .int .i64 t.top.n.cmp, .int .i64 t.top.n.val, .int .i64 t.top.n.lo, .int .i64 t.top.n.hi, .slice t.top.a t.kids.length t.top.cap] 28 := by
  have hs7 := set7 W (w.heap.size + 1 + 1 + 1) (.int .i64 t.top.n.op) (.string t.top.n.nm) (.int .i64 t.top.n.cmp) (.int .i64 t.top.n.val) (.int .i64 t.top.n.lo) (.int .i64 t.top.n.hi) (.slice t.top.a t.kids.length t.top.cap)
  subst hd
  exact ⟨⟨_, rfl, ⟨t, rfl, hp, (hi.keep hs7 (fun k hk _ e => hk.2 e)).mono (fun k _ hk => hk.1)⟩, hA.quiet.then hs7 (fun i hi e => by omega)⟩, blk7 hA.res _ _ _ _ _ _ _⟩

theorem store_func {P : Program} (f : Fn) (a c : Array Value) (ad : Addr) (m : Mode) (w : World) : Sem.run P (store ad (.func f a c) m) w = stored P w ad (.func f a c) m := run_store P w ad _ m rfl
attribute [local go_sem] store_func

theorem row_op (m : Ft) (bm i : Nat) (h : i < 12) : (rowCells m bm)[i * 2]? = some (.int .i64 ((i : Int) + 1)) := by
  rcases i with _ | _ | _ | _ | _ | _ | _ | _ | _ | _ | _ | _ | i <;> first | rfl | omega

theorem row_fn (m : Ft) (bm i : Nat) (h : i < 12) : ∃ f a c, (rowCells m bm)[i * 2 + 1]? = some (.func (.func f) a c) := by
  rcases i with _ | _ | _ | _ | _ | _ | _ | _ | _ | _ | _ | _ | i <;> first | exact ⟨_, _, _, rfl⟩ | omega

theorem bec_start {w : World} {D D1 : Nat → Prop} {n X Y : Ft} {f g : Fm} (hx : MadeIn D f (Ft.val X) w) (hy : MadeIn D g (Ft.val Y) w) (hd : (fun k => D k ∧ k ≠ w.heap.size + 1 + 1 + 1) = D1) :
    BecAt w D1 n X Y f g (((((((w.alloc (.cells #[.int .i64 n.top.n.op, .string n.top.n.nm, .int .i64 n.top.n.cmp, .int .i64 n.top.n.val, .int .i64 n.top.n.lo, .int .i64 n.top.n.hi, .slice n.top.a n.kids.length n.top.cap] 28)).alloc (.cells #[.int .i64 X.top.n.op, .string X.top.n.nm, .int .i64 X.top.n.cmp, .int .i64 X.top.n.val, .int .i64 X.top.n.lo, .int .i64 X.top.n.hi, .slice X.top.a X.kids.length X.top.cap] 28)).alloc (.cells #[.int .i64 Y.top.n.op, .string Y.top.n.nm, .int .i64 Y.top.n.cmp, .int .i64 Y.top.n.val, .int .i64 Y.top.n.lo, .int .i64 Y.top.n.hi, .slice Y.top.a Y.kids.length Y.top.cap] 28)).alloc (.cells #[.int .i64 0, .string ⟨#[]⟩, .int .i64 0, .int .i64 0, .int .i64 0, .int .i64 0, .slice none 0 0] 28)).alloc (.cells #[.int .i64 n.top.n.op, .string n.top.n.nm, .int .i64 n.top.n.cmp, .int .i64 n.top.n.val, .int .i64 n.top.n.lo, .int .i64 n.top.n.hi, .slice n.top.a n.kids.length n.top.cap] 126)).alloc (.cells #[.int .i64 n.top.n.op, .string n.top.n.nm, .int .i64 n.top.n.cmp, .int .i64 n.top.n.val, .int .i64 n.top.n.lo, .int .i64 n.top.n.hi, .slice n.top.a n.kids.length n.top.cap] 126)).alloc (.cells (rowCells n (w.heap.size + 1 + 1 + 1 + 1 + 1)) 131)) := by
  have hq : Quiet w (((((((w.alloc (.cells #[.int .i64 n.top.n.op, .string n.top.n.nm, .int .i64 n.top.n.cmp, .int .i64 n.top.n.val, .int .i64 n.top.n.lo, .int .i64 n.top.n.hi, .slice n.top.a n.kids.length n.top.cap] 28)).alloc (.cells #[.int .i64 X.top.n.op, .string X.top.n.nm, .int .i64 X.top.n.cmp, .int .i64 X.top.n.val, .int .i64 X.top.n.lo, .int .i64 X.top.n.hi, .slice X.top.a X.kids.length X.top.cap] 28)).alloc (.cells #[.int .i64 Y.top.n.op, .string Y.top.n.nm, .int .i64 Y.top.n.cmp, .int .i64 Y.top.n.val, .int .i64 Y.top.n.lo, .int .i64 Y.top.n.hi, .slice Y.top.a Y.kids.length Y.top.cap] 28)).alloc (.cells #[.int .i64 0, .string ⟨#[]⟩, .int .i64 0, .int .i64 0, .int .i64 0, .int .i64 0, .slice none 0 0] 28)).alloc (.cells #[.int .i64 n.top.n.op, .string n.top.n.nm, .int .i64 n.top.n.cmp, .int .i64 n.top.n.val, .int .i64 n.top.n.lo, .int .i64 n.top.n.hi, .slice n.top.a n.kids.length n.top.cap] 126)).alloc (.cells #[.int .i64 n.top.n.op, .string n.top.n.nm, .int .i64 n.top.n.cmp, .int .i64 n.top.n.val, .int .i64 n.top.n.lo, .int .i64 n.top.n.hi, .slice n.top.a n.kids.length n.top.cap] 126)).alloc (.cells (rowCells n (w.heap.size + 1 + 1 + 1 + 1 + 1)) 131)) := (((((((Alters.refl _).alloc _).alloc _).alloc _).alloc _).alloc _).alloc _).alloc _
  subst hd
  refine ⟨((((((Blk.new _ _ _).alloc _).alloc _).alloc _).alloc _).alloc _).alloc _, (((((alloc2 _ _ _ _).alloc _).alloc _).alloc _).alloc _).alloc _, ((((alloc3 _ _ _ _ _).alloc _).alloc _).alloc _).alloc _, (((alloc4 _ _ _ _ _ _).alloc _).alloc _).alloc _, ?_, ?_, (hx.mono (fun k hk hd => ⟨hd, by omega⟩)).quiet hq, (hy.mono (fun k hk hd => ⟨hd, by omega⟩)).quiet hq, hq, by simp⟩
  · have := (Blk.new (((((w.alloc (.cells #[.int .i64 n.top.n.op, .string n.top.n.nm, .int .i64 n.top.n.cmp, .int .i64 n.top.n.val, .int .i64 n.top.n.lo, .int .i64 n.top.n.hi, .slice n.top.a n.kids.length n.top.cap] 28)).alloc (.cells #[.int .i64 X.top.n.op, .string X.top.n.nm, .int .i64 X.top.n.cmp, .int .i64 X.top.n.val, .int .i64 X.top.n.lo, .int .i64 X.top.n.hi, .slice X.top.a X.kids.length X.top.cap] 28)).alloc (.cells #[.int .i64 Y.top.n.op, .string Y.top.n.nm, .int .i64 Y.top.n.cmp, .int .i64 Y.top.n.val, .int .i64 Y.top.n.lo, .int .i64 Y.top.n.hi, .slice Y.top.a Y.kids.length Y.top.cap] 28)).alloc (.cells #[.int .i64 0, .string ⟨#[]⟩, .int .i64 0, .int .i64 0, .int .i64 0, .int .i64 0, .slice none 0 0] 28)).alloc (.cells #[.int .i64 n.top.n.op, .string n.top.n.nm, .int .i64 n.top.n.cmp, .int .i64 n.top.n.val, .int .i64 n.top.n.lo, .int .i64 n.top.n.hi, .slice n.top.a n.kids.length n.top.cap] 126)) #[.int .i64 n.top.n.op, .string n.top.n.nm, .int .i64 n.top.n.cmp, .int .i64 n.top.n.val, .int .i64 n.top.n.lo, .int .i64 n.top.n.hi, .slice n.top.a n.kids.length n.top.cap] 126).alloc (.cells (rowCells n (w.heap.size + 1 + 1 + 1 + 1 + 1)) 131)
    simp only [World.size_alloc] at this
    exact this
  · have := Blk.new ((((((w.alloc (.cells #[.int .i64 n.top.n.op, .string n.top.n.nm, .int .i64 n.top.n.cmp, .int .i64 n.top.n.val, .int .i64 n.top.n.lo, .int .i64 n.top.n.hi, .slice n.top.a n.kids.length n.top.cap] 28)).alloc (.cells #[.int .i64 X.top.n.op, .string X.top.n.nm, .int .i64 X.top.n.cmp, .int .i64 X.top.n.val, .int .i64 X.top.n.lo, .int .i64 X.top.n.hi, .slice X.top.a X.kids.length X.top.cap] 28)).alloc (.cells #[.int .i64 Y.top.n.op, .string Y.top.n.nm, .int .i64 Y.top.n.cmp, .int .i64 Y.top.n.val, .int .i64 Y.top.n.lo, .int .i64 Y.top.n.hi, .slice Y.top.a Y.kids.length Y.top.cap] 28)).alloc (.cells #[.int .i64 0, .string ⟨#[]⟩, .int .i64 0, .int .i64 0, .int .i64 0, .int .i64 0, .slice none 0 0] 28)).alloc (.cells #[.int .i64 n.top.n.op, .string n.top.n.nm, .int .i64 n.top.n.cmp, .int .i64 n.top.n.val, .int .i64 n.top.n.lo, .int .i64 n.top.n.hi, .slice n.top.a n.kids.length n.top.cap] 126)).alloc (.cells #[.int .i64 n.top.n.op, .string n.top.n.nm, .int .i64 n.top.n.cmp, .int .i64 n.top.n.val, .int .i64 n.top.n.lo, .int .i64 n.top.n.hi, .slice n.top.a n.kids.length n.top.cap] 126)) (rowCells n (w.heap.size + 1 + 1 + 1 + 1 + 1)) 131
    simp only [World.size_alloc] at this
    exact this

set_option maxRecDepth 100000 in
set_option maxHeartbeats 4000000 in
theorem become_v {D : Nat → Prop} {f g : Fm} {v u : Value} {w : World} (n : Ft) (hD : ∀ k, w.heap.size ≤ k → D k) (hv : MadeIn D f v w) (hu : MadeIn D g u w) (h4 : Has4 f) (h5 : Has4 g) (hz : g.size ≤ 100000) (h1 : 1 ≤ n.top.n.op) (h12 : n.top.n.op ≤ 12) : Calls Tryd.prog 75 #[n.val, v, u] w (Gives D (become2 n.top.n f g) w) := by
  obtain ⟨X, rfl, hpx, hix⟩ := hv
  obtain ⟨Y, rfl, hpy, hiy⟩ := hu
  have hD1 : ∀ W : World, w.heap.size + 7 ≤ W.heap.size → ∀ k, W.heap.size ≤ k → D k ∧ k ≠ w.heap.size + 1 + 1 + 1 := fun W hW k hk => ⟨hD k (by omega), by omega⟩
  generalize hDe : (fun k => D k ∧ k ≠ w.heap.size + 1 + 1 + 1) = D1 at *
  have HDE := Go.Lib.hid hDe
  have HD1 : Hid (∀ W : World, w.heap.size + 7 ≤ W.heap.size → ∀ k, W.heap.size ≤ k → D1 k) := fun W hW k hk => by rw [← hDe]; exact hD1 W hW k hk
  have hA := bec_start (n := n) ⟨X, rfl, hpx, hix⟩ ⟨Y, rfl, hpy, hiy⟩ hDe
  have HA := Go.Lib.hid hA
  clear hDe hD1 hD hpx hix hpy hiy hA
  have HR := Go.Lib.hid (rows_walk n)
  unfold Ft.val at HR ⊢
  go_enter Tryd.func75, Tryd.ntmps75
  go_wp2_with fail
  refine (HR.out _).mono ?_
  rintro e w9 ⟨rfl, rfl⟩
  simp only [World.size_alloc]
  go_wp2
  generalize ((((((w.alloc _).alloc _).alloc _).alloc _).alloc _).alloc _).alloc _ = w1 at *
  clear HR
  go_loopw [15] (fun i wr => ∃ z : Int, i = .int .i64 z ∧ 0 ≤ z ∧ z < n.top.n.op ∧ BecAt w D1 n X Y f g wr) (fun i _ => 12 - (intOf i).toNat)
  case atStart => exact ⟨0, rfl, by omega, by omega, HA.out⟩
  case round =>
    clear HA
    obtain ⟨z, rfl, hz0, hzo, hA⟩ := hrel
    have b0 := (show Blk wr w.heap.size #[.int .i64 n.top.n.op, .string n.top.n.nm, .int .i64 n.top.n.cmp, .int .i64 n.top.n.val, .int .i64 n.top.n.lo, .int .i64 n.top.n.hi, .slice n.top.a n.kids.length n.top.cap] 28 from hA.bn).cell 0 (v := .int .i64 n.top.n.op) rfl
    have hbg := hA.big
    have hcases : z = 0 ∨ z = 1 ∨ z = 2 ∨ z = 3 ∨ z = 4 ∨ z = 5 ∨ z = 6 ∨ z = 7 ∨ z = 8 ∨ z = 9 ∨ z = 10 ∨ z = 11 := by omega
    rcases hcases with rfl | rfl | rfl | rfl | rfl | rfl | rfl | rfl | rfl | rfl | rfl | rfl

    · have t0 := (show Blk wr (w.heap.size + 1 + 1 + 1 + 1 + 1 + 1) (rowCells n (w.heap.size + 1 + 1 + 1 + 1 + 1)) 131 from hA.tab).cell 0 (v := .int .i64 1) rfl
      have t1 := (show Blk wr (w.heap.size + 1 + 1 + 1 + 1 + 1 + 1) (rowCells n (w.heap.size + 1 + 1 + 1 + 1 + 1)) 131 from hA.tab).cell 1 (v := .func (.func 137) #[.agg #[.int .i64 n.top.n.op, .string n.top.n.nm, .int .i64 n.top.n.cmp, .int .i64 n.top.n.val, .int .i64 n.top.n.lo, .int .i64 n.top.n.hi, .slice n.top.a n.kids.length n.top.cap]] #[]) rfl
      have b1 := ((Alters.refl (p := fun _ => False) wr).alloc (.cells #[.int .i64 1, .func (.func 137) #[.agg #[.int .i64 n.top.n.op, .string n.top.n.nm, .int .i64 n.top.n.cmp, .int .i64 n.top.n.val, .int .i64 n.top.n.lo, .int .i64 n.top.n.hi, .slice n.top.a n.kids.length n.top.cap]] #[]] 131)).cell b0 (by simp)
      by_cases hlt : 1 < n.top.n.op
      · have q1 : ((1 : Int) == n.top.n.op) = false := by simp; omega
        have HA := Go.Lib.hid hA
        clear hA
        go_wp2
        go_roundw
        case rel => exact ⟨1, rfl, by omega, by omega, HA.out.keep _ _ ((Alters.refl _).alloc _)⟩
        case measure => simp [intOf]
      have hop : n.top.n.op = 1 := by omega
      have q1 : ((1 : Int) == n.top.n.op) = true := by rw [hop]; rfl
      have HN := Go.Lib.hid (show become2 n.top.n f g = .nd { n.top.n with lo := 0, hi := 0 } [] by unfold become2; simp [hop])
      have hA5 := hA.keep _ _ ((Alters.refl wr).alloc (.cells #[.int .i64 1, .func (.func 137) #[.agg #[.int .i64 n.top.n.op, .string n.top.n.nm, .int .i64 n.top.n.cmp, .int .i64 n.top.n.val, .int .i64 n.top.n.lo, .int .i64 n.top.n.hi, .slice n.top.a n.kids.length n.top.cap]] #[]] 131))
      obtain ⟨x0, x1, x2, x3, x4, x5, x6⟩ := seven_cells (show Blk _ (w.heap.size + 1) #[.int .i64 X.top.n.op, .string X.top.n.nm, .int .i64 X.top.n.cmp, .int .i64 X.top.n.val, .int .i64 X.top.n.lo, .int .i64 X.top.n.hi, .slice X.top.a X.kids.length X.top.cap] 28 from hA5.bx)
      obtain ⟨y0, y1, y2, y3, y4, y5, y6⟩ := seven_cells (show Blk _ (w.heap.size + 1 + 1) #[.int .i64 Y.top.n.op, .string Y.top.n.nm, .int .i64 Y.top.n.cmp, .int .i64 Y.top.n.val, .int .i64 Y.top.n.lo, .int .i64 Y.top.n.hi, .slice Y.top.a Y.kids.length Y.top.cap] 28 from hA5.bz)
      obtain ⟨wr5, hw5⟩ : ∃ W, W = wr.alloc (.cells #[.int .i64 1, .func (.func 137) #[.agg #[.int .i64 n.top.n.op, .string n.top.n.nm, .int .i64 n.top.n.cmp, .int .i64 n.top.n.val, .int .i64 n.top.n.lo, .int .i64 n.top.n.hi, .slice n.top.a n.kids.length n.top.cap]] #[]] 131) := ⟨_, rfl⟩
      rw [← hw5] at hA5 x0 x1 x2 x3 x4 x5 x6 y0 y1 y2 y3 y4 y5 y6
      have HW5 := Go.Lib.hid hw5
      have HC := Go.Lib.hid (show Calls Tryd.prog _ _ wr5 (Gives D1 (.nd { n.top.n with lo := 0, hi := 0 } []) wr5) from itself_walk D1 n X Y wr5)
      have HA5 := Go.Lib.hid hA5
      rw [HW5.out] at HC x0 x1 x2 x3 x4 x5 x6 y0 y1 y2 y3 y4 y5 y6
      clear hA hA5 hop hlt hw5 hz0 hzo
      unfold Ft.val at HC
      go_wp2_with fail
      refine HC.out.mono ?_
      rintro e W ⟨v, rfl, ⟨t9, rfl, hp9, hi9⟩, hq9⟩
      rw [← HW5.out] at hq9
      have hS := HA5.out.keep _ _ hq9
      clear x0 x1 x2 x3 x4 x5 x6 y0 y1 y2 y3 y4 y5 y6 t0 t1 b0 b1 HC
      unfold Ft.val
      have fr := fun i => hS.res.free i
      obtain ⟨hg, hb⟩ := bec_ends HDE.out hS hi9 (hp9.trans HN.out.symm)
      have HG := Go.Lib.hid hg
      clear hg hp9 hi9 hq9
      obtain ⟨r0, r1, r2, r3, r4, r5, r6⟩ := seven_cells hS.res
      have HSS := Go.Lib.hid hS
      clear hS
      go_wp2
      clear r0 r1 r2 r3 r4 r5 r6
      obtain ⟨r0, r1, r2, r3, r4, r5, r6⟩ := seven_cells hb
      exact bodyPost_ret (v := Ft.val t9) (by simp [results, Tryd.results75, go_sem, Ft.val, r0, r1, r2, r3, r4, r5, r6]) rfl HG.out
    · have t0 := (show Blk wr (w.heap.size + 1 + 1 + 1 + 1 + 1 + 1) (rowCells n (w.heap.size + 1 + 1 + 1 + 1 + 1)) 131 from hA.tab).cell 2 (v := .int .i64 2) rfl
      have t1 := (show Blk wr (w.heap.size + 1 + 1 + 1 + 1 + 1 + 1) (rowCells n (w.heap.size + 1 + 1 + 1 + 1 + 1)) 131 from hA.tab).cell 3 (v := .func (.func 137) #[.agg #[.int .i64 n.top.n.op, .string n.top.n.nm, .int .i64 n.top.n.cmp, .int .i64 n.top.n.val, .int .i64 n.top.n.lo, .int .i64 n.top.n.hi, .slice n.top.a n.kids.length n.top.cap]] #[]) rfl
      have b1 := ((Alters.refl (p := fun _ => False) wr).alloc (.cells #[.int .i64 2, .func (.func 137) #[.agg #[.int .i64 n.top.n.op, .string n.top.n.nm, .int .i64 n.top.n.cmp, .int .i64 n.top.n.val, .int .i64 n.top.n.lo, .int .i64 n.top.n.hi, .slice n.top.a n.kids.length n.top.cap]] #[]] 131)).cell b0 (by simp)
      by_cases hlt : 2 < n.top.n.op
      · have q1 : ((2 : Int) == n.top.n.op) = false := by simp; omega
        have HA := Go.Lib.hid hA
        clear hA
        go_wp2
        go_roundw
        case rel => exact ⟨2, rfl, by omega, by omega, HA.out.keep _ _ ((Alters.refl _).alloc _)⟩
        case measure => simp [intOf]
      have hop : n.top.n.op = 2 := by omega
      have q1 : ((2 : Int) == n.top.n.op) = true := by rw [hop]; rfl
      have HN := Go.Lib.hid (show become2 n.top.n f g = .nd { n.top.n with lo := 0, hi := 0 } [] by unfold become2; simp [hop])
      have hA5 := hA.keep _ _ ((Alters.refl wr).alloc (.cells #[.int .i64 2, .func (.func 137) #[.agg #[.int .i64 n.top.n.op, .string n.top.n.nm, .int .i64 n.top.n.cmp, .int .i64 n.top.n.val, .int .i64 n.top.n.lo, .int .i64 n.top.n.hi, .slice n.top.a n.kids.length n.top.cap]] #[]] 131))
      obtain ⟨x0, x1, x2, x3, x4, x5, x6⟩ := seven_cells (show Blk _ (w.heap.size + 1) #[.int .i64 X.top.n.op, .string X.top.n.nm, .int .i64 X.top.n.cmp, .int .i64 X.top.n.val, .int .i64 X.top.n.lo, .int .i64 X.top.n.hi, .slice X.top.a X.kids.length X.top.cap] 28 from hA5.bx)
      obtain ⟨y0, y1, y2, y3, y4, y5, y6⟩ := seven_cells (show Blk _ (w.heap.size + 1 + 1) #[.int .i64 Y.top.n.op, .string Y.top.n.nm, .int .i64 Y.top.n.cmp, .int .i64 Y.top.n.val, .int .i64 Y.top.n.lo, .int .i64 Y.top.n.hi, .slice Y.top.a Y.kids.length Y.top.cap] 28 from hA5.bz)
      obtain ⟨wr5, hw5⟩ : ∃ W, W = wr.alloc (.cells #[.int .i64 2, .func (.func 137) #[.agg #[.int .i64 n.top.n.op, .string n.top.n.nm, .int .i64 n.top.n.cmp, .int .i64 n.top.n.val, .int .i64 n.top.n.lo, .int .i64 n.top.n.hi, .slice n.top.a n.kids.length n.top.cap]] #[]] 131) := ⟨_, rfl⟩
      rw [← hw5] at hA5 x0 x1 x2 x3 x4 x5 x6 y0 y1 y2 y3 y4 y5 y6
      have HW5 := Go.Lib.hid hw5
      have HC := Go.Lib.hid (show Calls Tryd.prog _ _ wr5 (Gives D1 (.nd { n.top.n with lo := 0, hi := 0 } []) wr5) from itself_walk D1 n X Y wr5)
      have HA5 := Go.Lib.hid hA5
      rw [HW5.out] at HC x0 x1 x2 x3 x4 x5 x6 y0 y1 y2 y3 y4 y5 y6
      clear hA hA5 hop hlt hw5 hz0 hzo
      unfold Ft.val at HC
      go_wp2_with fail
      refine HC.out.mono ?_
      rintro e W ⟨v, rfl, ⟨t9, rfl, hp9, hi9⟩, hq9⟩
      rw [← HW5.out] at hq9
      have hS := HA5.out.keep _ _ hq9
      clear x0 x1 x2 x3 x4 x5 x6 y0 y1 y2 y3 y4 y5 y6 t0 t1 b0 b1 HC
      unfold Ft.val
      have fr := fun i => hS.res.free i
      obtain ⟨hg, hb⟩ := bec_ends HDE.out hS hi9 (hp9.trans HN.out.symm)
      have HG := Go.Lib.hid hg
      clear hg hp9 hi9 hq9
      obtain ⟨r0, r1, r2, r3, r4, r5, r6⟩ := seven_cells hS.res
      have HSS := Go.Lib.hid hS
      clear hS
      go_wp2
      clear r0 r1 r2 r3 r4 r5 r6
      obtain ⟨r0, r1, r2, r3, r4, r5, r6⟩ := seven_cells hb
      exact bodyPost_ret (v := Ft.val t9) (by simp [results, Tryd.results75, go_sem, Ft.val, r0, r1, r2, r3, r4, r5, r6]) rfl HG.out
    · have t0 := (show Blk wr (w.heap.size + 1 + 1 + 1 + 1 + 1 + 1) (rowCells n (w.heap.size + 1 + 1 + 1 + 1 + 1)) 131 from hA.tab).cell 4 (v := .int .i64 3) rfl
      have t1 := (show Blk wr (w.heap.size + 1 + 1 + 1 + 1 + 1 + 1) (rowCells n (w.heap.size + 1 + 1 + 1 + 1 + 1)) 131 from hA.tab).cell 5 (v := .func (.func 137) #[.agg #[.int .i64 n.top.n.op, .string n.top.n.nm, .int .i64 n.top.n.cmp, .int .i64 n.top.n.val, .int .i64 n.top.n.lo, .int .i64 n.top.n.hi, .slice n.top.a n.kids.length n.top.cap]] #[]) rfl
      have b1 := ((Alters.refl (p := fun _ => False) wr).alloc (.cells #[.int .i64 3, .func (.func 137) #[.agg #[.int .i64 n.top.n.op, .string n.top.n.nm, .int .i64 n.top.n.cmp, .int .i64 n.top.n.val, .int .i64 n.top.n.lo, .int .i64 n.top.n.hi, .slice n.top.a n.kids.length n.top.cap]] #[]] 131)).cell b0 (by simp)
      by_cases hlt : 3 < n.top.n.op
      · have q1 : ((3 : Int) == n.top.n.op) = false := by simp; omega
        have HA := Go.Lib.hid hA
        clear hA
        go_wp2
        go_roundw
        case rel => exact ⟨3, rfl, by omega, by omega, HA.out.keep _ _ ((Alters.refl _).alloc _)⟩
        case measure => simp [intOf]
      have hop : n.top.n.op = 3 := by omega
      have q1 : ((3 : Int) == n.top.n.op) = true := by rw [hop]; rfl
      have HN := Go.Lib.hid (show become2 n.top.n f g = .nd { n.top.n with lo := 0, hi := 0 } [] by unfold become2; simp [hop])
      have hA5 := hA.keep _ _ ((Alters.refl wr).alloc (.cells #[.int .i64 3, .func (.func 137) #[.agg #[.int .i64 n.top.n.op, .string n.top.n.nm, .int .i64 n.top.n.cmp, .int .i64 n.top.n.val, .int .i64 n.top.n.lo, .int .i64 n.top.n.hi, .slice n.top.a n.kids.length n.top.cap]] #[]] 131))
      obtain ⟨x0, x1, x2, x3, x4, x5, x6⟩ := seven_cells (show Blk _ (w.heap.size + 1) #[.int .i64 X.top.n.op, .string X.top.n.nm, .int .i64 X.top.n.cmp, .int .i64 X.top.n.val, .int .i64 X.top.n.lo, .int .i64 X.top.n.hi, .slice X.top.a X.kids.length X.top.cap] 28 from hA5.bx)
      obtain ⟨y0, y1, y2, y3, y4, y5, y6⟩ := seven_cells (show Blk _ (w.heap.size + 1 + 1) #[.int .i64 Y.top.n.op, .string Y.top.n.nm, .int .i64 Y.top.n.cmp, .int .i64 Y.top.n.val, .int .i64 Y.top.n.lo, .int .i64 Y.top.n.hi, .slice Y.top.a Y.kids.length Y.top.cap] 28 from hA5.bz)
      obtain ⟨wr5, hw5⟩ : ∃ W, W = wr.alloc (.cells #[.int .i64 3, .func (.func 137) #[.agg #[.int .i64 n.top.n.op, .string n.top.n.nm, .int .i64 n.top.n.cmp, .int .i64 n.top.n.val, .int .i64 n.top.n.lo, .int .i64 n.top.n.hi, .slice n.top.a n.kids.length n.top.cap]] #[]] 131) := ⟨_, rfl⟩
      rw [← hw5] at hA5 x0 x1 x2 x3 x4 x5 x6 y0 y1 y2 y3 y4 y5 y6
      have HW5 := Go.Lib.hid hw5
      have HC := Go.Lib.hid (show Calls Tryd.prog _ _ wr5 (Gives D1 (.nd { n.top.n with lo := 0, hi := 0 } []) wr5) from itself_walk D1 n X Y wr5)
      have HA5 := Go.Lib.hid hA5
      rw [HW5.out] at HC x0 x1 x2 x3 x4 x5 x6 y0 y1 y2 y3 y4 y5 y6
      clear hA hA5 hop hlt hw5 hz0 hzo
      unfold Ft.val at HC
      go_wp2_with fail
      refine HC.out.mono ?_
      rintro e W ⟨v, rfl, ⟨t9, rfl, hp9, hi9⟩, hq9⟩
      rw [← HW5.out] at hq9
      have hS := HA5.out.keep _ _ hq9
      clear x0 x1 x2 x3 x4 x5 x6 y0 y1 y2 y3 y4 y5 y6 t0 t1 b0 b1 HC
      unfold Ft.val
      have fr := fun i => hS.res.free i
      obtain ⟨hg, hb⟩ := bec_ends HDE.out hS hi9 (hp9.trans HN.out.symm)
      have HG := Go.Lib.hid hg
      clear hg hp9 hi9 hq9
      obtain ⟨r0, r1, r2, r3, r4, r5, r6⟩ := seven_cells hS.res
      have HSS := Go.Lib.hid hS
      clear hS
      go_wp2
      clear r0 r1 r2 r3 r4 r5 r6
      obtain ⟨r0, r1, r2, r3, r4, r5, r6⟩ := seven_cells hb
      exact bodyPost_ret (v := Ft.val t9) (by simp [results, Tryd.results75, go_sem, Ft.val, r0, r1, r2, r3, r4, r5, r6]) rfl HG.out
    · have t0 := (show Blk wr (w.heap.size + 1 + 1 + 1 + 1 + 1 + 1) (rowCells n (w.heap.size + 1 + 1 + 1 + 1 + 1)) 131 from hA.tab).cell 6 (v := .int .i64 4) rfl
      have t1 := (show Blk wr (w.heap.size + 1 + 1 + 1 + 1 + 1 + 1) (rowCells n (w.heap.size + 1 + 1 + 1 + 1 + 1)) 131 from hA.tab).cell 7 (v := .func (.func 138) #[] #[]) rfl
      have b1 := ((Alters.refl (p := fun _ => False) wr).alloc (.cells #[.int .i64 4, .func (.func 138) #[] #[]] 131)).cell b0 (by simp)
      by_cases hlt : 4 < n.top.n.op
      · have q1 : ((4 : Int) == n.top.n.op) = false := by simp; omega
        have HA := Go.Lib.hid hA
        clear hA
        go_wp2
        go_roundw
        case rel => exact ⟨4, rfl, by omega, by omega, HA.out.keep _ _ ((Alters.refl _).alloc _)⟩
        case measure => simp [intOf]
      have hop : n.top.n.op = 4 := by omega
      have q1 : ((4 : Int) == n.top.n.op) = true := by rw [hop]; rfl
      have HN := Go.Lib.hid (show become2 n.top.n f g = nNot f by unfold become2; simp [hop])
      have hA5 := hA.keep _ _ ((Alters.refl wr).alloc (.cells #[.int .i64 4, .func (.func 138) #[] #[]] 131))
      obtain ⟨x0, x1, x2, x3, x4, x5, x6⟩ := seven_cells (show Blk _ (w.heap.size + 1) #[.int .i64 X.top.n.op, .string X.top.n.nm, .int .i64 X.top.n.cmp, .int .i64 X.top.n.val, .int .i64 X.top.n.lo, .int .i64 X.top.n.hi, .slice X.top.a X.kids.length X.top.cap] 28 from hA5.bx)
      obtain ⟨y0, y1, y2, y3, y4, y5, y6⟩ := seven_cells (show Blk _ (w.heap.size + 1 + 1) #[.int .i64 Y.top.n.op, .string Y.top.n.nm, .int .i64 Y.top.n.cmp, .int .i64 Y.top.n.val, .int .i64 Y.top.n.lo, .int .i64 Y.top.n.hi, .slice Y.top.a Y.kids.length Y.top.cap] 28 from hA5.bz)
      obtain ⟨wr5, hw5⟩ : ∃ W, W = wr.alloc (.cells #[.int .i64 4, .func (.func 138) #[] #[]] 131) := ⟨_, rfl⟩
      rw [← hw5] at hA5 x0 x1 x2 x3 x4 x5 x6 y0 y1 y2 y3 y4 y5 y6
      have HW5 := Go.Lib.hid hw5
      have HC := Go.Lib.hid (show Calls Tryd.prog _ _ wr5 (Gives D1 (nNot f) wr5) from clos1_v (HD1.out _ hA5.big) hA5.mx hA5.my h4)
      have HA5 := Go.Lib.hid hA5
      rw [HW5.out] at HC x0 x1 x2 x3 x4 x5 x6 y0 y1 y2 y3 y4 y5 y6
      clear hA hA5 hop hlt hw5 hz0 hzo
      unfold Ft.val at HC
      go_wp2_with fail
      refine HC.out.mono ?_
      rintro e W ⟨v, rfl, ⟨t9, rfl, hp9, hi9⟩, hq9⟩
      rw [← HW5.out] at hq9
      have hS := HA5.out.keep _ _ hq9
      clear x0 x1 x2 x3 x4 x5 x6 y0 y1 y2 y3 y4 y5 y6 t0 t1 b0 b1 HC
      unfold Ft.val
      have fr := fun i => hS.res.free i
      obtain ⟨hg, hb⟩ := bec_ends HDE.out hS hi9 (hp9.trans HN.out.symm)
      have HG := Go.Lib.hid hg
      clear hg hp9 hi9 hq9
      obtain ⟨r0, r1, r2, r3, r4, r5, r6⟩ := seven_cells hS.res
      have HSS := Go.Lib.hid hS
      clear hS
      go_wp2
      clear r0 r1 r2 r3 r4 r5 r6
      obtain ⟨r0, r1, r2, r3, r4, r5, r6⟩ := seven_cells hb
      exact bodyPost_ret (v := Ft.val t9) (by simp [results, Tryd.results75, go_sem, Ft.val, r0, r1, r2, r3, r4, r5, r6]) rfl HG.out
    · have t0 := (show Blk wr (w.heap.size + 1 + 1 + 1 + 1 + 1 + 1) (rowCells n (w.heap.size + 1 + 1 + 1 + 1 + 1)) 131 from hA.tab).cell 8 (v := .int .i64 5) rfl
      have t1 := (show Blk wr (w.heap.size + 1 + 1 + 1 + 1 + 1 + 1) (rowCells n (w.heap.size + 1 + 1 + 1 + 1 + 1)) 131 from hA.tab).cell 9 (v := .func (.func 140) #[] #[]) rfl
      have b1 := ((Alters.refl (p := fun _ => False) wr).alloc (.cells #[.int .i64 5, .func (.func 140) #[] #[]] 131)).cell b0 (by simp)
      by_cases hlt : 5 < n.top.n.op
      · have q1 : ((5 : Int) == n.top.n.op) = false := by simp; omega
        have HA := Go.Lib.hid hA
        clear hA
        go_wp2
        go_roundw
        case rel => exact ⟨5, rfl, by omega, by omega, HA.out.keep _ _ ((Alters.refl _).alloc _)⟩
        case measure => simp [intOf]
      have hop : n.top.n.op = 5 := by omega
      have q1 : ((5 : Int) == n.top.n.op) = true := by rw [hop]; rfl
      have HN := Go.Lib.hid (show become2 n.top.n f g = nAnd f g by unfold become2; simp [hop])
      have hA5 := hA.keep _ _ ((Alters.refl wr).alloc (.cells #[.int .i64 5, .func (.func 140) #[] #[]] 131))
      obtain ⟨x0, x1, x2, x3, x4, x5, x6⟩ := seven_cells (show Blk _ (w.heap.size + 1) #[.int .i64 X.top.n.op, .string X.top.n.nm, .int .i64 X.top.n.cmp, .int .i64 X.top.n.val, .int .i64 X.top.n.lo, .int .i64 X.top.n.hi, .slice X.top.a X.kids.length X.top.cap] 28 from hA5.bx)
      obtain ⟨y0, y1, y2, y3, y4, y5, y6⟩ := seven_cells (show Blk _ (w.heap.size + 1 + 1) #[.int .i64 Y.top.n.op, .string Y.top.n.nm, .int .i64 Y.top.n.cmp, .int .i64 Y.top.n.val, .int .i64 Y.top.n.lo, .int .i64 Y.top.n.hi, .slice Y.top.a Y.kids.length Y.top.cap] 28 from hA5.bz)
      obtain ⟨wr5, hw5⟩ : ∃ W, W = wr.alloc (.cells #[.int .i64 5, .func (.func 140) #[] #[]] 131) := ⟨_, rfl⟩
      rw [← hw5] at hA5 x0 x1 x2 x3 x4 x5 x6 y0 y1 y2 y3 y4 y5 y6
      have HW5 := Go.Lib.hid hw5
      have HC := Go.Lib.hid (show Calls Tryd.prog _ _ wr5 (Gives D1 (nAnd f g) wr5) from and8_v (HD1.out _ hA5.big) hA5.mx hA5.my (by omega))
      have HA5 := Go.Lib.hid hA5
      rw [HW5.out] at HC x0 x1 x2 x3 x4 x5 x6 y0 y1 y2 y3 y4 y5 y6
      clear hA hA5 hop hlt hw5 hz0 hzo
      unfold Ft.val at HC
      go_wp2_with fail
      refine HC.out.mono ?_
      rintro e W ⟨v, rfl, ⟨t9, rfl, hp9, hi9⟩, hq9⟩
      rw [← HW5.out] at hq9
      have hS := HA5.out.keep _ _ hq9
      clear x0 x1 x2 x3 x4 x5 x6 y0 y1 y2 y3 y4 y5 y6 t0 t1 b0 b1 HC
      unfold Ft.val
      have fr := fun i => hS.res.free i
      obtain ⟨hg, hb⟩ := bec_ends HDE.out hS hi9 (hp9.trans HN.out.symm)
      have HG := Go.Lib.hid hg
      clear hg hp9 hi9 hq9
      obtain ⟨r0, r1, r2, r3, r4, r5, r6⟩ := seven_cells hS.res
      have HSS := Go.Lib.hid hS
      clear hS
      go_wp2
      clear r0 r1 r2 r3 r4 r5 r6
      obtain ⟨r0, r1, r2, r3, r4, r5, r6⟩ := seven_cells hb
      exact bodyPost_ret (v := Ft.val t9) (by simp [results, Tryd.results75, go_sem, Ft.val, r0, r1, r2, r3, r4, r5, r6]) rfl HG.out
    · have t0 := (show Blk wr (w.heap.size + 1 + 1 + 1 + 1 + 1 + 1) (rowCells n (w.heap.size + 1 + 1 + 1 + 1 + 1)) 131 from hA.tab).cell 10 (v := .int .i64 6) rfl
      have t1 := (show Blk wr (w.heap.size + 1 + 1 + 1 + 1 + 1 + 1) (rowCells n (w.heap.size + 1 + 1 + 1 + 1 + 1)) 131 from hA.tab).cell 11 (v := .func (.func 141) #[] #[]) rfl
      have b1 := ((Alters.refl (p := fun _ => False) wr).alloc (.cells #[.int .i64 6, .func (.func 141) #[] #[]] 131)).cell b0 (by simp)
      by_cases hlt : 6 < n.top.n.op
      · have q1 : ((6 : Int) == n.top.n.op) = false := by simp; omega
        have HA := Go.Lib.hid hA
        clear hA
        go_wp2
        go_roundw
        case rel => exact ⟨6, rfl, by omega, by omega, HA.out.keep _ _ ((Alters.refl _).alloc _)⟩
        case measure => simp [intOf]
      have hop : n.top.n.op = 6 := by omega
      have q1 : ((6 : Int) == n.top.n.op) = true := by rw [hop]; rfl
      have HN := Go.Lib.hid (show become2 n.top.n f g = nNot (nAnd (nNot f) (nNot g)) by unfold become2; simp [hop])
      have hA5 := hA.keep _ _ ((Alters.refl wr).alloc (.cells #[.int .i64 6, .func (.func 141) #[] #[]] 131))
      obtain ⟨x0, x1, x2, x3, x4, x5, x6⟩ := seven_cells (show Blk _ (w.heap.size + 1) #[.int .i64 X.top.n.op, .string X.top.n.nm, .int .i64 X.top.n.cmp, .int .i64 X.top.n.val, .int .i64 X.top.n.lo, .int .i64 X.top.n.hi, .slice X.top.a X.kids.length X.top.cap] 28 from hA5.bx)
      obtain ⟨y0, y1, y2, y3, y4, y5, y6⟩ := seven_cells (show Blk _ (w.heap.size + 1 + 1) #[.int .i64 Y.top.n.op, .string Y.top.n.nm, .int .i64 Y.top.n.cmp, .int .i64 Y.top.n.val, .int .i64 Y.top.n.lo, .int .i64 Y.top.n.hi, .slice Y.top.a Y.kids.length Y.top.cap] 28 from hA5.bz)
      obtain ⟨wr5, hw5⟩ : ∃ W, W = wr.alloc (.cells #[.int .i64 6, .func (.func 141) #[] #[]] 131) := ⟨_, rfl⟩
      rw [← hw5] at hA5 x0 x1 x2 x3 x4 x5 x6 y0 y1 y2 y3 y4 y5 y6
      have HW5 := Go.Lib.hid hw5
      have HC := Go.Lib.hid (show Calls Tryd.prog _ _ wr5 (Gives D1 (nNot (nAnd (nNot f) (nNot g))) wr5) from clos2_v (HD1.out _ hA5.big) hA5.mx hA5.my h4 h5 hz)
      have HA5 := Go.Lib.hid hA5
      rw [HW5.out] at HC x0 x1 x2 x3 x4 x5 x6 y0 y1 y2 y3 y4 y5 y6
      clear hA hA5 hop hlt hw5 hz0 hzo
      unfold Ft.val at HC
      go_wp2_with fail
      refine HC.out.mono ?_
      rintro e W ⟨v, rfl, ⟨t9, rfl, hp9, hi9⟩, hq9⟩
      rw [← HW5.out] at hq9
      have hS := HA5.out.keep _ _ hq9
      clear x0 x1 x2 x3 x4 x5 x6 y0 y1 y2 y3 y4 y5 y6 t0 t1 b0 b1 HC
      unfold Ft.val
      have fr := fun i => hS.res.free i
      obtain ⟨hg, hb⟩ := bec_ends HDE.out hS hi9 (hp9.trans HN.out.symm)
      have HG := Go.Lib.hid hg
      clear hg hp9 hi9 hq9
      obtain ⟨r0, r1, r2, r3, r4, r5, r6⟩ := seven_cells hS.res
      have HSS := Go.Lib.hid hS
      clear hS
      go_wp2
      clear r0 r1 r2 r3 r4 r5 r6
      obtain ⟨r0, r1, r2, r3, r4, r5, r6⟩ := seven_cells hb
      exact bodyPost_ret (v := Ft.val t9) (by simp [results, Tryd.results75, go_sem, Ft.val, r0, r1, r2, r3, r4, r5, r6]) rfl HG.out
    · have t0 := (show Blk wr (w.heap.size + 1 + 1 + 1 + 1 + 1 + 1) (rowCells n (w.heap.size + 1 + 1 + 1 + 1 + 1)) 131 from hA.tab).cell 12 (v := .int .i64 7) rfl
      have t1 := (show Blk wr (w.heap.size + 1 + 1 + 1 + 1 + 1 + 1) (rowCells n (w.heap.size + 1 + 1 + 1 + 1 + 1)) 131 from hA.tab).cell 13 (v := .func (.func 142) #[] #[]) rfl
      have b1 := ((Alters.refl (p := fun _ => False) wr).alloc (.cells #[.int .i64 7, .func (.func 142) #[] #[]] 131)).cell b0 (by simp)
      by_cases hlt : 7 < n.top.n.op
      · have q1 : ((7 : Int) == n.top.n.op) = false := by simp; omega
        have HA := Go.Lib.hid hA
        clear hA
        go_wp2
        go_roundw
        case rel => exact ⟨7, rfl, by omega, by omega, HA.out.keep _ _ ((Alters.refl _).alloc _)⟩
        case measure => simp [intOf]
      have hop : n.top.n.op = 7 := by omega
      have q1 : ((7 : Int) == n.top.n.op) = true := by rw [hop]; rfl
      have HN := Go.Lib.hid (show become2 n.top.n f g = nNot (nAnd f (nNot g)) by unfold become2; simp [hop])
      have hA5 := hA.keep _ _ ((Alters.refl wr).alloc (.cells #[.int .i64 7, .func (.func 142) #[] #[]] 131))
      obtain ⟨x0, x1, x2, x3, x4, x5, x6⟩ := seven_cells (show Blk _ (w.heap.size + 1) #[.int .i64 X.top.n.op, .string X.top.n.nm, .int .i64 X.top.n.cmp, .int .i64 X.top.n.val, .int .i64 X.top.n.lo, .int .i64 X.top.n.hi, .slice X.top.a X.kids.length X.top.cap] 28 from hA5.bx)
      obtain ⟨y0, y1, y2, y3, y4, y5, y6⟩ := seven_cells (show Blk _ (w.heap.size + 1 + 1) #[.int .i64 Y.top.n.op, .string Y.top.n.nm, .int .i64 Y.top.n.cmp, .int .i64 Y.top.n.val, .int .i64 Y.top.n.lo, .int .i64 Y.top.n.hi, .slice Y.top.a Y.kids.length Y.top.cap] 28 from hA5.bz)
      obtain ⟨wr5, hw5⟩ : ∃ W, W = wr.alloc (.cells #[.int .i64 7, .func (.func 142) #[] #[]] 131) := ⟨_, rfl⟩
      rw [← hw5] at hA5 x0 x1 x2 x3 x4 x5 x6 y0 y1 y2 y3 y4 y5 y6
      have HW5 := Go.Lib.hid hw5
      have HC := Go.Lib.hid (show Calls Tryd.prog _ _ wr5 (Gives D1 (nNot (nAnd f (nNot g))) wr5) from clos3_v (HD1.out _ hA5.big) hA5.mx hA5.my h4 h5 hz)
      have HA5 := Go.Lib.hid hA5
      rw [HW5.out] at HC x0 x1 x2 x3 x4 x5 x6 y0 y1 y2 y3 y4 y5 y6
      clear hA hA5 hop hlt hw5 hz0 hzo
      unfold Ft.val at HC
      go_wp2_with fail
      refine HC.out.mono ?_
      rintro e W ⟨v, rfl, ⟨t9, rfl, hp9, hi9⟩, hq9⟩
      rw [← HW5.out] at hq9
      have hS := HA5.out.keep _ _ hq9
      clear x0 x1 x2 x3 x4 x5 x6 y0 y1 y2 y3 y4 y5 y6 t0 t1 b0 b1 HC
      unfold Ft.val
      have fr := fun i => hS.res.free i
      obtain ⟨hg, hb⟩ := bec_ends HDE.out hS hi9 (hp9.trans HN.out.symm)
      have HG := Go.Lib.hid hg
      clear hg hp9 hi9 hq9
      obtain ⟨r0, r1, r2, r3, r4, r5, r6⟩ := seven_cells hS.res
      have HSS := Go.Lib.hid hS
      clear hS
      go_wp2
      clear r0 r1 r2 r3 r4 r5 r6
      obtain ⟨r0, r1, r2, r3, r4, r5, r6⟩ := seven_cells hb
      exact bodyPost_ret (v := Ft.val t9) (by simp [results, Tryd.results75, go_sem, Ft.val, r0, r1, r2, r3, r4, r5, r6]) rfl HG.out
    · have t0 := (show Blk wr (w.heap.size + 1 + 1 + 1 + 1 + 1 + 1) (rowCells n (w.heap.size + 1 + 1 + 1 + 1 + 1)) 131 from hA.tab).cell 14 (v := .int .i64 8) rfl
      have t1 := (show Blk wr (w.heap.size + 1 + 1 + 1 + 1 + 1 + 1) (rowCells n (w.heap.size + 1 + 1 + 1 + 1 + 1)) 131 from hA.tab).cell 15 (v := .func (.func 143) #[] #[]) rfl
      have b1 := ((Alters.refl (p := fun _ => False) wr).alloc (.cells #[.int .i64 8, .func (.func 143) #[] #[]] 131)).cell b0 (by simp)
      by_cases hlt : 8 < n.top.n.op
      · have q1 : ((8 : Int) == n.top.n.op) = false := by simp; omega
        have HA := Go.Lib.hid hA
        clear hA
        go_wp2
        go_roundw
        case rel => exact ⟨8, rfl, by omega, by omega, HA.out.keep _ _ ((Alters.refl _).alloc _)⟩
        case measure => simp [intOf]
      have hop : n.top.n.op = 8 := by omega
      have q1 : ((8 : Int) == n.top.n.op) = true := by rw [hop]; rfl
      have HN := Go.Lib.hid (show become2 n.top.n f g = nIff f g by unfold become2; simp [hop])
      have hA5 := hA.keep _ _ ((Alters.refl wr).alloc (.cells #[.int .i64 8, .func (.func 143) #[] #[]] 131))
      obtain ⟨x0, x1, x2, x3, x4, x5, x6⟩ := seven_cells (show Blk _ (w.heap.size + 1) #[.int .i64 X.top.n.op, .string X.top.n.nm, .int .i64 X.top.n.cmp, .int .i64 X.top.n.val, .int .i64 X.top.n.lo, .int .i64 X.top.n.hi, .slice X.top.a X.kids.length X.top.cap] 28 from hA5.bx)
      obtain ⟨y0, y1, y2, y3, y4, y5, y6⟩ := seven_cells (show Blk _ (w.heap.size + 1 + 1) #[.int .i64 Y.top.n.op, .string Y.top.n.nm, .int .i64 Y.top.n.cmp, .int .i64 Y.top.n.val, .int .i64 Y.top.n.lo, .int .i64 Y.top.n.hi, .slice Y.top.a Y.kids.length Y.top.cap] 28 from hA5.bz)
      obtain ⟨wr5, hw5⟩ : ∃ W, W = wr.alloc (.cells #[.int .i64 8, .func (.func 143) #[] #[]] 131) := ⟨_, rfl⟩
      rw [← hw5] at hA5 x0 x1 x2 x3 x4 x5 x6 y0 y1 y2 y3 y4 y5 y6
      have HW5 := Go.Lib.hid hw5
      have HC := Go.Lib.hid (show Calls Tryd.prog _ _ wr5 (Gives D1 (nIff f g) wr5) from iff8_v (HD1.out _ hA5.big) hA5.mx hA5.my h4 h5 (by omega))
      have HA5 := Go.Lib.hid hA5
      rw [HW5.out] at HC x0 x1 x2 x3 x4 x5 x6 y0 y1 y2 y3 y4 y5 y6
      clear hA hA5 hop hlt hw5 hz0 hzo
      unfold Ft.val at HC
      go_wp2_with fail
      refine HC.out.mono ?_
      rintro e W ⟨v, rfl, ⟨t9, rfl, hp9, hi9⟩, hq9⟩
      rw [← HW5.out] at hq9
      have hS := HA5.out.keep _ _ hq9
      clear x0 x1 x2 x3 x4 x5 x6 y0 y1 y2 y3 y4 y5 y6 t0 t1 b0 b1 HC
      unfold Ft.val
      have fr := fun i => hS.res.free i
      obtain ⟨hg, hb⟩ := bec_ends HDE.out hS hi9 (hp9.trans HN.out.symm)
      have HG := Go.Lib.hid hg
      clear hg hp9 hi9 hq9
      obtain ⟨r0, r1, r2, r3, r4, r5, r6⟩ := seven_cells hS.res
      have HSS := Go.Lib.hid hS
      clear hS
      go_wp2
      clear r0 r1 r2 r3 r4 r5 r6
      obtain ⟨r0, r1, r2, r3, r4, r5, r6⟩ := seven_cells hb
      exact bodyPost_ret (v := Ft.val t9) (by simp [results, Tryd.results75, go_sem, Ft.val, r0, r1, r2, r3, r4, r5, r6]) rfl HG.out
    · have t0 := (show Blk wr (w.heap.size + 1 + 1 + 1 + 1 + 1 + 1) (rowCells n (w.heap.size + 1 + 1 + 1 + 1 + 1)) 131 from hA.tab).cell 16 (v := .int .i64 9) rfl
      have t1 := (show Blk wr (w.heap.size + 1 + 1 + 1 + 1 + 1 + 1) (rowCells n (w.heap.size + 1 + 1 + 1 + 1 + 1)) 131 from hA.tab).cell 17 (v := .func (.func 144) #[] #[.pointer (some ⟨w.heap.size + 1 + 1 + 1 + 1 + 1, 0, none⟩)]) rfl
      have b1 := ((Alters.refl (p := fun _ => False) wr).alloc (.cells #[.int .i64 9, .func (.func 144) #[] #[.pointer (some ⟨w.heap.size + 1 + 1 + 1 + 1 + 1, 0, none⟩)]] 131)).cell b0 (by simp)
      by_cases hlt : 9 < n.top.n.op
      · have q1 : ((9 : Int) == n.top.n.op) = false := by simp; omega
        have HA := Go.Lib.hid hA
        clear hA
        go_wp2
        go_roundw
        case rel => exact ⟨9, rfl, by omega, by omega, HA.out.keep _ _ ((Alters.refl _).alloc _)⟩
        case measure => simp [intOf]
      have hop : n.top.n.op = 9 := by omega
      have q1 : ((9 : Int) == n.top.n.op) = true := by rw [hop]; rfl
      have HN := Go.Lib.hid (show become2 n.top.n f g = nEv n.top.n.lo n.top.n.hi f by unfold become2; simp [hop])
      have hA5 := hA.keep _ _ ((Alters.refl wr).alloc (.cells #[.int .i64 9, .func (.func 144) #[] #[.pointer (some ⟨w.heap.size + 1 + 1 + 1 + 1 + 1, 0, none⟩)]] 131))
      obtain ⟨x0, x1, x2, x3, x4, x5, x6⟩ := seven_cells (show Blk _ (w.heap.size + 1) #[.int .i64 X.top.n.op, .string X.top.n.nm, .int .i64 X.top.n.cmp, .int .i64 X.top.n.val, .int .i64 X.top.n.lo, .int .i64 X.top.n.hi, .slice X.top.a X.kids.length X.top.cap] 28 from hA5.bx)
      obtain ⟨y0, y1, y2, y3, y4, y5, y6⟩ := seven_cells (show Blk _ (w.heap.size + 1 + 1) #[.int .i64 Y.top.n.op, .string Y.top.n.nm, .int .i64 Y.top.n.cmp, .int .i64 Y.top.n.val, .int .i64 Y.top.n.lo, .int .i64 Y.top.n.hi, .slice Y.top.a Y.kids.length Y.top.cap] 28 from hA5.bz)
      obtain ⟨wr5, hw5⟩ : ∃ W, W = wr.alloc (.cells #[.int .i64 9, .func (.func 144) #[] #[.pointer (some ⟨w.heap.size + 1 + 1 + 1 + 1 + 1, 0, none⟩)]] 131) := ⟨_, rfl⟩
      rw [← hw5] at hA5 x0 x1 x2 x3 x4 x5 x6 y0 y1 y2 y3 y4 y5 y6
      have HW5 := Go.Lib.hid hw5
      have HC := Go.Lib.hid (show Calls Tryd.prog _ _ wr5 (Gives D1 (nEv n.top.n.lo n.top.n.hi f) wr5) from clos4_v (HD1.out _ hA5.big) hA5.mx hA5.my _ n (show Blk _ (w.heap.size + 1 + 1 + 1 + 1 + 1) (Ft.cells n).toArray 126 from hA5.mkr))
      have HA5 := Go.Lib.hid hA5
      rw [HW5.out] at HC x0 x1 x2 x3 x4 x5 x6 y0 y1 y2 y3 y4 y5 y6
      clear hA hA5 hop hlt hw5 hz0 hzo
      unfold Ft.val at HC
      go_wp2_with fail
      refine HC.out.mono ?_
      rintro e W ⟨v, rfl, ⟨t9, rfl, hp9, hi9⟩, hq9⟩
      rw [← HW5.out] at hq9
      have hS := HA5.out.keep _ _ hq9
      clear x0 x1 x2 x3 x4 x5 x6 y0 y1 y2 y3 y4 y5 y6 t0 t1 b0 b1 HC
      unfold Ft.val
      have fr := fun i => hS.res.free i
      obtain ⟨hg, hb⟩ := bec_ends HDE.out hS hi9 (hp9.trans HN.out.symm)
      have HG := Go.Lib.hid hg
      clear hg hp9 hi9 hq9
      obtain ⟨r0, r1, r2, r3, r4, r5, r6⟩ := seven_cells hS.res
      have HSS := Go.Lib.hid hS
      clear hS
      go_wp2
      clear r0 r1 r2 r3 r4 r5 r6
      obtain ⟨r0, r1, r2, r3, r4, r5, r6⟩ := seven_cells hb
      exact bodyPost_ret (v := Ft.val t9) (by simp [results, Tryd.results75, go_sem, Ft.val, r0, r1, r2, r3, r4, r5, r6]) rfl HG.out
    · have t0 := (show Blk wr (w.heap.size + 1 + 1 + 1 + 1 + 1 + 1) (rowCells n (w.heap.size + 1 + 1 + 1 + 1 + 1)) 131 from hA.tab).cell 18 (v := .int .i64 10) rfl
      have t1 := (show Blk wr (w.heap.size + 1 + 1 + 1 + 1 + 1 + 1) (rowCells n (w.heap.size + 1 + 1 + 1 + 1 + 1)) 131 from hA.tab).cell 19 (v := .func (.func 146) #[] #[.pointer (some ⟨w.heap.size + 1 + 1 + 1 + 1 + 1, 0, none⟩)]) rfl
      have b1 := ((Alters.refl (p := fun _ => False) wr).alloc (.cells #[.int .i64 10, .func (.func 146) #[] #[.pointer (some ⟨w.heap.size + 1 + 1 + 1 + 1 + 1, 0, none⟩)]] 131)).cell b0 (by simp)
      by_cases hlt : 10 < n.top.n.op
      · have q1 : ((10 : Int) == n.top.n.op) = false := by simp; omega
        have HA := Go.Lib.hid hA
        clear hA
        go_wp2
        go_roundw
        case rel => exact ⟨10, rfl, by omega, by omega, HA.out.keep _ _ ((Alters.refl _).alloc _)⟩
        case measure => simp [intOf]
      have hop : n.top.n.op = 10 := by omega
      have q1 : ((10 : Int) == n.top.n.op) = true := by rw [hop]; rfl
      have HN := Go.Lib.hid (show become2 n.top.n f g = nNot (nEv n.top.n.lo n.top.n.hi (nNot f)) by unfold become2; simp [hop])
      have hA5 := hA.keep _ _ ((Alters.refl wr).alloc (.cells #[.int .i64 10, .func (.func 146) #[] #[.pointer (some ⟨w.heap.size + 1 + 1 + 1 + 1 + 1, 0, none⟩)]] 131))
      obtain ⟨x0, x1, x2, x3, x4, x5, x6⟩ := seven_cells (show Blk _ (w.heap.size + 1) #[.int .i64 X.top.n.op, .string X.top.n.nm, .int .i64 X.top.n.cmp, .int .i64 X.top.n.val, .int .i64 X.top.n.lo, .int .i64 X.top.n.hi, .slice X.top.a X.kids.length X.top.cap] 28 from hA5.bx)
      obtain ⟨y0, y1, y2, y3, y4, y5, y6⟩ := seven_cells (show Blk _ (w.heap.size + 1 + 1) #[.int .i64 Y.top.n.op, .string Y.top.n.nm, .int .i64 Y.top.n.cmp, .int .i64 Y.top.n.val, .int .i64 Y.top.n.lo, .int .i64 Y.top.n.hi, .slice Y.top.a Y.kids.length Y.top.cap] 28 from hA5.bz)
      obtain ⟨wr5, hw5⟩ : ∃ W, W = wr.alloc (.cells #[.int .i64 10, .func (.func 146) #[] #[.pointer (some ⟨w.heap.size + 1 + 1 + 1 + 1 + 1, 0, none⟩)]] 131) := ⟨_, rfl⟩
      rw [← hw5] at hA5 x0 x1 x2 x3 x4 x5 x6 y0 y1 y2 y3 y4 y5 y6
      have HW5 := Go.Lib.hid hw5
      have HC := Go.Lib.hid (show Calls Tryd.prog _ _ wr5 (Gives D1 (nNot (nEv n.top.n.lo n.top.n.hi (nNot f))) wr5) from clos5_v (HD1.out _ hA5.big) hA5.mx hA5.my _ n (show Blk _ (w.heap.size + 1 + 1 + 1 + 1 + 1) (Ft.cells n).toArray 126 from hA5.mkr) h4)
      have HA5 := Go.Lib.hid hA5
      rw [HW5.out] at HC x0 x1 x2 x3 x4 x5 x6 y0 y1 y2 y3 y4 y5 y6
      clear hA hA5 hop hlt hw5 hz0 hzo
      unfold Ft.val at HC
      go_wp2_with fail
      refine HC.out.mono ?_
      rintro e W ⟨v, rfl, ⟨t9, rfl, hp9, hi9⟩, hq9⟩
      rw [← HW5.out] at hq9
      have hS := HA5.out.keep _ _ hq9
      clear x0 x1 x2 x3 x4 x5 x6 y0 y1 y2 y3 y4 y5 y6 t0 t1 b0 b1 HC
      unfold Ft.val
      have fr := fun i => hS.res.free i
      obtain ⟨hg, hb⟩ := bec_ends HDE.out hS hi9 (hp9.trans HN.out.symm)
      have HG := Go.Lib.hid hg
      clear hg hp9 hi9 hq9
      obtain ⟨r0, r1, r2, r3, r4, r5, r6⟩ := seven_cells hS.res
      have HSS := Go.Lib.hid hS
      clear hS
      go_wp2
      clear r0 r1 r2 r3 r4 r5 r6
      obtain ⟨r0, r1, r2, r3, r4, r5, r6⟩ := seven_cells hb
      exact bodyPost_ret (v := Ft.val t9) (by simp [results, Tryd.results75, go_sem, Ft.val, r0, r1, r2, r3, r4, r5, r6]) rfl HG.out
    · have t0 := (show Blk wr (w.heap.size + 1 + 1 + 1 + 1 + 1 + 1) (rowCells n (w.heap.size + 1 + 1 + 1 + 1 + 1)) 131 from hA.tab).cell 20 (v := .int .i64 11) rfl
      have t1 := (show Blk wr (w.heap.size + 1 + 1 + 1 + 1 + 1 + 1) (rowCells n (w.heap.size + 1 + 1 + 1 + 1 + 1)) 131 from hA.tab).cell 21 (v := .func (.func 147) #[.agg #[.int .i64 n.top.n.op, .string n.top.n.nm, .int .i64 n.top.n.cmp, .int .i64 n.top.n.val, .int .i64 n.top.n.lo, .int .i64 n.top.n.hi, .slice n.top.a n.kids.length n.top.cap]] #[]) rfl
      have b1 := ((Alters.refl (p := fun _ => False) wr).alloc (.cells #[.int .i64 11, .func (.func 147) #[.agg #[.int .i64 n.top.n.op, .string n.top.n.nm, .int .i64 n.top.n.cmp, .int .i64 n.top.n.val, .int .i64 n.top.n.lo, .int .i64 n.top.n.hi, .slice n.top.a n.kids.length n.top.cap]] #[]] 131)).cell b0 (by simp)
      by_cases hlt : 11 < n.top.n.op
      · have q1 : ((11 : Int) == n.top.n.op) = false := by simp; omega
        have HA := Go.Lib.hid hA
        clear hA
        go_wp2
        go_roundw
        case rel => exact ⟨11, rfl, by omega, by omega, HA.out.keep _ _ ((Alters.refl _).alloc _)⟩
        case measure => simp [intOf]
      have hop : n.top.n.op = 11 := by omega
      have q1 : ((11 : Int) == n.top.n.op) = true := by rw [hop]; rfl
      have HN := Go.Lib.hid (show become2 n.top.n f g = nUn n.top.n.lo n.top.n.hi f g by unfold become2; simp [hop])
      have hA5 := hA.keep _ _ ((Alters.refl wr).alloc (.cells #[.int .i64 11, .func (.func 147) #[.agg #[.int .i64 n.top.n.op, .string n.top.n.nm, .int .i64 n.top.n.cmp, .int .i64 n.top.n.val, .int .i64 n.top.n.lo, .int .i64 n.top.n.hi, .slice n.top.a n.kids.length n.top.cap]] #[]] 131))
      obtain ⟨x0, x1, x2, x3, x4, x5, x6⟩ := seven_cells (show Blk _ (w.heap.size + 1) #[.int .i64 X.top.n.op, .string X.top.n.nm, .int .i64 X.top.n.cmp, .int .i64 X.top.n.val, .int .i64 X.top.n.lo, .int .i64 X.top.n.hi, .slice X.top.a X.kids.length X.top.cap] 28 from hA5.bx)
      obtain ⟨y0, y1, y2, y3, y4, y5, y6⟩ := seven_cells (show Blk _ (w.heap.size + 1 + 1) #[.int .i64 Y.top.n.op, .string Y.top.n.nm, .int .i64 Y.top.n.cmp, .int .i64 Y.top.n.val, .int .i64 Y.top.n.lo, .int .i64 Y.top.n.hi, .slice Y.top.a Y.kids.length Y.top.cap] 28 from hA5.bz)
      obtain ⟨wr5, hw5⟩ : ∃ W, W = wr.alloc (.cells #[.int .i64 11, .func (.func 147) #[.agg #[.int .i64 n.top.n.op, .string n.top.n.nm, .int .i64 n.top.n.cmp, .int .i64 n.top.n.val, .int .i64 n.top.n.lo, .int .i64 n.top.n.hi, .slice n.top.a n.kids.length n.top.cap]] #[]] 131) := ⟨_, rfl⟩
      rw [← hw5] at hA5 x0 x1 x2 x3 x4 x5 x6 y0 y1 y2 y3 y4 y5 y6
      have HW5 := Go.Lib.hid hw5
      have HC := Go.Lib.hid (show Calls Tryd.prog _ _ wr5 (Gives D1 (nUn n.top.n.lo n.top.n.hi f g) wr5) from un8_v (m := n) (HD1.out _ hA5.big) hA5.mx hA5.my)
      have HA5 := Go.Lib.hid hA5
      rw [HW5.out] at HC x0 x1 x2 x3 x4 x5 x6 y0 y1 y2 y3 y4 y5 y6
      clear hA hA5 hop hlt hw5 hz0 hzo
      unfold Ft.val at HC
      go_wp2_with fail
      refine HC.out.mono ?_
      rintro e W ⟨v, rfl, ⟨t9, rfl, hp9, hi9⟩, hq9⟩
      rw [← HW5.out] at hq9
      have hS := HA5.out.keep _ _ hq9
      clear x0 x1 x2 x3 x4 x5 x6 y0 y1 y2 y3 y4 y5 y6 t0 t1 b0 b1 HC
      unfold Ft.val
      have fr := fun i => hS.res.free i
      obtain ⟨hg, hb⟩ := bec_ends HDE.out hS hi9 (hp9.trans HN.out.symm)
      have HG := Go.Lib.hid hg
      clear hg hp9 hi9 hq9
      obtain ⟨r0, r1, r2, r3, r4, r5, r6⟩ := seven_cells hS.res
      have HSS := Go.Lib.hid hS
      clear hS
      go_wp2
      clear r0 r1 r2 r3 r4 r5 r6
      obtain ⟨r0, r1, r2, r3, r4, r5, r6⟩ := seven_cells hb
      exact bodyPost_ret (v := Ft.val t9) (by simp [results, Tryd.results75, go_sem, Ft.val, r0, r1, r2, r3, r4, r5, r6]) rfl HG.out
    · have t0 := (show Blk wr (w.heap.size + 1 + 1 + 1 + 1 + 1 + 1) (rowCells n (w.heap.size + 1 + 1 + 1 + 1 + 1)) 131 from hA.tab).cell 22 (v := .int .i64 12) rfl
      have t1 := (show Blk wr (w.heap.size + 1 + 1 + 1 + 1 + 1 + 1) (rowCells n (w.heap.size + 1 + 1 + 1 + 1 + 1)) 131 from hA.tab).cell 23 (v := .func (.func 148) #[] #[.pointer (some ⟨w.heap.size + 1 + 1 + 1 + 1 + 1, 0, none⟩)]) rfl
      have b1 := ((Alters.refl (p := fun _ => False) wr).alloc (.cells #[.int .i64 12, .func (.func 148) #[] #[.pointer (some ⟨w.heap.size + 1 + 1 + 1 + 1 + 1, 0, none⟩)]] 131)).cell b0 (by simp)
      have hlt : ¬ 12 < n.top.n.op := by omega
      have hop : n.top.n.op = 12 := by omega
      have q1 : ((12 : Int) == n.top.n.op) = true := by rw [hop]; rfl
      have HN := Go.Lib.hid (show become2 n.top.n f g = nNot (nUn n.top.n.lo n.top.n.hi (nNot f) (nNot g)) by unfold become2; simp [hop])
      have hA5 := hA.keep _ _ ((Alters.refl wr).alloc (.cells #[.int .i64 12, .func (.func 148) #[] #[.pointer (some ⟨w.heap.size + 1 + 1 + 1 + 1 + 1, 0, none⟩)]] 131))
      obtain ⟨x0, x1, x2, x3, x4, x5, x6⟩ := seven_cells (show Blk _ (w.heap.size + 1) #[.int .i64 X.top.n.op, .string X.top.n.nm, .int .i64 X.top.n.cmp, .int .i64 X.top.n.val, .int .i64 X.top.n.lo, .int .i64 X.top.n.hi, .slice X.top.a X.kids.length X.top.cap] 28 from hA5.bx)
      obtain ⟨y0, y1, y2, y3, y4, y5, y6⟩ := seven_cells (show Blk _ (w.heap.size + 1 + 1) #[.int .i64 Y.top.n.op, .string Y.top.n.nm, .int .i64 Y.top.n.cmp, .int .i64 Y.top.n.val, .int .i64 Y.top.n.lo, .int .i64 Y.top.n.hi, .slice Y.top.a Y.kids.length Y.top.cap] 28 from hA5.bz)
      obtain ⟨wr5, hw5⟩ : ∃ W, W = wr.alloc (.cells #[.int .i64 12, .func (.func 148) #[] #[.pointer (some ⟨w.heap.size + 1 + 1 + 1 + 1 + 1, 0, none⟩)]] 131) := ⟨_, rfl⟩
      rw [← hw5] at hA5 x0 x1 x2 x3 x4 x5 x6 y0 y1 y2 y3 y4 y5 y6
      have HW5 := Go.Lib.hid hw5
      have HC := Go.Lib.hid (show Calls Tryd.prog _ _ wr5 (Gives D1 (nNot (nUn n.top.n.lo n.top.n.hi (nNot f) (nNot g))) wr5) from clos6_v (HD1.out _ hA5.big) hA5.mx hA5.my _ n (show Blk _ (w.heap.size + 1 + 1 + 1 + 1 + 1) (Ft.cells n).toArray 126 from hA5.mkr) h4 h5)
      have HA5 := Go.Lib.hid hA5
      rw [HW5.out] at HC x0 x1 x2 x3 x4 x5 x6 y0 y1 y2 y3 y4 y5 y6
      clear hA hA5 hop hlt hw5 hz0 hzo
      unfold Ft.val at HC
      go_wp2_with fail
      refine HC.out.mono ?_
      rintro e W ⟨v, rfl, ⟨t9, rfl, hp9, hi9⟩, hq9⟩
      rw [← HW5.out] at hq9
      have hS := HA5.out.keep _ _ hq9
      clear x0 x1 x2 x3 x4 x5 x6 y0 y1 y2 y3 y4 y5 y6 t0 t1 b0 b1 HC
      unfold Ft.val
      have fr := fun i => hS.res.free i
      obtain ⟨hg, hb⟩ := bec_ends HDE.out hS hi9 (hp9.trans HN.out.symm)
      have HG := Go.Lib.hid hg
      clear hg hp9 hi9 hq9
      obtain ⟨r0, r1, r2, r3, r4, r5, r6⟩ := seven_cells hS.res
      have HSS := Go.Lib.hid hS
      clear hS
      go_wp2
      clear r0 r1 r2 r3 r4 r5 r6
      obtain ⟨r0, r1, r2, r3, r4, r5, r6⟩ := seven_cells hb
      exact bodyPost_ret (v := Ft.val t9) (by simp [results, Tryd.results75, go_sem, Ft.val, r0, r1, r2, r3, r4, r5, r6]) rfl HG.out
end Go.Proofs.YtnpcakakjhiboaaDoor
