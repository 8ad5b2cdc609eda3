/- Small facts on blocks of memory that a call owns, and on what a call touches. No condition. -/
import Derived.WalkKit
import Derived.WalkSpells
import Derived.WalkLawsBesides
import Derived.OneCell
namespace Go.Lo
open Go.RowKit

/-- Block b is just these cells, and may be written. -/
def Blk (w : World) (b : Nat) (xs : Array Value) (t : TypeId) : Prop := w.heap[b]? = some (.cells xs t (0, 0))

theorem Blk.lt {w : World} {b : Nat} {xs : Array Value} {t : TypeId} (h : Blk w b xs t) : b < w.heap.size := lt_of_block h

theorem Blk.cell {w : World} {b : Nat} {xs : Array Value} {t : TypeId} (h : Blk w b xs t) (i : Nat) {v : Value} (hv : xs[i]? = some v) : w.cell? ⟨b, i, none⟩ = some v := by
  unfold Blk at h; simp [World.cell?, h, hv]

theorem Blk.free {w : World} {b : Nat} {xs : Array Value} {t : TypeId} (h : Blk w b xs t) (i : Nat) : w.frozen? ⟨b, i, none⟩ = false := by
  unfold Blk at h; simp [World.frozen?, h]

theorem Blk.new (w : World) (xs : Array Value) (t : TypeId) : Blk (w.alloc (.cells xs t)) w.heap.size xs t := heap_alloc_new w _

theorem Blk.alloc {w : World} {b : Nat} {xs : Array Value} {t : TypeId} (h : Blk w b xs t) (o : Obj) : Blk (w.alloc o) b xs t := by
  unfold Blk; rw [Below.heap_alloc w o b h.lt]; exact h

theorem Blk.drew {w : World} {b : Nat} {xs : Array Value} {t : TypeId} (h : Blk w b xs t) : Blk w.drew b xs t := h

theorem Blk.drewN {w : World} {b : Nat} {xs : Array Value} {t : TypeId} (h : Blk w b xs t) (n : Nat) : Blk (w.drewN n) b xs t := h

theorem Blk.set {w : World} {b : Nat} {xs : Array Value} {t : TypeId} (h : Blk w b xs t) (i : Nat) (v : Value) : Blk (w.setCell ⟨b, i, none⟩ v) b (xs.setIfInBounds i v) t := by
  have hlt := h.lt
  have h' : w.heap[b] = .cells xs t (0, 0) := by unfold Blk at h; simpa [Array.getElem?_eq_getElem hlt] using h
  show (w.heap.modify b _)[b]? = _
  rw [Array.getElem?_eq_getElem (by simpa using hlt), Array.getElem_modify_self, h']
  rfl

theorem Blk.set_other {w : World} {b : Nat} {xs : Array Value} {t : TypeId} (h : Blk w b xs t) {a : Addr} (ha : b ≠ a.block) (v : Value) : Blk (w.setCell a v) b xs t := by
  unfold Blk; rw [Below.heap_setCell _ _ _ _ ha]; exact h

/-- Between the two worlds nothing of what was there was touched but blocks of which p tells so. -/
structure Alters (p : Nat → Prop) (w w' : World) : Prop where
  os : w'.os = w.os
  tape : w'.tape = w.tape
  output : w'.output = w.output
  size : w.heap.size ≤ w'.heap.size
  block : ∀ k, k < w.heap.size → ¬ p k → w'.heap[k]? = w.heap[k]?

theorem Alters.refl {p : Nat → Prop} (w : World) : Alters p w w := ⟨rfl, rfl, rfl, Nat.le_refl _, fun _ _ _ => rfl⟩

theorem Alters.trans {p : Nat → Prop} {a b c : World} (h : Alters p a b) (k : Alters p b c) : Alters p a c :=
  ⟨k.os.trans h.os, k.tape.trans h.tape, k.output.trans h.output, Nat.le_trans h.size k.size, fun i hi hp => (k.block i (Nat.lt_of_lt_of_le hi h.size) hp).trans (h.block i hi hp)⟩

theorem Alters.mono {p q : Nat → Prop} {w w' : World} (h : Alters p w w') (hq : ∀ k, k < w.heap.size → p k → q k) : Alters q w w' :=
  ⟨h.os, h.tape, h.output, h.size, fun k hk hn => h.block k hk (fun hp => hn (hq k hk hp))⟩

theorem Alters.drew {p : Nat → Prop} {a w : World} (h : Alters p a w) : Alters p a w.drew := ⟨h.os, h.tape, h.output, h.size, h.block⟩

theorem Alters.drewN {p : Nat → Prop} {a w : World} (h : Alters p a w) (n : Nat) : Alters p a (w.drewN n) := ⟨h.os, h.tape, h.output, h.size, h.block⟩

theorem Alters.alloc {p : Nat → Prop} {a w : World} (h : Alters p a w) (o : Obj) : Alters p a (w.alloc o) :=
  h.trans ⟨rfl, rfl, rfl, by simp, fun k hk _ => Below.heap_alloc _ _ _ hk⟩

theorem Alters.set {p : Nat → Prop} {a w : World} (h : Alters p a w) {q : Addr} (hq : q.block < a.heap.size → p q.block) (v : Value) : Alters p a (w.setCell q v) :=
  ⟨h.os, h.tape, h.output, by simpa [World.setCell] using h.size, fun k hk hn => by
    rw [Below.heap_setCell _ _ _ _ (fun e => hn (by rw [e]; rw [e] at hk; exact hq hk))]; exact h.block k hk hn⟩

theorem Alters.grown {p : Nat → Prop} {a w w' : World} {row : Option Nat} (h : Alters p a w) (hg : w.grownBy w' row) (hr : ∀ k, row = some k → k < a.heap.size → p k) : Alters p a w' :=
  ⟨hg.os.trans h.os, hg.tape.trans h.tape, hg.output.trans h.output, Nat.le_trans h.size hg.size, fun k hk hn => by
    rw [hg.block k (Nat.lt_of_lt_of_le hk h.size) (fun e => hn (hr k e.symm hk))]; exact h.block k hk hn⟩

theorem Alters.below {p : Nat → Prop} {w w' : World} (h : Alters p w w') {B : Nat} (hB : B ≤ w.heap.size) (hp : ∀ k, k < B → ¬ p k) : Below B w w' :=
  ⟨h.os, h.tape, h.output, h.size, fun k hk => h.block k (Nat.lt_of_lt_of_le hk hB) (hp k hk)⟩

theorem Alters.of_below {B : Nat} {w w' : World} (h : Below B w w') {p : Nat → Prop} (hp : ∀ k, k < w.heap.size → B ≤ k → p k) : Alters p w w' :=
  ⟨h.os, h.tape, h.output, h.size, fun k hk hn => h.block k (Nat.lt_of_not_le fun hB => hn (hp k hk hB))⟩

theorem Alters.cell {p : Nat → Prop} {w w' : World} (h : Alters p w w') {a : Addr} {v : Value} (hv : w.cell? a = some v) (hp : ¬ p a.block) : w'.cell? a = some v := by
  rw [World.cell?_of_block (w := w) (h.block a.block (block_lt_of_cell hv) hp)]; exact hv

theorem Alters.blk {p : Nat → Prop} {w w' : World} (h : Alters p w w') {b : Nat} {xs : Array Value} {t : TypeId} (hb : Blk w b xs t) (hp : ¬ p b) : Blk w' b xs t := by
  unfold Blk; rw [h.block b hb.lt hp]; exact hb

/-- Nothing that was there is touched. -/
abbrev Quiet (w w' : World) : Prop := Alters (fun _ => False) w w'

theorem Quiet.to {w w' : World} (h : Quiet w w') {p : Nat → Prop} : Alters p w w' := h.mono fun _ _ hf => hf.elim

end Go.Lo
