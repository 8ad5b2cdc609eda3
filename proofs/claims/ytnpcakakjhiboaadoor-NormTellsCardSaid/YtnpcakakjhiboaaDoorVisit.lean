/- The nodes of a formula in memory, each ahead of its kids: where each lies, and how deep it stands. No condition. Rows that a call owns: cut shorter; made of one block. No condition. -/
import Derived.Test.YtnpcakakjhiboaaDoorMem
import Derived.Laws.OwnMore
namespace Go.Proofs.YtnpcakakjhiboaaDoor
open Go.RowKit Go.Lo Go.WideShapes

/-- A node on the way: where it lies, how deep it stands. -/
structure Vi where
  ad : Addr
  dp : Nat
  t : Ft

/-- Where kids begin. -/
def kidAd (a : Option Addr) : Addr := a.getD ⟨0, 0, none⟩
/-- The next one. -/
def nextAd (a : Addr) : Addr := ⟨a.block, a.off + 7, a.spot⟩

mutual
def vis (A : Addr) (d : Nat) : Ft → List Vi | .nd x ks => ⟨A, d, .nd x ks⟩ :: visL (kidAd x.a) (d + 1) ks
def visL (A : Addr) (d : Nat) : List Ft → List Vi | [] => [] | k :: ks => vis A d k ++ visL (nextAd A) d ks
end

theorem visL_pre (ks : List Ft) (h : ∀ k, k ∈ ks → ∀ (A : Addr) (d : Nat), (vis A d k).map Vi.t = k.pre) : ∀ (A : Addr) (d : Nat), (visL A d ks).map Vi.t = Tr.preL ks := by
  induction ks with
  | nil => intro A d; rfl
  | cons k ks ih =>
    intro A d
    simp only [visL, Tr.preL, List.map_append]
    rw [h k (by simp), ih (fun k hk => h k (by simp [hk]))]

theorem vis_pre (t : Ft) : ∀ (A : Addr) (d : Nat), (vis A d t).map Vi.t = t.pre := by
  induction t using Tr.ind with
  | h x ks ih =>
    intro A d
    simp only [vis, Tr.pre, List.map_cons]
    rw [visL_pre ks ih]

theorem visL_map (ks : List Ft) (A : Addr) (d : Nat) : (visL A d ks).map Vi.t = Tr.preL ks := visL_pre ks (fun k _ => vis_pre k) A d

theorem vis_length (A : Addr) (d : Nat) (t : Ft) : (vis A d t).length = t.size := by rw [← List.length_map (f := Vi.t), vis_pre, Tr.pre_length]

theorem visL_length (A : Addr) (d : Nat) (ks : List Ft) : (visL A d ks).length = Tr.sizeL ks := by
  induction ks generalizing A with
  | nil => rfl
  | cons k ks ih => simp only [visL, List.length_append, vis_length, ih, Tr.sizeL]

/-- What is still to be visited of a node's kids: where the next one lies, the room, the kids. -/
structure En where
  a : Option Addr
  c : Nat
  ks : List Ft

def En.val (e : En) : Value := .slice e.a e.ks.length e.c

/-- As it may lie. -/
structure En.Ok (D : Nat → Prop) (w : World) (e : En) : Prop where
  max : e.ks.length ≤ maxLen
  room : e.ks.length ≤ e.c
  fs : FsAt D w e.a e.ks
  inn : ∀ t, t ∈ e.ks → In D w t

theorem En.Ok.keep {D p : Nat → Prop} {w w' : World} {e : En} (h : e.Ok D w) (hA : Alters p w w') (hp : ∀ k, D k → k < w.heap.size → ¬ p k) : e.Ok D w' :=
  ⟨h.max, h.room, h.fs.keep hA hp, fun t ht => (h.inn t ht).keep hA hp⟩

theorem En.Ok.mono {D D' : Nat → Prop} {w : World} {e : En} (h : e.Ok D w) (hd : ∀ k, k < w.heap.size → D k → D' k) : e.Ok D' w :=
  ⟨h.max, h.room, h.fs.mono hd, fun t ht => (h.inn t ht).mono hd⟩

/-- What is still to be visited: the deepest first. -/
def rest : List En → List Vi
  | [] => []
  | e :: S => visL (kidAd e.a) (S.length + 2) e.ks ++ rest S

theorem rest_pop {e : En} {S : List En} (h : e.ks = []) : rest (e :: S) = rest S := by simp [rest, h, visL]

/-- One node is visited. -/
theorem rest_step {b o c : Nat} {a2 : Option Addr} {c2 : Nat} {k : Ft} {ks : List Ft} {S : List En} (h : ks ≠ [] → a2 = some ⟨b, o + 7, none⟩) :
    rest (⟨some ⟨b, o, none⟩, c, k :: ks⟩ :: S) = ⟨⟨b, o, none⟩, S.length + 2, k⟩ :: rest (⟨k.top.a, k.top.cap, k.kids⟩ :: ⟨a2, c2, ks⟩ :: S) := by
  have e : visL (nextAd ⟨b, o, none⟩) (S.length + 2) ks = visL (kidAd a2) (S.length + 2) ks := by
    by_cases hk : ks = []
    · subst hk; rfl
    · rw [h hk]; rfl
  cases k with
  | nd x kk =>
    simp only [rest, visL, vis, kidAd, Option.getD_some, List.cons_append, List.length_cons, List.append_assoc, Tr.top, Tr.kids]
    rw [e]
    simp only [kidAd]

theorem rest_length_pos {e : En} {S : List En} : Tr.sizeL e.ks ≤ (rest (e :: S)).length := by simp [rest, visL_length]

/-- All that is visited of a formula that lies at an address. -/
theorem vis_rest (A : Addr) (t : Ft) : vis A 1 t = ⟨A, 1, t⟩ :: rest [⟨t.top.a, t.top.cap, t.kids⟩] := by
  cases t; simp [vis, rest, Tr.top, Tr.kids]

/-- The kids' next one, and what is left. -/
theorem En.Ok.next {D : Nat → Prop} {w : World} {b o c : Nat} {k : Ft} {ks : List Ft} {a2 : Option Addr} (h : (⟨some ⟨b, o, none⟩, c, k :: ks⟩ : En).Ok D w) (h2 : ks ≠ [] → a2 = some ⟨b, o + 7, none⟩) :
    AtP w b o k ∧ D b ∧ En.Ok D w ⟨k.top.a, k.top.cap, k.kids⟩ ∧ En.Ok D w ⟨a2, c - 1, ks⟩ := by
  obtain ⟨b', o', e, hD, hc⟩ := h.fs (by simp)
  obtain ⟨rfl, rfl⟩ : b = b' ∧ o = o' := by simpa using e
  have hk := h.inn k (by simp)
  have hm := h.max
  have hr := h.room
  simp only [List.length_cons] at hm hr
  refine ⟨by simpa using hc 0 k rfl, hD, ⟨hk.len, hk.room, hk.fs, fun t ht => hk.kid ht⟩, ⟨by simp only; omega, by simp only; omega, fun hne => ?_, fun t ht => h.inn t (by simp [ht])⟩⟩
  rw [h2 hne]
  refine ⟨b, o + 7, rfl, hD, fun i t ht => ?_⟩
  have := hc (i + 1) t (by simpa using ht)
  rw [show o + (i + 1) * 7 = o + 7 + i * 7 by omega] at this
  exact this

theorem visL_at {D : Nat → Prop} {w : World} {b d : Nat} (hD : D b) (ks : List Ft) (h : ∀ k, k ∈ ks → ∀ (b o d : Nat), AtP w b o k → D b → In D w k → ∀ v, v ∈ vis ⟨b, o, none⟩ d k → ∃ b' o', v.ad = ⟨b', o', none⟩ ∧ D b' ∧ AtP w b' o' v.t ∧ In D w v.t) :
    ∀ o, (∀ i t, ks[i]? = some t → AtP w b (o + i * 7) t) → (∀ k, k ∈ ks → In D w k) → ∀ v, v ∈ visL ⟨b, o, none⟩ d ks → ∃ b' o', v.ad = ⟨b', o', none⟩ ∧ D b' ∧ AtP w b' o' v.t ∧ In D w v.t := by
  induction ks with
  | nil => intro o _ _ v hv; simp [visL] at hv
  | cons k ks ih =>
    intro o hc hk v hv
    simp only [visL, List.mem_append] at hv
    rcases hv with hv | hv
    · exact h k (by simp) b o d (by simpa using hc 0 k rfl) hD (hk k (by simp)) v hv
    · refine ih (fun k hk => h k (by simp [hk])) (o + 7) (fun i t ht => ?_) (fun k h => hk k (by simp [h])) v hv
      have := hc (i + 1) t (by simpa using ht)
      rw [show o + (i + 1) * 7 = o + 7 + i * 7 by omega] at this
      exact this

/-- Where each node lies. -/
theorem vis_at {D : Nat → Prop} {w : World} (t : Ft) : ∀ (b o d : Nat), AtP w b o t → D b → In D w t → ∀ v, v ∈ vis ⟨b, o, none⟩ d t → ∃ b' o', v.ad = ⟨b', o', none⟩ ∧ D b' ∧ AtP w b' o' v.t ∧ In D w v.t := by
  induction t using Tr.ind with
  | h x ks ih =>
    intro b o d ha hb hin v hv
    simp only [vis, List.mem_cons] at hv
    rcases hv with rfl | hv
    · exact ⟨b, o, rfl, hb, ha, hin⟩
    · by_cases hne : ks = []
      · subst hne; simp [visL] at hv
      obtain ⟨b2, o2, e, hD, hc⟩ := hin.fs hne
      simp only [Tr.top] at e
      rw [e] at hv
      exact visL_at hD ks ih o2 hc (fun k hk => hin.kid hk) v hv

end Go.Proofs.YtnpcakakjhiboaaDoor

namespace Go.Proofs.YtnpcakakjhiboaaDoor
open Go.RowKit Go.Lo Go.WideShapes

/-- A row of a call's own, cut to its first m. -/
theorem row_cut {w : World} {base : Nat} {e : TypeId} {size n m g cap : Nat} {xs : List Value} (h : w.ownsRow base e size (.slice (some ⟨g, 0, none⟩) n cap) n xs) (hm : m ≤ n) : w.ownsRow base e size (.slice (some ⟨g, 0, none⟩) m cap) m (xs.take (m * size)) := by
  rcases h with ⟨hl, ⟨hv, _⟩ | ⟨g', cap', cur, hv, h0, hg, h1, h2, h3, h4⟩⟩
  · cases hv
  · obtain ⟨rfl, rfl⟩ : g = g' ∧ cap = cap' := by simpa using hv
    have hms : m * size ≤ n * size := Nat.mul_le_mul_right _ hm
    refine ⟨by rw [List.length_take, hl]; omega, .inr ⟨g, cap, cur, rfl, h0, hg, by omega, h2, h3, ?_⟩⟩
    rw [← h4, List.take_take]
    congr 1
    omega

end Go.Proofs.YtnpcakakjhiboaaDoor
