/- A small separation logic over the model's worlds: heaplets, chunks, what a world holds, and how chunks are taken out and put back. No program in sight. -/
import Derived.Orders
import Derived.Laws.World
import Derived.Deep.LoopGhost
set_option linter.all false
namespace Go.Proofs.YtnjljfjncfbinaaGreat
open Go

/-- What stands at a place of a heaplet: a cell's value, or (at every offset) a whole object. -/
inductive Cel where
  | v (x : Value)
  | o (x : Obj)

abbrev Hl := Nat → Nat → Option Cel
abbrev HP := Hl → Prop

structure Hl.disj (m n : Hl) : Prop where
  h : ∀ b o, m b o = none ∨ n b o = none
structure Hl.le (m n : Hl) : Prop where
  h : ∀ b o c, m b o = some c → n b o = some c
def Hl.join (m n : Hl) : Hl := fun b o => match m b o with | some c => some c | none => n b o

theorem Hl.le_refl (m : Hl) : m.le m := ⟨fun _ _ _ h => h⟩
theorem Hl.le.le_trans {a b c : Hl} (h : a.le b) (h' : b.le c) : a.le c := ⟨fun _ _ _ x => h'.h _ _ _ (h.h _ _ _ x)⟩
theorem Hl.disj.disj_symm {m n : Hl} (h : m.disj n) : n.disj m := ⟨fun b o => (h.h b o).symm⟩
theorem Hl.disj.disj_le {m n m' n' : Hl} (h : m.disj n) (hm : m'.le m) (hn : n'.le n) : m'.disj n' := by
  refine ⟨fun b o => ?_⟩
  rcases h.h b o with h | h
  · left
    cases e : m' b o with
    | none => rfl
    | some c => rw [hm.h _ _ _ e] at h; cases h
  · right
    cases e : n' b o with
    | none => rfl
    | some c => rw [hn.h _ _ _ e] at h; cases h
theorem Hl.le_join_left (m n : Hl) : m.le (m.join n) := by
  refine ⟨fun b o c h => ?_⟩; simp [Hl.join, h]
theorem Hl.le_join_right {m n : Hl} (hd : m.disj n) : n.le (m.join n) := by
  refine ⟨fun b o c h => ?_⟩
  rcases hd.h b o with e | e
  · simp [Hl.join, e, h]
  · rw [e] at h; cases h
theorem Hl.join_le {m n k : Hl} (hm : m.le k) (hn : n.le k) : (m.join n).le k := by
  refine ⟨fun b o c h => ?_⟩
  simp only [Hl.join] at h
  split at h
  · rename_i c' e; cases h; exact hm.h _ _ _ e
  · exact hn.h _ _ _ h
theorem Hl.disj_join {m n k : Hl} (h1 : k.disj m) (h2 : k.disj n) : k.disj (m.join n) := by
  refine ⟨fun b o => ?_⟩
  rcases h1.h b o with e | e
  · exact .inl e
  · rcases h2.h b o with e' | e'
    · exact .inl e'
    · right; simp [Hl.join, e, e']

/-- Chunks side by side. What is left over doesn't matter. -/
def Stars : List HP → HP
  | [], _ => True
  | h :: L, m => ∃ m1 m2 : Hl, m1.disj m2 ∧ m1.le m ∧ m2.le m ∧ h m1 ∧ Stars L m2

theorem Stars.weaken {L : List HP} {m n : Hl} (h : m.le n) (s : Stars L m) : Stars L n := by
  cases L with
  | nil => trivial
  | cons a L => obtain ⟨m1, m2, hd, h1, h2, ha, hL⟩ := s; exact ⟨m1, m2, hd, h1.le_trans h, h2.le_trans h, ha, hL⟩

theorem Stars.swap {a b : HP} {L : List HP} {m : Hl} (s : Stars (a :: b :: L) m) : Stars (b :: a :: L) m := by
  obtain ⟨m1, m2, hd, h1, h2, ha, n1, n2, hd', h1', h2', hb, hL⟩ := s
  have d1 : n1.disj m1 := (hd.disj_le (Hl.le_refl _) h1').disj_symm
  have d2 : m1.disj n2 := hd.disj_le (Hl.le_refl _) h2'
  exact ⟨n1, m1.join n2, Hl.disj_join d1 hd', h1'.le_trans h2, Hl.join_le h1 (h2'.le_trans h2), hb,
    m1, n2, d2, Hl.le_join_left _ _, Hl.le_join_right d2, ha, hL⟩

theorem Stars.skip {a : HP} {L L' : List HP} (h : ∀ m, Stars L m → Stars L' m) {m : Hl} (s : Stars (a :: L) m) : Stars (a :: L') m := by
  obtain ⟨m1, m2, hd, h1, h2, ha, hL⟩ := s
  exact ⟨m1, m2, hd, h1, h2, ha, h _ hL⟩

theorem Stars.first {a b : HP} {L : List HP} (h : ∀ m, a m → b m) {m : Hl} (s : Stars (a :: L) m) : Stars (b :: L) m := by
  obtain ⟨m1, m2, hd, h1, h2, ha, hL⟩ := s
  exact ⟨m1, m2, hd, h1, h2, h _ ha, hL⟩

theorem Stars.tail {a : HP} {L : List HP} {m : Hl} (s : Stars (a :: L) m) : Stars L m := by
  obtain ⟨m1, m2, hd, h1, h2, ha, hL⟩ := s
  exact hL.weaken h2

theorem Stars.append {L M : List HP} {m : Hl} : Stars (L ++ M) m ↔ ∃ m1 m2 : Hl, m1.disj m2 ∧ m1.le m ∧ m2.le m ∧ Stars L m1 ∧ Stars M m2 := by
  induction L generalizing m with
  | nil =>
    constructor
    · intro h; exact ⟨fun _ _ => none, m, ⟨fun _ _ => .inl rfl⟩, ⟨fun _ _ _ h => (by cases h)⟩, Hl.le_refl _, trivial, h⟩
    · rintro ⟨m1, m2, _, _, h2, _, hM⟩; exact hM.weaken h2
  | cons a L ih =>
    constructor
    · rintro ⟨m1, m2, hd, h1, h2, ha, hL⟩
      obtain ⟨n1, n2, hd', h1', h2', hl, hm⟩ := ih.1 hL
      have d1 : m1.disj n1 := hd.disj_le (Hl.le_refl _) h1'
      have d2 : m1.disj n2 := hd.disj_le (Hl.le_refl _) h2'
      refine ⟨m1.join n1, n2, ?_, Hl.join_le h1 (h1'.le_trans h2), h2'.le_trans h2, ⟨m1, n1, d1, Hl.le_join_left _ _, Hl.le_join_right d1, ha, hl⟩, hm⟩
      exact (Hl.disj_join d2.disj_symm hd'.disj_symm).disj_symm
    · rintro ⟨m1, m2, hd, h1, h2, ⟨n1, n2, hd', h1', h2', ha, hl⟩, hm⟩
      have d1 : n1.disj m2 := hd.disj_le h1' (Hl.le_refl _)
      have d2 : n2.disj m2 := hd.disj_le h2' (Hl.le_refl _)
      refine ⟨n1, n2.join m2, Hl.disj_join hd' d1, h1'.le_trans h1, Hl.join_le (h2'.le_trans h1) h2, ha, ih.2 ⟨n2, m2, d2, Hl.le_join_left _ _, Hl.le_join_right d2, hl, hm⟩⟩

/-- No row of cells. -/
def _root_.Go.Obj.rowless : Obj → Bool
  | .cells .. => false
  | _ => true

/-- What the world must be for a heaplet to lie in it; what was there at first is as it was, and no heaplet reaches into it. -/
def Sat (ω : World) (m : Hl) (w : World) : Prop :=
  ∀ b o c, m b o = some c → ω.heap.size ≤ b ∧ b < w.heap.size ∧
    match c with
    | .v x => w.cell? ⟨b, o, none⟩ = some x ∧ w.frozen? ⟨b, o, none⟩ = false
    | .o x => w.heap[b]? = some x ∧ x.rowless = true

def Base (ω w : World) : Prop := ω.heap.size ≤ w.heap.size ∧ (∀ b, b < ω.heap.size → w.heap[b]? = ω.heap[b]?) ∧ w.os = ω.os ∧ w.output = ω.output

def Holds (ω : World) (L : List HP) (w : World) : Prop := Base ω w ∧ ∃ m, Stars L m ∧ Sat ω m w

section
variable {ω w : World} {L L' : List HP}

theorem Holds.imp (h : ∀ m, Stars L m → Stars L' m) (H : Holds ω L w) : Holds ω L' w := by
  obtain ⟨hb, m, hs, hm⟩ := H; exact ⟨hb, m, h _ hs, hm⟩
theorem Holds.swap {a b : HP} (H : Holds ω (a :: b :: L) w) : Holds ω (b :: a :: L) w := H.imp fun _ => Stars.swap
theorem Holds.tail {a : HP} (H : Holds ω (a :: L) w) : Holds ω L w := H.imp fun _ => Stars.tail
theorem Holds.first {a b : HP} (h : ∀ m, a m → b m) (H : Holds ω (a :: L) w) : Holds ω (b :: L) w := H.imp fun _ => Stars.first h
theorem Holds.start (w : World) : Holds w [] w := ⟨⟨Nat.le_refl _, fun _ _ => rfl, rfl, rfl⟩, fun _ _ => none, trivial, fun _ _ _ h => by cases h⟩

/-- One chunk taken out of a list. -/
inductive Sel : List HP → HP → List HP → Prop where
  | here {c : HP} {L : List HP} : Sel (c :: L) c L
  | there {a c : HP} {L L' : List HP} : Sel L c L' → Sel (a :: L) c (a :: L')

theorem Sel.out {c : HP} (s : Sel L c L') : ∀ m, Stars L m → Stars (c :: L') m := by
  induction s with
  | here => exact fun _ h => h
  | there _ ih => exact fun _ h => (h.skip ih).swap
theorem Sel.back {c : HP} (s : Sel L c L') : ∀ m, Stars (c :: L') m → Stars L m := by
  induction s with
  | here => exact fun _ h => h
  | there _ ih => exact fun _ h => h.swap.skip ih

/-- Several chunks taken out, in this order; what is left. -/
inductive Pick : List HP → List HP → List HP → Prop where
  | nil {L : List HP} : Pick L [] L
  | cons {L L' R cs : List HP} {c : HP} : Sel L c L' → Pick L' cs R → Pick L (c :: cs) R

theorem Pick.out {cs R : List HP} (s : Pick L cs R) : ∀ m, Stars L m → Stars (cs ++ R) m := by
  induction s with
  | nil => exact fun _ h => h
  | cons s _ ih => exact fun _ h => (s.out _ h).skip ih
theorem Pick.back {cs R : List HP} (s : Pick L cs R) : ∀ m, Stars (cs ++ R) m → Stars L m := by
  induction s with
  | nil => exact fun _ h => h
  | cons s _ ih => exact fun _ h => s.back _ (h.skip ih)

/-- 'L' can be seen as 'M': chunk by chunk in M's order; what is left over is let go, or is M's own tail. -/
inductive Sees : List HP → List HP → Prop where
  | refl {L : List HP} : Sees L L
  | drop {L : List HP} : Sees L []
  | cons {L L' M : List HP} {c : HP} : Sel L c L' → Sees L' M → Sees L (c :: M)
  | skip' {L M : List HP} {a : HP} : Sees L M → Sees (a :: L) M
  | of {L M : List HP} : (∀ m, Stars L m → Stars M m) → Sees L M

theorem Sees.skip {M : List HP} {a : HP} (s : Sees L M) : Sees (a :: L) M := .skip' s
theorem Sees.out {M : List HP} (s : Sees L M) : ∀ m, Stars L m → Stars M m := by
  induction s with
  | refl => exact fun _ h => h
  | drop => exact fun _ _ => trivial
  | cons s _ ih => exact fun _ h => (s.out _ h).skip ih
  | skip' _ ih => exact fun _ h => ih _ h.tail
  | of h => exact h
theorem Holds.sees {M : List HP} (s : Sees L M) (H : Holds ω L w) : Holds ω M w := H.imp s.out

/-! ### Chunks -/
/-- So many cells in a row. -/
@[irreducible] def row (b off : Nat) (vs : List Value) : HP := fun m => ∀ i v, vs[i]? = some v → m b (off + i) = some (.v v)
/-- A whole object. -/
@[irreducible] def blk (b : Nat) (x : Obj) : HP := fun m => ∀ o, m b o = some (.o x)
def fact (p : Prop) : HP := fun _ => p
def ex {α : Type} (f : α → List HP) : HP := fun m => ∃ x, Stars (f x) m
def pack (L : List HP) : HP := Stars L

theorem holds_fact {p : Prop} : Holds ω (fact p :: L) w ↔ p ∧ Holds ω L w := by
  constructor
  · intro h
    refine ⟨?_, h.tail⟩
    obtain ⟨_, m, ⟨_, _, _, _, _, hp, _⟩, _⟩ := h; exact hp
  · rintro ⟨hp, hb, m, hs, hm⟩
    exact ⟨hb, m, ⟨fun _ _ => none, m, ⟨fun _ _ => .inl rfl⟩, ⟨fun _ _ _ h => (by cases h)⟩, Hl.le_refl _, hp, hs⟩, hm⟩

theorem stars_pack {M : List HP} {m : Hl} : Stars (pack M :: L) m ↔ Stars (M ++ L) m := by
  rw [Stars.append]
  constructor
  · rintro ⟨m1, m2, hd, h1, h2, ha, hL⟩; exact ⟨m1, m2, hd, h1, h2, ha, hL⟩
  · rintro ⟨m1, m2, hd, h1, h2, ha, hL⟩; exact ⟨m1, m2, hd, h1, h2, ha, hL⟩
theorem holds_pack {M : List HP} : Holds ω (pack M :: L) w ↔ Holds ω (M ++ L) w :=
  ⟨fun h => h.imp fun _ => stars_pack.1, fun h => h.imp fun _ => stars_pack.2⟩
theorem stars_ex {α : Type} {f : α → List HP} {m : Hl} : Stars (ex f :: L) m ↔ ∃ x, Stars (f x ++ L) m := by
  constructor
  · rintro ⟨m1, m2, hd, h1, h2, ⟨x, ha⟩, hL⟩; exact ⟨x, Stars.append.2 ⟨m1, m2, hd, h1, h2, ha, hL⟩⟩
  · rintro ⟨x, h⟩; obtain ⟨m1, m2, hd, h1, h2, ha, hL⟩ := Stars.append.1 h; exact ⟨m1, m2, hd, h1, h2, ⟨x, ha⟩, hL⟩
theorem holds_ex {α : Type} {f : α → List HP} : Holds ω (ex f :: L) w ↔ ∃ x, Holds ω (f x ++ L) w := by
  constructor
  · rintro ⟨hb, m, hs, hm⟩; obtain ⟨x, h⟩ := stars_ex.1 hs; exact ⟨x, hb, m, h, hm⟩
  · rintro ⟨x, hb, m, hs, hm⟩; exact ⟨hb, m, stars_ex.2 ⟨x, hs⟩, hm⟩
end

/-! ### Rows -/
section
variable {ω w : World} {L L' : List HP}

theorem row_append {b off : Nat} {xs ys : List Value} {m : Hl} : Stars (row b off (xs ++ ys) :: L) m ↔ Stars (row b off xs :: row b (off + xs.length) ys :: L) m := by
  unfold row
  constructor
  · rintro ⟨m1, m2, hd, h1, h2, hr, hL⟩
    let n1 : Hl := fun b' o => if b' = b ∧ off ≤ o ∧ o < off + xs.length then m1 b' o else none
    let n2 : Hl := fun b' o => if b' = b ∧ off ≤ o ∧ o < off + xs.length then none else m1 b' o
    have l1 : n1.le m1 := by
      refine ⟨fun b' o c h => ?_⟩
      have h : (if b' = b ∧ off ≤ o ∧ o < off + xs.length then m1 b' o else none) = some c := h
      split at h
      · exact h
      · cases h
    have l2 : n2.le m1 := by
      refine ⟨fun b' o c h => ?_⟩
      have h : (if b' = b ∧ off ≤ o ∧ o < off + xs.length then none else m1 b' o) = some c := h
      split at h
      · cases h
      · exact h
    have dn : n1.disj n2 := by
      refine ⟨fun b' o => ?_⟩
      by_cases h : b' = b ∧ off ≤ o ∧ o < off + xs.length
      · right; show (if b' = b ∧ off ≤ o ∧ o < off + xs.length then none else m1 b' o) = none; rw [if_pos h]
      · left; show (if b' = b ∧ off ≤ o ∧ o < off + xs.length then m1 b' o else none) = none; rw [if_neg h]
    have d2 : n2.disj m2 := hd.disj_le l2 (Hl.le_refl _)
    have d1 : n1.disj m2 := hd.disj_le l1 (Hl.le_refl _)
    refine ⟨n1, n2.join m2, Hl.disj_join dn d1, l1.le_trans h1, Hl.join_le (l2.le_trans h1) h2, ?_, n2, m2, d2, Hl.le_join_left _ _, Hl.le_join_right d2, ?_, hL⟩
    · intro i v hv
      have hlt : i < xs.length := by
        rcases Nat.lt_or_ge i xs.length with h | h
        · exact h
        · rw [List.getElem?_eq_none h] at hv; cases hv
      show (if b = b ∧ off ≤ off + i ∧ off + i < off + xs.length then m1 b (off + i) else none) = _
      rw [if_pos ⟨rfl, by omega, by omega⟩]
      exact hr i v (by rw [List.getElem?_append_left hlt]; exact hv)
    · intro i v hv
      show (if b = b ∧ off ≤ off + xs.length + i ∧ off + xs.length + i < off + xs.length then none else m1 b (off + xs.length + i)) = _
      rw [if_neg (by omega), Nat.add_assoc]
      exact hr (xs.length + i) v (by rw [List.getElem?_append_right (by omega)]; simpa using hv)
  · rintro ⟨m1, m2, hd, h1, h2, hr, n1, n2, hd', h1', h2', hr', hL⟩
    have d1 : m1.disj n1 := hd.disj_le (Hl.le_refl _) h1'
    have d2 : m1.disj n2 := hd.disj_le (Hl.le_refl _) h2'
    refine ⟨m1.join n1, n2, (Hl.disj_join d2.disj_symm hd'.disj_symm).disj_symm, Hl.join_le h1 (h1'.le_trans h2), h2'.le_trans h2, ?_, hL⟩
    intro i v hv
    rcases Nat.lt_or_ge i xs.length with hlt | hge
    · rw [List.getElem?_append_left hlt] at hv
      exact (Hl.le_join_left _ _).h _ _ _ (hr i v hv)
    · rw [List.getElem?_append_right hge] at hv
      have := hr' _ _ hv
      rw [show off + xs.length + (i - xs.length) = off + i from by omega] at this
      exact (Hl.le_join_right d1).h _ _ _ this

theorem holds_row_append {b off : Nat} {xs ys : List Value} : Holds ω (row b off (xs ++ ys) :: L) w ↔ Holds ω (row b off xs :: row b (off + xs.length) ys :: L) w :=
  ⟨fun h => h.imp fun _ => row_append.1, fun h => h.imp fun _ => row_append.2⟩

theorem Sat.weaken {m n : Hl} (h : m.le n) (s : Sat ω n w) : Sat ω m w := fun b o c hc => s b o c (h.h _ _ _ hc)

/-- What a row says of the world. -/
theorem Holds.cell {b off : Nat} {vs : List Value} {i : Nat} {v : Value} (H : Holds ω (row b off vs :: L) w) (hv : vs[i]? = some v) :
    w.cell? ⟨b, off + i, none⟩ = some v ∧ w.frozen? ⟨b, off + i, none⟩ = false ∧ ω.heap.size ≤ b ∧ b < w.heap.size := by
  obtain ⟨hb, m, ⟨m1, m2, hd, h1, h2, hr, hL⟩, hm⟩ := H
  unfold row at hr
  obtain ⟨ha, hlt, hx, hy⟩ := hm _ _ _ (h1.h _ _ _ (hr i v hv))
  exact ⟨hx, hy, ha, hlt⟩

theorem Holds.obj {b : Nat} {x : Obj} (H : Holds ω (blk b x :: L) w) : w.heap[b]? = some x ∧ ω.heap.size ≤ b ∧ b < w.heap.size ∧ x.rowless = true := by
  obtain ⟨hb, m, ⟨m1, m2, hd, h1, h2, hr, hL⟩, hm⟩ := H
  unfold blk at hr
  obtain ⟨ha, hlt, hx, hy⟩ := hm _ _ _ (h1.h _ _ _ (hr 0))
  exact ⟨hx, ha, hlt, hy⟩

/-- A new row of cells. -/
theorem Holds.alloc {c : Array Value} {t : TypeId} (H : Holds ω L w) : Holds ω (row w.heap.size 0 c.toList :: L) (w.alloc (.cells c t)) := by
  obtain ⟨⟨hb1, hb2, hb3, hb4⟩, m, hs, hm⟩ := H
  let n : Hl := fun b o => if b = w.heap.size then (c[o]?).map .v else none
  have hn : ∀ b o x, n b o = some x → b = w.heap.size := by
    intro b o x h
    have h : (if b = w.heap.size then (c[o]?).map Cel.v else none) = some x := h
    split at h
    · assumption
    · cases h
  have hd : n.disj m := by
    refine ⟨fun b o => ?_⟩
    cases e : n b o with
    | none => exact .inl rfl
    | some x =>
      right
      have := hn _ _ _ e
      cases e' : m b o with
      | none => rfl
      | some y => have := (hm _ _ _ e').2.1; omega
  refine ⟨⟨?_, ?_, hb3, hb4⟩, n.join m, ⟨n, m, hd, Hl.le_join_left _ _, Hl.le_join_right hd, ?_, hs⟩, ?_⟩
  · show _ ≤ (w.heap.push _).size; simp; omega
  · intro b hlt
    rw [← hb2 b hlt]
    show (w.heap.push _)[b]? = _
    rw [Array.getElem?_push_lt (by omega)]
    simp [show b < w.heap.size from by omega]
  · unfold row
    intro i v hv
    show (if w.heap.size = w.heap.size then (c[0 + i]?).map Cel.v else none) = _
    rw [if_pos rfl, Nat.zero_add]
    simp at hv
    simp [hv]
  · intro b o x hx
    simp only [Hl.join] at hx
    split at hx
    · rename_i x' e
      cases hx
      have eb := hn _ _ _ e
      subst eb
      have e : (if w.heap.size = w.heap.size then (c[o]?).map Cel.v else none) = some x := e
      rw [if_pos rfl] at e
      cases ec : c[o]? with
      | none => rw [ec] at e; cases e
      | some v =>
        rw [ec] at e; cases e
        exact ⟨hb1, by show _ < (w.heap.push _).size; simp, by rw [World.cell?_alloc_new]; exact ec, World.frozen?_alloc_new _ _ _ _⟩
    · obtain ⟨ha, hlt, hx⟩ := hm _ _ _ hx
      refine ⟨ha, by show _ < (w.heap.push _).size; simp; omega, ?_⟩
      cases x with
      | v y => exact ⟨by rw [World.cell?_alloc_old _ _ _ (by show b ≠ _; omega)]; exact hx.1, by rw [World.frozen?_alloc_old _ _ _ (by show b ≠ _; omega)]; exact hx.2⟩
      | o y =>
        refine ⟨?_, hx.2⟩
        show (w.heap.push _)[b]? = _
        rw [Array.getElem?_push_lt hlt]
        rw [Array.getElem?_eq_getElem hlt] at hx
        exact hx.1

/-- A new object that is no row of cells, or one that is kept whole. -/
theorem Holds.allocObj {x : Obj} (hx0 : x.rowless = true) (H : Holds ω L w) : Holds ω (blk w.heap.size x :: L) (w.alloc x) := by
  obtain ⟨⟨hb1, hb2, hb3, hb4⟩, m, hs, hm⟩ := H
  let n : Hl := fun b _ => if b = w.heap.size then some (.o x) else none
  have hn : ∀ b o y, n b o = some y → b = w.heap.size ∧ y = .o x := by
    intro b o y h
    have h : (if b = w.heap.size then some (Cel.o x) else none) = some y := h
    split at h
    · cases h; exact ⟨by assumption, rfl⟩
    · cases h
  have hd : n.disj m := by
    refine ⟨fun b o => ?_⟩
    cases e : n b o with
    | none => exact .inl rfl
    | some y =>
      right
      have := (hn b o _ e).1
      cases e' : m b o with
      | none => rfl
      | some y => have := (hm _ _ _ e').2.1; omega
  refine ⟨⟨?_, ?_, hb3, hb4⟩, n.join m, ⟨n, m, hd, Hl.le_join_left _ _, Hl.le_join_right hd, ?_, hs⟩, ?_⟩
  · show _ ≤ (w.heap.push _).size; simp; omega
  · intro b hlt
    rw [← hb2 b hlt]
    show (w.heap.push _)[b]? = _
    rw [Array.getElem?_push_lt (by omega)]
    simp [show b < w.heap.size from by omega]
  · unfold blk
    intro o
    show (if w.heap.size = w.heap.size then some (Cel.o x) else none) = _
    rw [if_pos rfl]
  · intro b o y hy
    simp only [Hl.join] at hy
    split at hy
    · rename_i y' e
      cases hy
      obtain ⟨eb, ey⟩ := hn b o _ e
      subst eb; subst ey
      exact ⟨hb1, by show _ < (w.heap.push _).size; simp, by show (w.heap.push _)[w.heap.size]? = _; simp, hx0⟩
    · obtain ⟨ha, hlt, hx⟩ := hm _ _ _ hy
      refine ⟨ha, by show _ < (w.heap.push _).size; simp; omega, ?_⟩
      cases y with
      | v y => exact ⟨by rw [World.cell?_alloc_old _ _ _ (by show b ≠ _; omega)]; exact hx.1, by rw [World.frozen?_alloc_old _ _ _ (by show b ≠ _; omega)]; exact hx.2⟩
      | o y =>
        refine ⟨?_, hx.2⟩
        show (w.heap.push _)[b]? = _
        rw [Array.getElem?_push_lt hlt]
        rw [Array.getElem?_eq_getElem hlt] at hx
        exact hx.1

/-- A world with the same heap. -/
theorem Holds.same {w' : World} (H : Holds ω L w) (h : w'.heap = w.heap) (ho1 : w'.os = w.os := by rfl) (ho2 : w'.output = w.output := by rfl) : Holds ω L w' := by
  obtain ⟨hb, m, hs, hm⟩ := H
  have hc : ∀ a, w'.cell? a = w.cell? a := fun a => by unfold World.cell?; rw [h]
  have hf : ∀ a, w'.frozen? a = w.frozen? a := fun a => by unfold World.frozen?; rw [h]
  refine ⟨⟨by rw [h]; exact hb.1, by rw [h]; exact hb.2.1, ho1.trans hb.2.2.1, ho2.trans hb.2.2.2⟩, m, hs, ?_⟩
  intro b o c hc'
  obtain ⟨h1, h2, h3⟩ := hm b o c hc'
  refine ⟨h1, by rw [h]; exact h2, ?_⟩
  cases c with
  | v x => exact ⟨by rw [hc]; exact h3.1, by rw [hf]; exact h3.2⟩
  | o x => exact ⟨by rw [h]; exact h3.1, h3.2⟩

theorem heap_setCell_ne (w : World) (a : Addr) (v : Value) (k : Nat) (h : k ≠ a.block) : (w.setCell a v).heap[k]? = w.heap[k]? := by
  unfold World.setCell
  simp only
  rw [Array.getElem?_modify]
  rw [if_neg (fun e => h e.symm)]

theorem size_setCell (w : World) (a : Addr) (v : Value) : (w.setCell a v).heap.size = w.heap.size := by
  unfold World.setCell; simp

/-- A cell of a row is stored to. -/
theorem Holds.set {b off : Nat} {vs : List Value} {i : Nat} {v : Value} (H : Holds ω (row b off vs :: L) w) (hi : i < vs.length) :
    Holds ω (row b off (vs.set i v) :: L) (w.setCell ⟨b, off + i, none⟩ v) := by
  have hold := H
  obtain ⟨⟨hb1, hb2, hb3, hb4⟩, m, ⟨m1, m2, hd, h1, h2, hr, hL⟩, hm⟩ := H
  unfold row at hr
  have hat : m1 b (off + i) = some (.v vs[i]) := hr i _ (List.getElem?_eq_getElem hi)
  have hin := hm _ _ _ (h1.h _ _ _ hat)
  have hm2 : m2 b (off + i) = none := by
    rcases hd.h b (off + i) with e | e
    · rw [hat] at e; cases e
    · exact e
  let n : Hl := fun b' o => if b' = b ∧ o = off + i then some (.v v) else m1 b' o
  have hn : ∀ b' o, (¬ (b' = b ∧ o = off + i)) → n b' o = m1 b' o := fun b' o h => by
    show (if b' = b ∧ o = off + i then some (Cel.v v) else m1 b' o) = _
    rw [if_neg h]
  have hd' : n.disj m2 := by
    refine ⟨fun b' o => ?_⟩
    by_cases e : b' = b ∧ o = off + i
    · obtain ⟨rfl, rfl⟩ := e; exact .inr hm2
    · rw [hn _ _ e]; exact hd.h b' o
  refine ⟨⟨by rw [size_setCell]; exact hb1, fun k hk => ?_, hb3, hb4⟩, n.join m2, ⟨n, m2, hd', Hl.le_join_left _ _, Hl.le_join_right hd', ?_, hL⟩, ?_⟩
  · rw [heap_setCell_ne _ _ _ _ (by have := hin.1; show k ≠ b; omega)]; exact hb2 k hk
  · unfold row
    intro j u hu
    by_cases e : j = i
    · subst e
      show (if b = b ∧ off + j = off + j then some (Cel.v v) else m1 b (off + j)) = _
      rw [if_pos ⟨rfl, rfl⟩]
      rw [List.getElem?_set_self (by simpa using hi)] at hu
      cases hu; rfl
    · rw [hn _ _ (by omega)]
      rw [List.getElem?_set_ne (Ne.symm e)] at hu
      exact hr j u hu
  · intro b' o c hc
    by_cases e : b' = b ∧ o = off + i
    · obtain ⟨rfl, rfl⟩ := e
      have : (n.join m2) b' (off + i) = some (.v v) := by
        simp only [Hl.join]
        have : n b' (off + i) = some (.v v) := by
          show (if b' = b' ∧ off + i = off + i then some (Cel.v v) else m1 b' (off + i)) = _
          rw [if_pos ⟨rfl, rfl⟩]
        rw [this]
      rw [this] at hc; cases hc
      exact ⟨hin.1, by rw [size_setCell]; exact hin.2.1, World.cell?_setCell_same _ _ _ hin.2.2.1, by rw [World.frozen?_setCell]; exact hin.2.2.2⟩
    · have hmc : m b' o = some c := by
        simp only [Hl.join] at hc
        rw [hn _ _ e] at hc
        split at hc
        · rename_i c' ec; cases hc; exact h1.h _ _ _ ec
        · exact h2.h _ _ _ hc
      obtain ⟨k1, k2, k3⟩ := hm _ _ _ hmc
      refine ⟨k1, by rw [size_setCell]; exact k2, ?_⟩
      cases c with
      | v x =>
        refine ⟨?_, by rw [World.frozen?_setCell]; exact k3.2⟩
        rw [World.cell?_setCell_other]
        · exact k3.1
        · intro h; apply e; injection h with h1 h2; exact ⟨h1.symm, h2.symm⟩
      | o x =>
        refine ⟨?_, k3.2⟩
        show (w.setCell _ v).heap[b']? = _
        by_cases eb : b' = b
        · subst eb
          exfalso
          have k := hin.2.2.1
          unfold World.cell? at k
          rw [k3.1] at k
          have := k3.2
          cases x <;> simp [Obj.rowless] at this k
        · rw [heap_setCell_ne _ _ _ _ eb]; exact k3.1
end
end Go.Proofs.YtnjljfjncfbinaaGreat
