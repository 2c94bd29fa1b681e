/- Slices: owned and read; append, make, indices, bytes as text. -/
import Derived.Test.YtnjljfjncfbinaaGreatSl5
import Derived.Laws.Append
import Derived.Laws.BytesString
set_option linter.all false
namespace Go.Proofs.YtnjljfjncfbinaaGreat
open Go

/-- A slice of n elements (es cells each) whose cells, and the spare ones behind them, are one's own. -/
@[irreducible] def own (es : Nat) (p : Option Addr) (n c : Nat) (xs : List Value) : HP := fun m =>
  xs.length = n * es ∧ ((p = none ∧ n = 0 ∧ c = 0) ∨ ∃ b off sp, p = some ⟨b, off, none⟩ ∧ n ≤ c ∧ sp.length = (c - n) * es ∧ row b off (xs ++ sp) m)

/-- A world in which a slice's elements read so. -/
def RdW (w : World) (es : Nat) (p : Option Addr) (n : Nat) (xs : List Value) : Prop :=
  xs.length = n * es ∧ match p with
    | none => n = 0
    | some a => (n = 0 ∨ a.spot = none) ∧ ∀ i v, xs[i]? = some v → w.cell? ⟨a.block, a.off + i, none⟩ = some v

/-- A chunk by which a slice's elements read so. -/
def Rd (ω : World) (ch : HP) (es : Nat) (p : Option Addr) (n : Nat) (xs : List Value) : Prop := ∀ L w, Holds ω (ch :: L) w → RdW w es p n xs

section
variable {ω : World} {P : Program} {N : Nat} {E : Env} {H S L : List HP}

theorem stars_own {es n c b off : Nat} {xs : List Value} {m : Hl} : Stars (own es (some ⟨b, off, none⟩) n c xs :: L) m ↔ ∃ sp, (xs.length = n * es ∧ n ≤ c ∧ sp.length = (c - n) * es) ∧ Stars (row b off (xs ++ sp) :: L) m := by
  unfold own
  constructor
  · rintro ⟨m1, m2, hd, h1, h2, ⟨hl, h⟩, hL⟩
    rcases h with ⟨h, _⟩ | ⟨b', off', sp, e, hn, hs, hr⟩
    · cases h
    · cases e
      exact ⟨sp, ⟨hl, hn, hs⟩, m1, m2, hd, h1, h2, hr, hL⟩
  · rintro ⟨sp, ⟨hl, hn, hs⟩, m1, m2, hd, h1, h2, hr, hL⟩
    exact ⟨m1, m2, hd, h1, h2, ⟨hl, .inr ⟨b, off, sp, rfl, hn, hs, hr⟩⟩, hL⟩
theorem holds_own {es n c b off : Nat} {xs : List Value} {w : World} : Holds ω (own es (some ⟨b, off, none⟩) n c xs :: L) w ↔ ∃ sp, (xs.length = n * es ∧ n ≤ c ∧ sp.length = (c - n) * es) ∧ Holds ω (row b off (xs ++ sp) :: L) w := by
  constructor
  · rintro ⟨hb, m, hs, hm⟩; obtain ⟨sp, h1, h2⟩ := stars_own.1 hs; exact ⟨sp, h1, hb, m, h2, hm⟩
  · rintro ⟨sp, h1, hb, m, hs, hm⟩; exact ⟨hb, m, stars_own.2 ⟨sp, h1, hs⟩, hm⟩
theorem Holds.own_facts {es n c : Nat} {p : Option Addr} {xs : List Value} {w : World} (h : Holds ω (own es p n c xs :: L) w) : xs.length = n * es ∧ n ≤ c ∧ ((p = none ∧ n = 0 ∧ c = 0) ∨ ∃ b off, p = some ⟨b, off, none⟩) := by
  obtain ⟨_, m, ⟨m1, _, _, _, _, ho, _⟩, _⟩ := h
  unfold own at ho
  obtain ⟨hl, h | ⟨b, off, sp, e, hn, _⟩⟩ := ho
  · exact ⟨hl, by omega, .inl h⟩
  · exact ⟨hl, hn, .inr ⟨b, off, e⟩⟩
theorem own_nil {es : Nat} {m : Hl} (h : Stars L m) : Stars (own es none 0 0 [] :: L) m :=
  ⟨fun _ _ => none, m, ⟨fun _ _ => .inl rfl⟩, ⟨fun _ _ _ h => by cases h⟩, Hl.le_refl _, by unfold own; exact ⟨by simp, .inl ⟨rfl, rfl, rfl⟩⟩, h⟩
theorem Holds.own_nil {es : Nat} {w : World} (h : Holds ω L w) : Holds ω (own es none 0 0 [] :: L) w := h.imp fun _ => Go.Proofs.YtnjljfjncfbinaaGreat.own_nil
theorem Sees.own_nil {es : Nat} {M : List HP} (h : Sees L M) : ∀ m, Stars L m → Stars (own es none 0 0 [] :: M) m := fun _ hm => Go.Proofs.YtnjljfjncfbinaaGreat.own_nil (h.out _ hm)
/-- A row that is a slice's whole array. -/
theorem own_of_row {es n b : Nat} {xs : List Value} {m : Hl} (hl : xs.length = n * es) (h : Stars (row b 0 xs :: L) m) : Stars (own es (some ⟨b, 0, none⟩) n n xs :: L) m :=
  stars_own.2 ⟨[], ⟨hl, Nat.le_refl _, by simp⟩, by simpa using h⟩

theorem reads_own {es n c b off : Nat} {xs : List Value} : Reads ω (own es (some ⟨b, off, none⟩) n c xs) b off xs := by
  intro L w h i v hv
  obtain ⟨sp, _, h⟩ := holds_own.1 h
  refine (h.cell (i := i) ?_).1
  have hlt : i < xs.length := by
    rcases Nat.lt_or_ge i xs.length with h | h
    · exact h
    · rw [List.getElem?_eq_none h] at hv; cases hv
  rw [List.getElem?_append_left hlt]; exact hv
theorem rd_own {es n c : Nat} {p : Option Addr} {xs : List Value} : Rd ω (own es p n c xs) es p n xs := by
  intro L w h
  obtain ⟨hl, hn, h' | ⟨b, off, e⟩⟩ := h.own_facts
  · obtain ⟨rfl, h1, _⟩ := h'; exact ⟨hl, h1⟩
  · subst e; exact ⟨hl, .inr rfl, fun i v hv => reads_own L w h i v hv⟩
theorem rd_base {es n : Nat} {p : Option Addr} {xs : List Value} (h : RdW ω es p n xs) : Rd ω (fact True) es p n xs := by
  intro L w hw
  refine ⟨h.1, ?_⟩
  cases p with
  | none => exact h.2
  | some a =>
    refine ⟨h.2.1, fun i v hv => ?_⟩
    exact reads_base (ω := ω) (b := a.block) (off := a.off) (vs := xs) h.2.2 L w hw i v hv
theorem rd_row {b off n es : Nat} {xs : List Value} (hl : xs.length = n * es) : Rd ω (row b off xs) es (some ⟨b, off, none⟩) n xs := fun L w h => ⟨hl, .inr rfl, fun _ _ hv => (h.cell hv).1⟩
theorem rd_nil {ch : HP} {es : Nat} : Rd ω ch es none 0 [] := fun _ _ _ => ⟨by simp, rfl⟩
/-- A part of what reads. -/
theorem RdW.slice {w : World} {es n l k : Nat} {p : Option Addr} {xs : List Value} (h : RdW w es p n xs) (hk : l + k ≤ n) : RdW w es (p.map fun a => ⟨a.block, a.off + l * es, none⟩) k ((xs.drop (l * es)).take (k * es)) := by
  have hle : (l + k) * es ≤ n * es := Nat.mul_le_mul_right _ hk
  rw [Nat.add_mul] at hle
  refine ⟨by rw [List.length_take, List.length_drop, h.1]; omega, ?_⟩
  cases p with
  | none => have := h.2; simp only [Option.map_none] at *; omega
  | some a =>
    refine ⟨.inr rfl, fun i v hv => ?_⟩
    rw [List.getElem?_take] at hv
    split at hv
    · rw [List.getElem?_drop] at hv
      have := h.2.2 _ _ hv
      rwa [← Nat.add_assoc] at this
    · cases hv

theorem RdW.first {w : World} {es n : Nat} {p : Option Addr} {xs : List Value} (h : RdW w es p n xs) (c : Nat) : (Builtin.firstCells es n (.slice p n c)).run P w = .ok xs.toArray w := by
  cases p with
  | none =>
    have := h.2
    have hl := h.1
    rw [this] at hl
    have : xs = [] := List.eq_nil_of_length_eq_zero (by omega)
    subst this
    simp [Builtin.firstCells]
  | some a =>
    refine run_firstCells_some w es n a n c xs h.1 ?_
    intro j v hv
    have e : a = ⟨a.block, a.off, none⟩ := by
      rcases h.2.1 with h0 | this
      · have hl := h.1
        subst h0
        have : xs = [] := List.eq_nil_of_length_eq_zero (by omega)
        subst this; simp at hv
      · cases a; simp at this ⊢; exact this
    rw [e, addr_add]
    exact h.2.2 j v hv

/-- append: what is one's own grows by what is read. -/
theorem ot_append {o : Oper} {x y : Operand} {T T2 e e2 : TypeId} {es by_ n c k c2 : Nat} {p p2 : Option Addr} {xs ys : List Value} {ch : HP} {z : Value} {ti : TypeInfo}
    (ho : o.op = .call ⟨.builtin .append, #[x, y], #[T, T2]⟩) (hx : ev E x = some (.slice p n c)) (hy : ev E y = some (.slice p2 k c2))
    (hT : ∀ w, (underlying T).run P w = .ok (.slice e) w) (hT2 : ∀ w, (underlying T2).run P w = .ok (.slice e2) w)
    (hes : ∀ w, (sizeOf e).run P w = .ok es w) (hti : ∀ w, (typeInfo e).run P w = .ok ti w) (hby : ti.bytes = by_) (hz : ∀ w, (zeroValue e).run P w = .ok z w) (hzs : z.cells.size = es) (he0 : 0 < by_)
    (s : Sel H (own es p n c xs) L) (s2 : Sel L ch S) (hr : Rd ω ch es p2 k ys) (hp : plainCells ys = true) (hb : (n + k) * by_ ≤ 140737488355328) :
    OT ω P o E H fun v H' => ∃ p' c', v = .slice p' (n + k) c' ∧ H' = own es p' (n + k) c' (xs ++ ys) :: L := by
  intro ρ hρ w hw
  have h1 := hρ x (by simp [ho, Op.operands, Call.operands]) _ hx
  have h2 := hρ y (by simp [ho, Op.operands, Call.operands]) _ hy
  have hw1 := hw.sel s
  have hrd := hr (own es p n c xs :: S) w ((hw1.imp fun _ => Stars.skip s2.out).swap)
  obtain ⟨hl, hnc, hcase⟩ := hw1.own_facts
  have hrun : (execOp ρ o).run P w = ((Builtin.append_ #[T, T2] o.type #[.slice p n c, .slice p2 k c2]).run P w).andThen fun v w => .ok (.value v) w := by
    simp [execOp, ho, resolve, h1, h2, invoke, builtin]
  rw [hrun]
  unfold Builtin.append_
  simp only [Sem.run_bind, hT, hT2, Result.andThen_ok, hes, List.getElem?_toArray, List.getElem?_cons_zero, List.getElem?_cons_succ, Sem.run_pure]
  simp only [Bool.false_eq_true, if_false, Builtin.lenOf, Sem.run_pure, Sem.run_bind, Result.andThen_ok, Bool.not_false, if_true, Sem.run_ite]
  by_cases hfit : n + k ≤ c
  · rw [if_pos hfit]
    simp only [Sem.run_bind, hrd.first, Result.andThen_ok]
    rcases hcase with ⟨rfl, rfl, rfl⟩ | ⟨b, off, rfl⟩
    · have hk0 : k = 0 := by omega
      subst hk0
      have : ys = [] := List.eq_nil_of_length_eq_zero (by have := hrd.1; omega)
      subst this
      simp only [Sem.run_pure, Result.andThen_ok]
      exact ⟨_, ⟨none, 0, rfl, rfl⟩, by simpa using hw1⟩
    · obtain ⟨sp, ⟨_, _, hsp⟩, hrow⟩ := holds_own.1 hw1
      have hkl : k * es ≤ sp.length := by rw [hsp]; exact Nat.mul_le_mul_right _ (by omega)
      obtain ⟨w', hst, hw'⟩ := Holds.splice (P := P) ys (xs ++ sp) (n * es) 0 L w hrow (by rw [List.length_append, hl, hrd.1]; omega) hp ⟨b, off + n * es, none⟩ (by rw [addr_add]; rfl) (fun j => by rw [addr_add]; congr 1; omega)
      simp only [addr_add, Sem.run_bind]
      rw [hst]
      simp only [Result.andThen_ok, Sem.run_pure]
      refine ⟨_, ⟨some ⟨b, off, none⟩, c, rfl, rfl⟩, holds_own.2 ⟨sp.drop (k * es), ⟨by rw [List.length_append, hl, hrd.1, Nat.add_mul], hfit, by rw [List.length_drop, hsp, ← Nat.sub_mul]; congr 1; omega⟩, ?_⟩⟩
      have hsplice : ∀ (ys xs sp : List Value), ys.length ≤ sp.length → splice (xs ++ sp) xs.length ys = xs ++ ys ++ sp.drop ys.length := by
        intro ys
        induction ys with
        | nil => intro xs sp _; simp [splice]
        | cons y ys ih =>
          intro xs sp hle
          cases sp with
          | nil => simp at hle
          | cons s sp =>
            simp only [splice]
            rw [show (xs ++ s :: sp).set xs.length y = (xs ++ [y]) ++ sp from by rw [List.set_append_right _ _ (Nat.le_refl _)]; simp]
            rw [show xs.length + 1 = (xs ++ [y]).length from by simp, ih (xs ++ [y]) sp (by simpa using hle)]
            simp
      have := hsplice ys xs sp (by rw [hrd.1]; exact hkl)
      rw [hl, hrd.1] at this
      rw [this] at hw'
      exact hw'
  · rw [if_neg hfit]
    have hgt : c < n + k := by omega
    have hg := growslice_fits hgt hb
    have hb' : ti.bytes ≠ 0 := by omega
    simp only [Sem.run_bind, hti, Result.andThen_ok, hby]
    rw [if_neg (by rintro ⟨_, h | h⟩ <;> omega), if_neg (by omega)]
    simp only [Sem.run_bind, run_choose, Result.andThen_ok, Question.forced, Bool.false_eq_true, if_false, run_askRoom]
    generalize hcap : Question.cut (.appendCap (n + k) c e) _ = cap
    have hcapge : n + k ≤ cap := by rw [← hcap]; simp [Question.cut]
    have hsame : ({ w with drawn := w.drawn + 1 } : World).heap = w.heap := rfl
    have hw2 : Holds ω (own es p n c xs :: L) { w with drawn := w.drawn + 1 } := hw1.same rfl
    have hrx := rd_own L _ hw2
    have hry : RdW { w with drawn := w.drawn + 1 } es p2 k ys := ⟨hrd.1, by
      have := hrd.2
      cases p2 with
      | none => exact this
      | some a => exact this⟩
    rw [hrx.first]
    simp only [Result.andThen_ok, hry.first, hz, Sem.run_pure, newRow, run_newObj, Sem.run_bind]
    refine ⟨_, ⟨some ⟨w.heap.size, 0, none⟩, cap, rfl, rfl⟩, ?_⟩
    have hal := hw2.tail.alloc (c := xs.toArray ++ ys.toArray ++ Builtin.zeroCells z.cells (cap - (n + k))) (t := e)
    refine holds_own.2 ⟨(Builtin.zeroCells z.cells (cap - (n + k))).toList, ⟨by rw [List.length_append, hl, hrd.1, Nat.add_mul], hcapge, ?_⟩, ?_⟩
    · simp [Builtin.zeroCells, hzs]
    · have e1 : (xs.toArray ++ ys.toArray ++ Builtin.zeroCells z.cells (cap - (n + k))).toList = xs ++ ys ++ (Builtin.zeroCells z.cells (cap - (n + k))).toList := by simp
      rw [e1] at hal
      exact hal
end
end Go.Proofs.YtnjljfjncfbinaaGreat
