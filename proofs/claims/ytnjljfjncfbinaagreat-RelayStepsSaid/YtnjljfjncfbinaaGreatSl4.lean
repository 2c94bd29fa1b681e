/- What each operation does that touches memory or calls; as lemmas of the logic. -/
import Derived.Test.YtnjljfjncfbinaaGreatSl3
set_option linter.all false
namespace Go.Proofs.YtnjljfjncfbinaaGreat
open Go

section
variable {ω : World} {P : Program} {N : Nat} {E : Env} {H S : List HP}

theorem Sel.app {L L' : List HP} {c : HP} (s : Sel L c L') (F : List HP) : Sel (L ++ F) c (L' ++ F) := by
  induction s with
  | here => exact .here
  | there _ ih => exact .there ih
theorem Holds.sel {L L' : List HP} {c : HP} {w : World} (s : Sel L c L') (h : Holds ω L w) : Holds ω (c :: L') w := h.imp s.out
theorem Holds.unsel {L L' : List HP} {c : HP} {w : World} (s : Sel L c L') (h : Holds ω (c :: L') w) : Holds ω L w := h.imp s.back

/-! ### Loads -/
/-- The chunk says so at each world in which it lies. -/
def Reads (ω : World) (c : HP) (b off : Nat) (vs : List Value) : Prop :=
  ∀ L w, Holds ω (c :: L) w → ∀ i v, vs[i]? = some v → w.cell? ⟨b, off + i, none⟩ = some v

theorem reads_row {b off : Nat} {vs : List Value} : Reads ω (row b off vs) b off vs := fun _ _ h i _ hv => (h.cell hv).1
theorem reads_base {b off : Nat} {vs : List Value} (h : ∀ i v, vs[i]? = some v → ω.cell? ⟨b, off + i, none⟩ = some v) : Reads ω (fact True) b off vs := by
  intro L w hw i v hv
  have := h i v hv
  have hb : b < ω.heap.size := by
    rcases Nat.lt_or_ge b ω.heap.size with h | h
    · exact h
    · unfold World.cell? at this; rw [Array.getElem?_eq_none h] at this; cases this
  unfold World.cell? at this ⊢
  rw [hw.1.2.1 b hb]; exact this
theorem Reads.cut {c : HP} {b off k n : Nat} {vs : List Value} (h : Reads ω c b off vs) : Reads ω c b (off + k) ((vs.drop k).take n) := by
  intro L w hw i v hv
  have h1 : vs[k + i]? = some v := by
    rw [List.getElem?_take] at hv
    split at hv
    · rwa [List.getElem?_drop] at hv
    · cases hv
  have := h L w hw (k + i) v h1
  rwa [← Nat.add_assoc] at this

theorem oq_load_of {o : Oper} {T : TypeId} {x : Operand} {b off i : Nat} {v : Value} {vs : List Value} {c : HP} {S' : List HP} (ho : o.op = .load T x) (hx : ev E x = some (.pointer (some ⟨b, i, none⟩))) (hT : ∀ w, (isAgg T).run P w = .ok false w)
    (hr : Reads ω c b off vs) (s : Sel S c S') (hle : Nat.ble off i = true) (hv : vs[i - off]? = some v) : OQ ω P o E S v := by
  intro F ρ hρ w hw
  have h1 := hρ x (by simp [ho, Op.operands]) _ hx
  have hc := hr _ _ (hw.sel (s.app F)) _ _ hv
  rw [show off + (i - off) = i from by have := Nat.le_of_ble_eq_true hle; omega] at hc
  have hrun : (execOp ρ o).run P w = .ok (.value v) w := by
    simp [execOp, ho, h1, Instr.loadAt, Instr.sureAddr, run_loadVar_word hT hc]
  rw [hrun]
  exact ⟨_, ⟨rfl, rfl⟩, hw⟩
theorem oq_loadAgg_of {o : Oper} {T : TypeId} {x : Operand} {b off i n : Nat} {us vs : List Value} {c : HP} {S' : List HP} (ho : o.op = .load T x) (hx : ev E x = some (.pointer (some ⟨b, i, none⟩)))
    (hT : ∀ w, (isAgg T).run P w = .ok true w) (hs : ∀ w, (sizeOf T).run P w = .ok n w)
    (hr : Reads ω c b off vs) (s : Sel S c S') (hle : Nat.ble off i = true) (hv : (vs.drop (i - off)).take n = us) (hn : us.length = n) : OQ ω P o E S (.agg us.toArray) := by
  intro F ρ hρ w hw
  have h1 := hρ x (by simp [ho, Op.operands]) _ hx
  have hle := Nat.le_of_ble_eq_true hle
  have hc : ∀ j v, us[j]? = some v → w.cell? ⟨b, i + j, none⟩ = some v := by
    intro j v hj
    subst hv
    have := (hr.cut (k := i - off) (n := n)) _ _ (hw.sel (s.app F)) j v hj
    rwa [show off + (i - off) = i from by omega] at this
  have hrun : (execOp ρ o).run P w = .ok (.value (.agg us.toArray)) w := by
    simp [execOp, ho, h1, Instr.loadAt, Instr.sureAddr, run_loadVar_agg hT hs hn hc]
  rw [hrun]
  exact ⟨_, ⟨rfl, rfl⟩, hw⟩
theorem oq_load {o : Oper} {T : TypeId} {x : Operand} {b off i : Nat} {v : Value} {vs : List Value} {S' : List HP} (ho : o.op = .load T x) (hx : ev E x = some (.pointer (some ⟨b, i, none⟩))) (hT : ∀ w, (isAgg T).run P w = .ok false w)
    (s : Sel S (row b off vs) S') (hle : Nat.ble off i = true) (hv : vs[i - off]? = some v) : OQ ω P o E S v := oq_load_of ho hx hT reads_row s hle hv
theorem oq_loadAgg {o : Oper} {T : TypeId} {x : Operand} {b off i n : Nat} {us vs : List Value} {S' : List HP} (ho : o.op = .load T x) (hx : ev E x = some (.pointer (some ⟨b, i, none⟩)))
    (hT : ∀ w, (isAgg T).run P w = .ok true w) (hs : ∀ w, (sizeOf T).run P w = .ok n w)
    (s : Sel S (row b off vs) S') (hle : Nat.ble off i = true) (hv : (vs.drop (i - off)).take n = us) (hn : us.length = n) : OQ ω P o E S (.agg us.toArray) := oq_loadAgg_of ho hx hT hs reads_row s hle hv hn
/-- From what was there at first. -/
theorem oq_loadω {o : Oper} {T : TypeId} {x : Operand} {a : Addr} {v : Value} (ho : o.op = .load T x) (hx : ev E x = some (.pointer (some a))) (hT : ∀ w, (isAgg T).run P w = .ok false w)
    (hv : ω.cell? a = some v) : OQ ω P o E S v := by
  intro F ρ hρ w hw
  have h1 := hρ x (by simp [ho, Op.operands]) _ hx
  have hb : a.block < ω.heap.size := by
    rcases Nat.lt_or_ge a.block ω.heap.size with h | h
    · exact h
    · unfold World.cell? at hv; rw [Array.getElem?_eq_none h] at hv; cases hv
  have hc : w.cell? a = some v := by
    unfold World.cell? at hv ⊢
    rw [hw.1.2.1 _ hb]; exact hv
  have hrun : (execOp ρ o).run P w = .ok (.value v) w := by
    simp [execOp, ho, h1, Instr.loadAt, Instr.sureAddr, run_loadVar_word hT hc]
  rw [hrun]
  exact ⟨_, ⟨rfl, rfl⟩, hw⟩
theorem oq_loadAggω {o : Oper} {T : TypeId} {x : Operand} {b i n : Nat} {us : List Value} (ho : o.op = .load T x) (hx : ev E x = some (.pointer (some ⟨b, i, none⟩)))
    (hT : ∀ w, (isAgg T).run P w = .ok true w) (hs : ∀ w, (sizeOf T).run P w = .ok n w) (hn : us.length = n)
    (hv : ∀ j v, us[j]? = some v → ω.cell? ⟨b, i + j, none⟩ = some v) : OQ ω P o E S (.agg us.toArray) := by
  intro F ρ hρ w hw
  have h1 := hρ x (by simp [ho, Op.operands]) _ hx
  have hc := reads_base hv (fact True :: (S ++ F)).tail! w (holds_fact.2 ⟨trivial, by simpa using hw⟩)
  have hrun : (execOp ρ o).run P w = .ok (.value (.agg us.toArray)) w := by
    simp [execOp, ho, h1, Instr.loadAt, Instr.sureAddr, run_loadVar_agg hT hs hn hc]
  rw [hrun]
  exact ⟨_, ⟨rfl, rfl⟩, hw⟩

/-! ### Stores -/
theorem splice_length : ∀ (us vs : List Value) (k : Nat), (splice vs k us).length = vs.length := by
  intro us
  induction us with
  | nil => intro vs k; rfl
  | cons u us ih => intro vs k; simp [splice, ih]

def plainCells (us : List Value) : Bool := us.all fun | .agg _ => false | .tuple _ => false | _ => true

theorem run_store_cell {a : Addr} {v u : Value} {w : World} (hp : plainCells [v] = true) (hc : w.cell? a = some u) (hf : w.frozen? a = false) : (store a v).run P w = .ok () (w.setCell a v) := by
  cases v <;> simp [plainCells] at hp <;> simp [store, Sem.run, hc, hf]

theorem Holds.splice {b off : Nat} : ∀ (us vs : List Value) (k i : Nat) (L : List HP) (w : World), Holds ω (row b off vs :: L) w → k + us.length ≤ vs.length → plainCells us = true → ∀ a : Addr, a.add i = ⟨b, off + k, none⟩ → (∀ j, a.add (i + j) = ⟨b, off + k + j, none⟩) →
    ∃ w', (storeCells a us i).run P w = .ok () w' ∧ Holds ω (row b off (Go.Proofs.YtnjljfjncfbinaaGreat.splice vs k us) :: L) w' := by
  intro us
  induction us with
  | nil => intro vs k i L w h _ _ a _ _; exact ⟨w, by simp [storeCells], h⟩
  | cons u us ih =>
    intro vs k i L w h hl hp a ha haj
    have hk : k < vs.length := by simp at hl; omega
    have hc := h.cell (List.getElem?_eq_getElem hk)
    have hset := h.set (v := u) hk
    have hp1 : plainCells [u] = true := by simp [plainCells] at hp ⊢; exact hp.1
    have hp2 : plainCells us = true := by simp [plainCells] at hp ⊢; exact hp.2
    obtain ⟨w', hr, hw'⟩ := ih (vs.set k u) (k + 1) (i + 1) L _ hset (by simp at hl ⊢; omega) hp2 a (by have := haj 1; rwa [Nat.add_assoc] at this) (fun j => by rw [Nat.add_assoc, haj (1 + j)]; simp [Nat.add_assoc])
    refine ⟨w', ?_, hw'⟩
    simp only [storeCells, Sem.run_bind, ha]
    rw [run_store_cell hp1 hc.1 hc.2.1]
    exact hr

theorem ot_store {o : Oper} {T : TypeId} {x y : Operand} {b off i n : Nat} {v : Value} {us vs vs' : List Value} {L : List HP} (ho : o.op = .store T x y) (hx : ev E x = some (.pointer (some ⟨b, i, none⟩))) (hy : ev E y = some v)
    (hT : ∀ w, (sizeOf T).run P w = .ok n w) (s : Sel H (row b off vs) L) (hu : v.cells.toList = us) (hn : us.length = n) (hle : Nat.ble off i = true) (hl : Nat.ble (i - off + us.length) vs.length = true) (hp : plainCells us = true)
    (hs : splice vs (i - off) us = vs') : OT ω P o E H fun _ H' => H' = row b off vs' :: L := by
  intro ρ hρ w hw
  have h1 := hρ x (by simp [ho, Op.operands]) _ hx
  have h2 := hρ y (by simp [ho, Op.operands]) _ hy
  have hle := Nat.le_of_ble_eq_true hle
  have hl := Nat.le_of_ble_eq_true hl
  subst hs
  obtain ⟨w', hr, hw'⟩ := Holds.splice (P := P) us vs (i - off) 0 L w (hw.sel s) hl hp ⟨b, i, none⟩ (by rw [addr_add]; congr 1; omega) (fun j => by rw [addr_add]; congr 1; omega)
  have hsz : v.cells.size = n := by rw [← Array.length_toList, hu]; exact hn
  have hrun : (execOp ρ o).run P w = .ok .skip w' := by
    simp [execOp, ho, h1, h2, Instr.storeAt, Instr.sureAddr, storeVar, hT, hsz, hu, hr]
  rw [hrun]
  exact ⟨_, rfl, hw'⟩

/-! ### New memory -/
theorem ot_box {o : Oper} {T : TypeId} {x : Operand} {v : Value} {us : List Value} (ho : o.op = .box T x) (hx : ev E x = some v) (hu : v.cells.toList = us) :
    OT ω P o E H fun v' H' => ∃ b, v' = .pointer (some ⟨b, 0, none⟩) ∧ H' = row b 0 us :: H := by
  intro ρ hρ w hw
  have h1 := hρ x (by simp [ho, Op.operands]) _ hx
  subst hu
  have hrun : (execOp ρ o).run P w = .ok (.value (.pointer (some ⟨w.heap.size, 0, none⟩))) (w.alloc (.cells v.cells T)) := by
    simp [execOp, ho, h1, Instr.box, newVar, newRow]
  rw [hrun]
  exact ⟨_, ⟨_, rfl, rfl⟩, hw.alloc⟩
theorem ot_alloc {o : Oper} {T : TypeId} {z : Value} {us : List Value} (ho : o.op = .alloc T) (hz : ∀ w, (zeroValue T).run P w = .ok z w) (hu : z.cells.toList = us) :
    OT ω P o E H fun v' H' => ∃ b, v' = .pointer (some ⟨b, 0, none⟩) ∧ H' = row b 0 us :: H := by
  intro ρ hρ w hw
  subst hu
  have hrun : (execOp ρ o).run P w = .ok (.value (.pointer (some ⟨w.heap.size, 0, none⟩))) (w.alloc (.cells z.cells T)) := by
    simp [execOp, ho, Instr.alloc, hz, newVar, newRow]
  rw [hrun]
  exact ⟨_, ⟨_, rfl, rfl⟩, hw.alloc⟩

/-! ### Function values, interface values, calls -/
theorem pv_makeFunc {f : FuncId} {first cap : Array Operand} {l c : List Value} (hl : evs E first.toList = some l) (hc : evs E cap.toList = some c) : PV P (.makeFunc (.func f) first cap) E (.func (.func f) l.toArray c.toArray) := by
  intro o ho ρ hρ w
  have h1 : (first.map ρ) = l.toArray := by
    apply Array.toList_inj.1
    rw [Array.toList_map]
    exact evs_spec _ _ (fun x hx => hρ x (by simp [Op.operands]; exact .inl (by simpa using hx))) hl
  have h2 : (cap.map ρ) = c.toArray := by
    apply Array.toList_inj.1
    rw [Array.toList_map]
    exact evs_spec _ _ (fun x hx => hρ x (by simp [Op.operands]; exact .inr (by simpa using hx))) hc
  simp [execOp, ho, Instr.makeFunc, h1, h2]
theorem pv_makeInterface {T : TypeId} {x : Operand} {v : Value} {d : TypeDesc} (hx : ev E x = some v) (hT : ∀ w, (underlying T).run P w = .ok d w) (hd : (match d with | .interface _ => false | _ => true) = true) : PV P (.makeInterface T x) E (.iface T v) := by
  intro o ho ρ hρ w
  have h1 := hρ x (by simp [Op.operands]) _ hx
  simp only [execOp, ho, h1, Instr.makeInterface, Sem.run_bind, hT, Result.andThen_ok]
  cases d <;> simp at hd ⊢

/-- A call of a function of the program. -/
theorem ot_call {o : Oper} {f : FuncId} {xs : Array Operand} {ts : Array TypeId} {vs : List Value} {H1 : List HP} {R : Value → List HP → Prop} (ho : o.op = .call ⟨.value (.func f), xs, ts⟩)
    (hc : ∀ args w, (callFunc f args).run P w = .ok (.enter f args) w) (hx : evs E xs.toList = some vs) (s : Sees H H1) (hs : Spec ω P f vs.toArray H1 R) : OT ω P o E H R := by
  intro ρ hρ w hw
  have h1 : (xs.map ρ) = vs.toArray := by
    apply Array.toList_inj.1
    rw [Array.toList_map]
    exact evs_spec _ _ (fun x hx => hρ x (by simp [ho, Op.operands, Call.operands]; exact .inr (by simpa using hx))) hx
  have h0 := hρ (.func f) (by simp [ho, Op.operands, Call.operands]) _ rfl
  have hrun : (execOp ρ o).run P w = .ok (.enter f vs.toArray) w := by
    simp [execOp, ho, resolve, h0, h1, Deferred.ofValue, invoke, hc]
  rw [hrun]
  exact hs w (hw.sees s)
/-- A call of a function value. -/
theorem ot_callv {o : Oper} {x : Operand} {f : FuncId} {l c : List Value} {xs : Array Operand} {ts : Array TypeId} {vs : List Value} {H1 : List HP} {R : Value → List HP → Prop} (ho : o.op = .call ⟨.value x, xs, ts⟩)
    (hf : ev E x = some (.func (.func f) l.toArray c.toArray))
    (hc : ∀ args w, (callFunc f args).run P w = .ok (.enter f args) w) (hx : evs E xs.toList = some vs) (s : Sees H H1) (hs : Spec ω P f (l ++ vs ++ c).toArray H1 R) : OT ω P o E H R := by
  intro ρ hρ w hw
  have h1 : (xs.map ρ) = vs.toArray := by
    apply Array.toList_inj.1
    rw [Array.toList_map]
    exact evs_spec _ _ (fun x hx => hρ x (by simp [ho, Op.operands, Call.operands]; exact .inr (by simpa using hx))) hx
  have h0 := hρ x (by simp [ho, Op.operands, Call.operands]) _ hf
  have hrun : (execOp ρ o).run P w = .ok (.enter f (l ++ vs ++ c).toArray) w := by
    simp [execOp, ho, resolve, h0, h1, Deferred.ofValue, invoke, hc]
  rw [hrun]
  exact hs w (hw.sees s)
/-- A call that yields a known value and leaves what it is given. -/
theorem oq_call {o : Oper} {f : FuncId} {xs : Array Operand} {ts : Array TypeId} {vs : List Value} {v : Value} (ho : o.op = .call ⟨.value (.func f), xs, ts⟩)
    (hc : ∀ args w, (callFunc f args).run P w = .ok (.enter f args) w) (hx : evs E xs.toList = some vs) (hs : PureSpec P f vs.toArray v) : OQ ω P o E S v :=
  fun F => ot_call ho hc hx .refl (hs ω (S ++ F))
theorem oq_call_of {o : Oper} {f : FuncId} {xs : Array Operand} {ts : Array TypeId} {vs : List Value} {v : Value} {cs S' : List HP} (ho : o.op = .call ⟨.value (.func f), xs, ts⟩)
    (hc : ∀ args w, (callFunc f args).run P w = .ok (.enter f args) w) (hx : evs E xs.toList = some vs) (s : Pick S cs S') (hs : ∀ F, Spec ω P f vs.toArray (cs ++ F) fun v' H' => v' = v ∧ H' = cs ++ F) : OQ ω P o E S v := by
  intro F ρ hρ w hw
  have hp : ∀ m, Stars (S ++ F) m → Stars (cs ++ (S' ++ F)) m := by
    intro m hm
    obtain ⟨m1, m2, hd, h1, h2, ha, hb⟩ := Stars.append.1 hm
    rw [← List.append_assoc]
    exact Stars.append.2 ⟨m1, m2, hd, h1, h2, s.out _ ha, hb⟩
  have hq : ∀ m, Stars (cs ++ (S' ++ F)) m → Stars (S ++ F) m := by
    intro m hm
    rw [← List.append_assoc] at hm
    obtain ⟨m1, m2, hd, h1, h2, ha, hb⟩ := Stars.append.1 hm
    exact Stars.append.2 ⟨m1, m2, hd, h1, h2, s.back _ ha, hb⟩
  have := ot_call (ω := ω) (P := P) (E := E) ho hc hx .refl (hs (S' ++ F)) ρ hρ w (hw.imp hp)
  exact this.mono P fun v' w' ⟨H', ⟨e1, e2⟩, hw'⟩ => ⟨_, ⟨e1, rfl⟩, by subst e2; exact hw'.imp hq⟩

/-! ### Lengths, least and greatest -/
theorem pv_builtin {b : Builtin} {xs : Array Operand} {ts : Array TypeId} {vs : List Value} {v : Value} (hx : evs E xs.toList = some vs)
    (h : ∀ (o : Oper) (cs : Array Bool) (w : World), (builtin b ts o.type cs vs.toArray).run P w = .ok (.value v) w) : PV P (.call ⟨.builtin b, xs, ts⟩) E v := by
  intro o ho ρ hρ w
  have h1 : (xs.map ρ) = vs.toArray := by
    apply Array.toList_inj.1
    rw [Array.toList_map]
    exact evs_spec _ _ (fun x hx => hρ x (by simp [Op.operands, Call.operands]; simpa using hx)) hx
  simp [execOp, ho, resolve, h1, invoke, h]
theorem pv_len_slice {x : Operand} {T e : TypeId} {ts : Array TypeId} {a : Option Addr} {n c : Nat} (hx : ev E x = some (.slice a n c)) (ht : ts[0]? = some T) (hT : ∀ w, (underlying T).run P w = .ok (.slice e) w) : PV P (.call ⟨.builtin .len, #[x], ts⟩) E (.int .i64 n) := by
  refine pv_builtin (vs := [.slice a n c]) (by simp [evs, hx]) ?_
  intro o cs w
  simp [builtin, Builtin.len_, ht, hT, goInt]
theorem pv_cap_slice {x : Operand} {T e : TypeId} {ts : Array TypeId} {a : Option Addr} {n c : Nat} (hx : ev E x = some (.slice a n c)) (ht : ts[0]? = some T) (hT : ∀ w, (underlying T).run P w = .ok (.slice e) w) : PV P (.call ⟨.builtin .cap, #[x], ts⟩) E (.int .i64 c) := by
  refine pv_builtin (vs := [.slice a n c]) (by simp [evs, hx]) ?_
  intro o cs w
  simp [builtin, Builtin.cap_, ht, hT, goInt]
theorem pv_len_string {x : Operand} {T : TypeId} {ts : Array TypeId} {s : ByteArray} (hx : ev E x = some (.string s)) (ht : ts[0]? = some T) (hT : ∀ w, (underlying T).run P w = .ok .string w) : PV P (.call ⟨.builtin .len, #[x], ts⟩) E (.int .i64 s.size) := by
  refine pv_builtin (vs := [.string s]) (by simp [evs, hx]) ?_
  intro o cs w
  simp [builtin, Builtin.len_, ht, hT, goInt]
theorem pv_min {x y : Operand} {ts : Array TypeId} {k k' : IntKind} {a b : Int} (hx : ev E x = some (.int k a)) (hy : ev E y = some (.int k' b)) : PV P (.call ⟨.builtin .min, #[x, y], ts⟩) E (.int k (if b < a then b else a)) := by
  refine pv_builtin (vs := [.int k a, .int k' b]) (by simp [evs, hx, hy]) ?_
  intro o cs w
  simp [builtin, Builtin.min_, Builtin.min2]
theorem pv_max {x y : Operand} {ts : Array TypeId} {k k' : IntKind} {a b : Int} (hx : ev E x = some (.int k a)) (hy : ev E y = some (.int k' b)) : PV P (.call ⟨.builtin .max, #[x, y], ts⟩) E (.int k (if b > a then b else a)) := by
  refine pv_builtin (vs := [.int k a, .int k' b]) (by simp [evs, hx, hy]) ?_
  intro o cs w
  simp [builtin, Builtin.max_, Builtin.max2]
end
end Go.Proofs.YtnjljfjncfbinaaGreat
