/- Slices: made, cut, indexed, copied; bytes as text. -/
import Derived.Test.YtnjljfjncfbinaaGreatSl6
import Derived.Laws.Slices
set_option linter.all false
namespace Go.Proofs.YtnjljfjncfbinaaGreat
open Go

section
variable {ω : World} {P : Program} {N : Nat} {E : Env} {H S L : List HP}

theorem OT.own {o : Oper} {E : Env} {H : List HP} {R : Value → List HP → Prop} {es : Nat} (h : OT ω P o E (Go.Proofs.YtnjljfjncfbinaaGreat.own es none 0 0 [] :: H) R) : OT ω P o E H R :=
  fun ρ hρ w hw => h ρ hρ w hw.own_nil

theorem ct_rd {Q : Post} {c : Code} {ch : HP} {es n : Nat} {p : Option Addr} {xs : List Value} (hr : Rd ω ch es p n xs) (s : Sel H ch L) (h : xs.length = n * es → (p = none → n = 0) → (∀ a, p = some a → n = 0 ∨ a.spot = none) → CT ω P N c E H Q) : CT ω P N c E H Q := by
  intro a w ha hw
  have r := hr _ _ (hw.sel s)
  refine h r.1 (fun e => ?_) (fun x e => ?_) a w ha hw
  · subst e; exact r.2
  · subst e; exact r.2.1
theorem ct_own {Q : Post} {cd : Code} {es n c : Nat} {p : Option Addr} {xs : List Value} (s : Sel H (own es p n c xs) L) (h : xs.length = n * es → n ≤ c → ((p = none ∧ n = 0 ∧ c = 0) ∨ ∃ b off, p = some ⟨b, off, none⟩) → CT ω P N cd E H Q) : CT ω P N cd E H Q := by
  intro a w ha hw
  obtain ⟨h1, h2, h3⟩ := (hw.sel s).own_facts
  exact h h1 h2 h3 a w ha hw
theorem ct_fact {Q : Post} {cd : Code} {p : Prop} (s : Sel H (fact p) L) (h : p → CT ω P N cd E H Q) : CT ω P N cd E H Q := by
  intro a w ha hw
  exact h (holds_fact.1 (hw.sel s)).1 a w ha hw
theorem ct_imp {Q : Post} {cd : Code} {H' : List HP} (hi : ∀ m, Stars H m → Stars H' m) (h : CT ω P N cd E H' Q) : CT ω P N cd E H Q := fun a w ha hw => h a w ha (hw.imp hi)
theorem xt_imp {x : Exit} {Q : Post} {H' : List HP} (hi : ∀ m, Stars H m → Stars H' m) (h : XT ω N x E H' Q) : XT ω N x E H Q := fun a w ha hw => h a w ha (hw.imp hi)
theorem rl_imp {ops : Array Oper} {l : List Oper} {Q : Post} {H' : List HP} (hi : ∀ m, Stars H m → Stars H' m) (h : RL ω P N ops Q l E H') : RL ω P N ops Q l E H := fun a w ha hw => h a w ha (hw.imp hi)
theorem ct_ex {α : Type} {Q : Post} {cd : Code} {f : α → List HP} (s : Sel H (ex f) L) (h : ∀ x, CT ω P N cd E (f x ++ L) Q) : CT ω P N cd E H Q := by
  intro a w ha hw
  obtain ⟨x, hx⟩ := holds_ex.1 (hw.sel s)
  exact h x a w ha hx
theorem ct_pack {Q : Post} {cd : Code} {M : List HP} (s : Sel H (pack M) L) (h : CT ω P N cd E (M ++ L) Q) : CT ω P N cd E H Q := fun a w ha hw => h a w ha (holds_pack.1 (hw.sel s))
theorem rl_own {ops : Array Oper} {l : List Oper} {Q : Post} {es n c : Nat} {p : Option Addr} {xs : List Value} (s : Sel H (own es p n c xs) L) (h : xs.length = n * es → n ≤ c → ((p = none ∧ n = 0 ∧ c = 0) ∨ ∃ b off, p = some ⟨b, off, none⟩) → RL ω P N ops Q l E H) : RL ω P N ops Q l E H := by
  intro a w ha hw
  obtain ⟨h1, h2, h3⟩ := (hw.sel s).own_facts
  exact h h1 h2 h3 a w ha hw

theorem Sees.ex {α : Type} {f : α → List HP} {L : List HP} (x : α) (s : Sees H (f x ++ L)) : Sees H (Go.Proofs.YtnjljfjncfbinaaGreat.ex f :: L) := .of fun m h => stars_ex.2 ⟨x, s.out m h⟩
theorem Sees.nilOwn {es : Nat} {M : List HP} (s : Sees H M) : Sees H (Go.Proofs.YtnjljfjncfbinaaGreat.own es none 0 0 [] :: M) := .of fun m h => Go.Proofs.YtnjljfjncfbinaaGreat.own_nil (s.out m h)
/-- Blocks and addresses that nobody needs to know. -/
structure Bs where
  p : Option Addr := none
  c : Nat := 0
  a1 : Nat := 0
  a2 : Nat := 0
  a3 : Nat := 0
  a4 : Nat := 0
  a5 : Nat := 0
  a6 : Nat := 0
  a7 : Nat := 0
  a8 : Nat := 0
  a9 : Nat := 0
  q : Option Addr := none
  d : Nat := 0
/-! ### A row, cut and put together -/
theorem row_cut {b k : Nat} {xs pre post : List Value} {x : Value} {m : Hl} (hx : xs = pre ++ x :: post) (hk : pre.length = k) (h : Stars (row b 0 xs :: L) m) : Stars (row b k [x] :: row b 0 pre :: row b (k + 1) post :: L) m := by
  subst hx; subst hk
  have h1 := row_append.1 h
  rw [Nat.zero_add] at h1
  have h2 : Stars (row b pre.length ([x] ++ post) :: row b 0 pre :: L) m := h1.swap
  have h3 := row_append.1 h2
  exact h3.skip fun _ h => h.swap
theorem row_glue {b k : Nat} {pre post : List Value} {x : Value} {m : Hl} (hk : pre.length = k) (h : Stars (row b k [x] :: row b 0 pre :: row b (k + 1) post :: L) m) : Stars (row b 0 (pre ++ x :: post) :: L) m := by
  subst hk
  have h1 : Stars (row b pre.length [x] :: row b (pre.length + [x].length) post :: row b 0 pre :: L) m := h.skip fun _ h => h.swap
  have h2 := (row_append.2 h1).swap
  refine row_append.2 ?_
  rw [Nat.zero_add]
  exact h2
theorem ct_plan1 {Q : Post} {ops : Array Oper} {id : Nat} (plan : List PStep) (c : HP) {S : List HP} (s : Sees H (c :: S)) (hm : P.follows .mixedOrders = true) (hok : planOk ops ops.size [] none plan = true)
    (h : PW ω P N ops Q plan E S [c]) : CT ω P N (.region id ops true) E H Q := ct_plan plan S [c] hm hok s h

/-! ### Indices -/
theorem pv_indexAddr {T e : TypeId} {x y : Operand} {b off n c es : Nat} {k : IntKind} {i : Int} (hx : ev E x = some (.slice (some ⟨b, off, none⟩) n c)) (hy : ev E y = some (.int k i))
    (hT : ∀ w, (underlying T).run P w = .ok (.slice e) w) (hs : ∀ w, (sizeOf e).run P w = .ok es w) (hi : 0 ≤ i ∧ i < n) : PV P (.indexAddr T x y) E (.pointer (some ⟨b, off + i.toNat * es, none⟩)) := by
  intro o ho ρ hρ w
  have h1 := hρ x (by simp [Op.operands]) _ hx
  have h2 := hρ y (by simp [Op.operands]) _ hy
  simp only [execOp, ho, h1, h2, Sem.run_bind, Instr.indexAt, asIntOf, Sem.run_pure, Result.andThen_ok, hT]
  simp [hi.1, hi.2, hs, addr_add]
/-- the same, at an index that is a natural number -/
theorem pv_indexAddrN {T e : TypeId} {x y : Operand} {b off n c es j : Nat} {k : IntKind} {i : Int} (hx : ev E x = some (.slice (some ⟨b, off, none⟩) n c)) (hy : ev E y = some (.int k i))
    (hT : ∀ w, (underlying T).run P w = .ok (.slice e) w) (hs : ∀ w, (sizeOf e).run P w = .ok es w) (hij : i = j) (hi : j < n) : PV P (.indexAddr T x y) E (.pointer (some ⟨b, off + j * es, none⟩)) := by
  subst hij
  have := pv_indexAddr (P := P) (E := E) hx hy hT hs ⟨Int.natCast_nonneg j, by omega⟩
  simpa using this
theorem pv_indexString {T : TypeId} {x y : Operand} {s : ByteArray} {k : IntKind} {i : Int} {v : UInt8} (hx : ev E x = some (.string s)) (hy : ev E y = some (.int k i))
    (hT : ∀ w, (underlying T).run P w = .ok .string w) (h0 : 0 ≤ i) (hv : s[i.toNat]? = some v) : PV P (.index T x y) E (.int .u8 v.toNat) := by
  intro o ho ρ hρ w
  have h1 := hρ x (by simp [Op.operands]) _ hx
  have h2 := hρ y (by simp [Op.operands]) _ hy
  simp only [execOp, ho, h1, h2, Sem.run_bind, Instr.index, asIntOf, Sem.run_pure, Result.andThen_ok, hT]
  simp [h0, hv]

/-! ### x[l:h:m] -/
def Bnd (E : Env) (o : Option Operand) (d v : Nat) : Prop := match o with
  | none => v = d
  | some x => ∃ k i, ev E x = some (.int k i) ∧ i = (v : Int)

def cutp (p : Option Addr) (l m es : Nat) : Option Addr := if m = l then p else p.map (·.add (l * es))
theorem cutp_zero {p : Option Addr} {m es : Nat} : cutp p 0 m es = p := by
  unfold cutp
  split
  · rfl
  · cases p <;> simp [Addr.add]
theorem cutp_some {b off l m es : Nat} (h : m ≠ l) : cutp (some ⟨b, off, none⟩) l m es = some ⟨b, off + l * es, none⟩ := by
  unfold cutp; rw [if_neg h]; simp [addr_add]

theorem Bnd.run {o : Option Operand} {d v : Nat} (h : Bnd E o d v) {ρ : Operand → Value} (hρ : ∀ x, o = some x → ∀ u, ev E x = some u → ρ x = u) : (o.map ρ = none ∧ v = d) ∨ ∃ k, o.map ρ = some (.int k (v : Int)) := by
  cases o with
  | none => exact .inl ⟨rfl, h⟩
  | some x =>
    obtain ⟨k, i, hx, rfl⟩ := h
    exact .inr ⟨k, by simp [hρ x rfl _ hx]⟩

theorem pv_slice {T e : TypeId} {x : Operand} {lo hi mx : Option Operand} {p : Option Addr} {n c es l h m : Nat} (hx : ev E x = some (.slice p n c)) (hlo : Bnd E lo 0 l) (hhi : Bnd E hi n h) (hmx : Bnd E mx c m)
    (hT : ∀ w, (underlying T).run P w = .ok (.slice e) w) (hs : ∀ w, (sizeOf e).run P w = .ok es w) (h1 : l ≤ h) (h2 : h ≤ m) (h3 : m ≤ c) (h4 : hi = none → mx = none) : PV P (.slice T x lo hi mx) E (.slice (cutp p l m es) (h - l) (m - l)) := by
  intro o ho ρ hρ w
  have e1 := hρ x (by simp [Op.operands]) _ hx
  have r1 := hlo.run (ρ := ρ) fun y hy u hu => hρ y (by simp [Op.operands, hy]) u hu
  have r2 := hhi.run (ρ := ρ) fun y hy u hu => hρ y (by simp [Op.operands, hy]) u hu
  have r3 := hmx.run (ρ := ρ) fun y hy u hu => hρ y (by simp [Op.operands, hy]) u hu
  have hb : ∀ (k : IntKind) (v y : Nat) (code : BoundsCode), v ≤ y → (Instr.sliceBound (.int k (v : Int)) y code).run P w = .ok v w := by
    intro k v y code hle
    rw [run_sliceBound w k (v : Int) y code (by omega) (by omega)]
    simp
  simp only [execOp, ho, e1, Sem.run_bind, Instr.sliceAt, hT, Result.andThen_ok, Instr.slice]
  have key : (Instr.sliceBounds true n c (lo.map ρ) (hi.map ρ) (mx.map ρ)).run P w = .ok (l, h, m) w := by
    unfold Instr.sliceBounds
    rcases r3 with ⟨r3, rfl⟩ | ⟨k3, r3⟩
    · rw [r3]
      rcases r2 with ⟨r2, rfl⟩ | ⟨k2, r2⟩
      · rw [r2]
        rcases r1 with ⟨r1, rfl⟩ | ⟨k1, r1⟩
        · rw [r1]; simp
        · rw [r1]; simp [hb _ _ _ _ h1]
      · rw [r2]
        rcases r1 with ⟨r1, rfl⟩ | ⟨k1, r1⟩
        · rw [r1]; simp [hb _ _ _ _ h2]
        · rw [r1]; simp [hb _ _ _ _ h1, hb _ _ _ _ h2]
    · rw [r3]
      rcases r2 with ⟨r2, rfl⟩ | ⟨k2, r2⟩
      · exfalso
        have : hi = none := by cases hi <;> simp at r2 ⊢
        rw [h4 this] at r3
        cases r3
      · rw [r2]
        rcases r1 with ⟨r1, rfl⟩ | ⟨k1, r1⟩
        · rw [r1]; simp [hb _ _ _ _ h2, hb _ _ _ _ h3]
        · rw [r1]; simp [hb _ _ _ _ h1, hb _ _ _ _ h2, hb _ _ _ _ h3]
  rw [key]
  simp [hs, cutp]

theorem RdW.cut {w : World} {es n l h m : Nat} {p : Option Addr} {xs : List Value} (r : RdW w es p n xs) (h1 : l ≤ h) (h2 : h ≤ n) (h3 : h ≤ m) : RdW w es (cutp p l m es) (h - l) ((xs.drop (l * es)).take ((h - l) * es)) := by
  have := r.slice (l := l) (k := h - l) (by omega)
  unfold cutp
  split
  · rename_i e
    have : h - l = 0 := by omega
    rw [this]
    refine ⟨by simp, ?_⟩
    cases p with
    | none => rfl
    | some a => exact ⟨.inl rfl, fun i v hv => by simp at hv⟩
  · cases p with
    | none => exact this
    | some a =>
      rcases r.2.1 with h0 | h0
      · have e0 : h - l = 0 := by omega
        rw [e0]
        exact ⟨by simp, .inl rfl, fun i v hv => by simp at hv⟩
      have ea : a = ⟨a.block, a.off, none⟩ := by have := h0; cases a; simp at this ⊢; exact this
      have e2 : (some a : Option Addr).map (·.add (l * es)) = (some a : Option Addr).map fun a => ⟨a.block, a.off + l * es, none⟩ := by
        simp only [Option.map_some]; rw [ea, addr_add]
      rw [e2]; exact this

/-! ### New slices -/
theorem range_flatten (l : List Value) (es : Nat) (hl : l.length = es) : ∀ len, (List.range (len * es)).map (fun i => l[i % es]!) = (List.replicate len l).flatten := by
  intro len
  induction len with
  | zero => simp
  | succ len ih =>
    rw [show (len + 1) * es = es + len * es from by rw [Nat.add_mul]; omega, List.range_add, List.map_append, List.map_map, List.replicate_succ, List.flatten_cons, ← ih]
    congr 1
    · apply List.ext_getElem
      · simp [hl]
      · intro i h1 h2
        simp at h1
        simp [Nat.mod_eq_of_lt h1, h2]
    · apply List.map_congr_left
      intro i _
      simp
theorem init_cells (z : Value) (len es : Nat) (hz : z.cells.size = es) : (Array.range (len * es)).map (z.cells[· % z.cells.size]!) = ((List.replicate len z.cells.toList).flatten).toArray := by
  apply Array.toList_inj.1
  rw [← range_flatten z.cells.toList es (by simpa using hz) len]
  simp only [Array.toList_map, Array.toList_range, hz]
  apply List.map_congr_left
  intro i _
  rw [getElem!_def, getElem!_def]
  simp

theorem ot_buildSlice {o : Oper} {T e : TypeId} {len es : Nat} {parts : Array (Nat × Operand)} {ps : List (Nat × Value)} {z : Value} {cs : Array Value} (ho : o.op = .buildSlice T len parts) (hp : evp E parts.toList = some ps)
    (hT : ∀ w, (underlying T).run P w = .ok (.slice e) w) (hs : ∀ w, (sizeOf e).run P w = .ok es w) (hz : ∀ w, (zeroValue e).run P w = .ok z w) (hzs : z.cells.size = es) (hn : Nat.ble (len * es) 16777216 = true)
    (hf : Instr.fill (fun i => some (i * es, es)) ((List.replicate len z.cells.toList).flatten).toArray ps = some cs) (hl : cs.size = len * es) :
    OT ω P o E H fun v H' => ∃ b, v = .slice (some ⟨b, 0, none⟩) len len ∧ H' = own es (some ⟨b, 0, none⟩) len len cs.toList :: H := by
  intro ρ hρ w hw
  have h1 : (parts.map fun (i, x) => (i, ρ x)).toList = ps := by
    rw [Array.toList_map]
    exact evp_spec _ _ (fun x hx => hρ x (by simpa [ho, Op.operands] using hx)) hp
  have hle := Nat.le_of_ble_eq_true hn
  have hrun : (execOp ρ o).run P w = .ok (.value (.slice (some ⟨w.heap.size, 0, none⟩) len len)) (w.alloc (.cells cs e)) := by
    have hgt : ¬ (len * es > 2 ^ 24) := by omega
    simp only [execOp, ho, Sem.run_bind, Instr.buildSlice, hT, Result.andThen_ok, hs, h1, Sem.run_ite, hgt, if_false]
    by_cases h0 : len * es = 0
    · have e0 : (Array.range (len * es)).map ((#[] : Array Value)[· % (#[] : Array Value).size]!) = ((List.replicate len z.cells.toList).flatten).toArray := by
        rw [← init_cells z len es hzs]
        apply Array.ext
        · simp
        · intro i h1 _
          simp [h0] at h1
      rw [← e0] at hf
      simp only [h0, if_true] at hf ⊢
      simp only [Sem.run_pure, Result.andThen_ok, hf, Sem.run_bind, newRow, run_newObj]
      rfl
    · rw [← init_cells z len es hzs] at hf
      simp only [h0, if_false, Sem.run_pure, Sem.run_bind, hz, Result.andThen_ok, hf, newRow, run_newObj]
      rfl
  rw [hrun]
  exact ⟨_, ⟨_, rfl, rfl⟩, hw.alloc.imp fun _ h => own_of_row (by simpa using hl) h⟩

theorem ot_makeSlice {o : Oper} {T e : TypeId} {es n by_ : Nat} {x y : Operand} {k k' : IntKind} {i : Int} {z : Value} {ti : TypeInfo} (ho : o.op = .makeSlice T x y) (hx : ev E x = some (.int k i)) (hy : ev E y = some (.int k' i)) (hi : i = n)
    (hT : ∀ w, (underlying T).run P w = .ok (.slice e) w) (hs : ∀ w, (sizeOf e).run P w = .ok es w) (hz : ∀ w, (zeroValue e).run P w = .ok z w) (hti : ∀ w, (typeInfo e).run P w = .ok ti w) (hby : ti.bytes = by_) (hb : by_ * n ≤ 281474976710656) (hn : n ≤ 9223372036854775807) :
    OT ω P o E H fun v H' => ∃ b, v = .slice (some ⟨b, 0, none⟩) n n ∧ H' = own es (some ⟨b, 0, none⟩) n n ((List.range (n * es)).map (z.cells[· % z.cells.size]!)) :: H := by
  intro ρ hρ w hw
  have h1 := hρ x (by simp [ho, Op.operands]) _ hx
  have h2 := hρ y (by simp [ho, Op.operands]) _ hy
  subst hi
  have hwr : IntKind.i64.wrap (n : Int) = n := wrap_inK ⟨by omega, by omega⟩
  have hrun : (execOp ρ o).run P w = .ok (.value (.slice (some ⟨w.heap.size, 0, none⟩) n n)) (w.alloc (.cells ((Array.range (n * es)).map (z.cells[· % z.cells.size]!)) e)) := by
    have c1 : ¬ ((ti.bytes : Int) * (n : Int) > 281474976710656) := by
      rw [hby]
      have h := Int.ofNat_le.2 hb
      rw [Int.natCast_mul] at h
      omega
    have c2 : ¬ ((n : Int) < 0) := by omega
    have c3 : ¬ ((n : Int) > (n : Int)) := by omega
    simp only [execOp, ho, h1, h2, Sem.run_bind, Instr.makeSlice, hT, Result.andThen_ok, hs, asInt, asIntOf, Sem.run_pure, hti, hwr]
    simp only [c2, c3, decide_false, Bool.false_or, Bool.or_false, Int.toNat_natCast, Sem.run_ite, Sem.run_bind, run_askRoom, Result.andThen_ok, hs]
    rw [if_neg (by simpa using c1)]
    simp only [Sem.run_pure, Result.andThen_ok, Sem.run_bind, run_askRoom, hs, Sem.run_ite]
    by_cases h0 : n * es = 0
    · simp [h0, newRow]
      congr 2
      apply Array.ext <;> simp
    · simp [h0, newRow, hz]
  rw [hrun]
  have := hw.alloc (c := (Array.range (n * es)).map (z.cells[· % z.cells.size]!)) (t := e)
  refine ⟨_, ⟨_, rfl, rfl⟩, this.imp fun m h => own_of_row (by simp) ?_⟩
  have e1 : ((Array.range (n * es)).map (z.cells[· % z.cells.size]!)).toList = (List.range (n * es)).map (z.cells[· % z.cells.size]!) := by simp
  rwa [e1] at h
theorem range_one (z : Value) (n : Nat) (h : z.cells = #[z]) : (List.range (n * 1)).map (z.cells[· % z.cells.size]!) = List.replicate n z := by
  rw [h, Nat.mul_one]
  apply List.ext_getElem
  · simp
  · intro i h1 h2
    simp [Nat.mod_one]

/-! ### Bytes -/
def byteC (l : List UInt8) : List Value := l.map fun c => .int .u8 c.toNat
@[simp] theorem byteC_length (l : List UInt8) : (byteC l).length = l.length := by simp [byteC]
theorem byteC_append (a b : List UInt8) : byteC (a ++ b) = byteC a ++ byteC b := by simp [byteC]
theorem plain_byteC (l : List UInt8) : plainCells (byteC l) = true := by simp [plainCells, byteC]
theorem byteC_inj : ∀ {a b : List UInt8}, byteC a = byteC b → a = b := by
  intro a
  induction a with
  | nil => intro b h; cases b <;> simp [byteC] at h ⊢
  | cons x a ih =>
    intro b h
    cases b with
    | nil => simp [byteC] at h
    | cons y b =>
      simp only [byteC, List.map_cons, List.cons.injEq, Value.int.injEq, true_and] at h
      have e : x = y := UInt8.toNat_inj.1 (by omega)
      rw [e, ih h.2]

theorem push_bytes (l : List UInt8) : ∀ s : ByteArray, (l.map fun c => (c.toNat : Int)).foldl (fun r n => r.push (UInt8.ofNat n.toNat)) s = ⟨(s.data.toList ++ l).toArray⟩ := by
  induction l with
  | nil => intro s; simp
  | cons c l ih =>
    intro s
    simp only [List.map_cons, List.foldl_cons]
    rw [ih]
    simp [ByteArray.push]

theorem RdW.text {w : World} {p : Option Addr} {n c : Nat} {l : List UInt8} (h : RdW w 1 p n (byteC l)) : (Conv.bytesToString (.slice p n c)).run P w = .ok (.string ⟨l.toArray⟩) w := by
  cases p with
  | none =>
    have h1 := h.1
    have h2 := h.2
    have : l = [] := List.eq_nil_of_length_eq_zero (by simp at h1; omega)
    subst this
    simp [Conv.bytesToString]; rfl
  | some a =>
    have hl := h.first (P := P) c
    have e : (byteC l) = (l.map fun c => (c.toNat : Int)).map (Value.int .u8) := by simp [byteC]
    rw [e] at hl
    have hl' : (loadCells a n).run P w = .ok ((l.map fun c => (c.toNat : Int)).map (Value.int .u8)).toArray w := by
      have : Builtin.firstCells 1 n (.slice (some a) n c) = loadCells a n := by simp [Builtin.firstCells]
      rw [← this]; exact hl
    rw [run_bytesToString w a n c _ hl', push_bytes]
    simp

theorem oq_text {o : Oper} {x : Operand} {T T2 e : TypeId} {p : Option Addr} {n c : Nat} {l : List UInt8} {ch : HP} {S' : List HP} (ho : o.op = .convert T T2 x) (hx : ev E x = some (.slice p n c)) (hT : ∀ w, (underlying T).run P w = .ok (.slice e) w)
    (hT2 : ∀ w, (underlying T2).run P w = .ok .string w) (he : ∀ w, (underlying e).run P w = .ok (.int .u8) w) (s : Sel S ch S') (hr : Rd ω ch 1 p n (byteC l)) : OQ ω P o E S (.string ⟨l.toArray⟩) := by
  intro F ρ hρ w hw
  have h1 := hρ x (by simp [ho, Op.operands]) _ hx
  have hrd := hr _ _ (hw.sel (s.app F))
  have hrun : (execOp ρ o).run P w = .ok (.value (.string ⟨l.toArray⟩)) w := by
    simp only [execOp, ho, h1, Sem.run_bind, convert, hT, hT2, Result.andThen_ok]
    cases p with
    | none => simp only [Sem.run_bind, he, Result.andThen_ok, hrd.text, Sem.run_pure]
    | some a => simp only [Sem.run_bind, he, Result.andThen_ok, hrd.text, Sem.run_pure]
  rw [hrun]
  exact ⟨_, ⟨rfl, rfl⟩, hw⟩

/-! ### Stores into a slice that is owned -/
theorem ot_storeOwn {o : Oper} {T : TypeId} {x y : Operand} {b off i j n c es ts : Nat} {v : Value} {us xs xs' : List Value} (ho : o.op = .store T x y) (hx : ev E x = some (.pointer (some ⟨b, i, none⟩))) (hy : ev E y = some v)
    (hT : ∀ w, (sizeOf T).run P w = .ok ts w) (s : Sel H (own es (some ⟨b, off, none⟩) n c xs) L) (hu : v.cells.toList = us) (hn : us.length = ts) (hij : i = off + j) (hl : j + us.length ≤ xs.length) (hp : plainCells us = true)
    (hs : splice xs j us = xs') : OT ω P o E H fun _ H' => H' = own es (some ⟨b, off, none⟩) n c xs' :: L := by
  intro ρ hρ w hw
  have h1 := hρ x (by simp [ho, Op.operands]) _ hx
  have h2 := hρ y (by simp [ho, Op.operands]) _ hy
  subst hs; subst hij
  obtain ⟨sp, ⟨hl1, hl2, hl3⟩, hrow⟩ := holds_own.1 (hw.sel s)
  obtain ⟨w', hr, hw'⟩ := Holds.splice (P := P) us (xs ++ sp) j 0 L w hrow (by simp; omega) hp ⟨b, off + j, none⟩ (by rw [addr_add]; rfl) (fun k => by rw [addr_add]; congr 1; omega)
  have hsz : v.cells.size = ts := by rw [← Array.length_toList, hu]; exact hn
  have hrun : (execOp ρ o).run P w = .ok .skip w' := by
    simp [execOp, ho, h1, h2, Instr.storeAt, Instr.sureAddr, storeVar, hT, hsz, hu, hr]
  rw [hrun]
  have happ : ∀ (us xs : List Value) (j : Nat), j + us.length ≤ xs.length → splice (xs ++ sp) j us = splice xs j us ++ sp := by
    intro us
    induction us with
    | nil => intro xs j _; rfl
    | cons u us ih =>
      intro xs j hle
      simp only [splice]
      simp at hle
      rw [List.set_append_left _ _ (by omega), ih _ _ (by simp; omega)]
  refine ⟨_, rfl, holds_own.2 ⟨sp, ⟨by rw [splice_length]; exact hl1, hl2, hl3⟩, ?_⟩⟩
  rw [← happ us xs j hl]; exact hw'
end
end Go.Proofs.YtnjljfjncfbinaaGreat
