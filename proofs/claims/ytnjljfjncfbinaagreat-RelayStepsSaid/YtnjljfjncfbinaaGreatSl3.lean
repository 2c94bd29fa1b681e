/- What each operation does, as lemmas of the logic; contracts of functions. -/
import Derived.Test.YtnjljfjncfbinaaGreatSl2
import Derived.Laws.Entries
import Derived.Laws.Cells
import Derived.Laws.IdiomCopy
set_option linter.all false
namespace Go.Proofs.YtnjljfjncfbinaaGreat
open Go

/-! ### Contracts -/
def Spec (ω : World) (P : Program) (f : FuncId) (args : Array Value) (H : List HP) (R : Value → List HP → Prop) : Prop :=
  ∀ w, Holds ω H w → Calls P f args w fun e w' => ∃ v, e = .returned v ∧ ∃ H', R v H' ∧ Holds ω H' w'

theorem Spec.mono {ω : World} {P : Program} {f : FuncId} {args : Array Value} {H : List HP} {R R' : Value → List HP → Prop} (h : Spec ω P f args H R) (hr : ∀ v H', R v H' → R' v H') : Spec ω P f args H R' :=
  fun w hw => (h w hw).mono fun _ _ ⟨v, he, H', a, b⟩ => ⟨v, he, H', hr _ _ a, b⟩

theorem Spec.sees {ω : World} {P : Program} {f : FuncId} {args : Array Value} {H H1 : List HP} {R : Value → List HP → Prop} (s : Sees H H1) (h : Spec ω P f args H1 R) : Spec ω P f args H R := fun w hw => h w (hw.sees s)
/-- It yields this value whatever is held, and takes nothing of it. -/
def PureSpec (P : Program) (f : FuncId) (args : Array Value) (v : Value) : Prop :=
  ∀ ω H, Spec ω P f args H fun v' H' => v' = v ∧ H' = H

def argEnv : Nat → List Value → Env
  | _, [] => []
  | i, v :: l => (i, v) :: argEnv (i + 1) l

theorem look_argEnv : ∀ (l : List Value) (k i : Nat) (v : Value), look i (argEnv k l) = some v → k ≤ i ∧ l[i - k]? = some v := by
  intro l
  induction l with
  | nil => intro k i v h; cases h
  | cons a l ih =>
    intro k i v h
    by_cases e : i = k
    · subst e
      simp only [argEnv] at h
      rw [look_here] at h
      exact ⟨Nat.le_refl _, by simpa using h⟩
    · simp only [argEnv] at h
      rw [look_ne _ _ e] at h
      obtain ⟨h1, h2⟩ := ih (k + 1) i v h
      refine ⟨by omega, ?_⟩
      rw [show i - k = (i - (k + 1)) + 1 from by omega]
      simpa using h2

def FinQ (ω : World) (P : Program) (fn : Func) (R : Value → List HP → Prop) : Post :=
  bodyPost P fn fun e w' => ∃ v, e = .returned v ∧ ∃ H', R v H' ∧ Holds ω H' w'

theorem spec_of_body {ω : World} {P : Program} {f : FuncId} {fn : Func} {c : Code} {args : Array Value} {H : List HP} {R : Value → List HP → Prop} {N : Nat}
    (hf : P.funcs[f]? = some fn) (hb : fn.body = some c) (hn : fn.ntmps = N) (hs : Nat.ble args.size N = true) (h : CT ω P N c (argEnv 0 args.toList) H (FinQ ω P fn R)) : Spec ω P f args H R := by
  intro w hw
  have hs := Nat.le_of_ble_eq_true hs
  refine calls_of_wp hf hb (h _ _ ⟨rfl, by simp [hn]; omega, fun i v hv => ?_⟩ hw)
  obtain ⟨_, h2⟩ := look_argEnv _ _ _ _ hv
  have hlt : i < args.size := by
    rcases Nat.lt_or_ge i args.size with h | h
    · exact h
    · rw [List.getElem?_eq_none (by simpa using h)] at h2; cases h2
  rw [Array.getElem?_append_left hlt]
  simpa using h2

section
variable {ω : World} {P : Program} {N : Nat} {E : Env} {H : List HP}

def resOf : List Value → Value
  | [v] => v
  | vs => .tuple vs.toArray

theorem addr_add (b o i : Nat) : (Addr.mk b o none).add i = ⟨b, o + i, none⟩ := by
  unfold Addr.add
  split
  · rename_i h; subst h; rfl
  · rfl
theorem run_loadVar_word {T : TypeId} {a : Addr} {v : Value} {w : World} (hT : ∀ w, (isAgg T).run P w = .ok false w) (hc : w.cell? a = some v) : (loadVar T a).run P w = .ok v w := by
  simp [loadVar, hT, hc]
theorem run_loadVar_agg {T : TypeId} {b o n : Nat} {us : List Value} {w : World} (hT : ∀ w, (isAgg T).run P w = .ok true w) (hs : ∀ w, (sizeOf T).run P w = .ok n w) (hn : us.length = n)
    (hc : ∀ i v, us[i]? = some v → w.cell? ⟨b, o + i, none⟩ = some v) : (loadVar T ⟨b, o, none⟩).run P w = .ok (.agg us.toArray) w := by
  subst hn
  simp only [loadVar, Sem.run_bind, hT, Result.andThen_ok, if_true, hs]
  rw [run_loadCells_list]
  · simp
  · intro j v hv; rw [addr_add]; exact hc j v hv

/-- What a function's results are, in slots or in cells. -/
inductive RVs (P : Program) (E : Env) (H : List HP) : List ResultVar → List Value → Prop where
  | nil : RVs P E H [] []
  | tmp {t : Tmp} {v : Value} {rs : List ResultVar} {vs : List Value} : look t E = some v → RVs P E H rs vs → RVs P E H (.tmp t :: rs) (v :: vs)
  | cell {t : Tmp} {T : TypeId} {b off i : Nat} {us : List Value} {v : Value} {L : List HP} {rs : List ResultVar} {vs : List Value} : look t E = some (.pointer (some ⟨b, i, none⟩)) → (∀ w, (isAgg T).run P w = .ok false w) →
      Sel H (row b off us) L → Nat.ble off i = true → us[i - off]? = some v → RVs P E H rs vs → RVs P E H (.cell t T :: rs) (v :: vs)
  | agg {t : Tmp} {T : TypeId} {b off i n : Nat} {us ws : List Value} {L : List HP} {rs : List ResultVar} {vs : List Value} : look t E = some (.pointer (some ⟨b, i, none⟩)) → (∀ w, (isAgg T).run P w = .ok true w) → (∀ w, (sizeOf T).run P w = .ok n w) →
      Sel H (row b off ws) L → Nat.ble off i = true → (ws.drop (i - off)).take n = us → us.length = n → RVs P E H rs vs → RVs P E H (.cell t T :: rs) (.agg us.toArray :: vs)

theorem run_rvs {a : Act} {w : World} (ha : Agree N E a) (hw : Holds ω H w) (f : ResultVar → Sem Value) (hf : ∀ t, f (.tmp t) = pure (a.tmps.getD t undef)) (hf' : ∀ t T, f (.cell t T) = (do loadVar T (← asAddr (a.tmps.getD t undef)))) :
    ∀ (rs : List ResultVar) (vs : List Value), RVs P E H rs vs → (rs.mapM f).run P w = .ok vs w := by
  intro rs vs h
  induction h with
  | nil => simp
  | @tmp t v rs vs hl _ ih =>
    have := ha.e _ _ hl
    rw [List.mapM_cons]
    simp only [Sem.run_bind, hf, Sem.run_pure, Result.andThen_ok, ih]
    simp [this]
  | @cell t T b off i us v L rs vs hl hT s hle hv _ ih =>
    have := ha.e _ _ hl
    have hc := (hw.imp s.out).cell hv
    rw [show off + (i - off) = i from by have := Nat.le_of_ble_eq_true hle; omega] at hc
    rw [List.mapM_cons]
    simp only [Sem.run_bind, hf', Sem.run_pure, Result.andThen_ok, ih]
    simp only [Array.getD_eq_getD_getElem?, this, Option.getD_some, asAddr, Sem.run_pure, Result.andThen_ok]
    rw [run_loadVar_word hT hc.1]
    simp [ih]
  | @agg t T b off i n us ws L rs vs hl hT hs s hle hv hn _ ih =>
    have := ha.e _ _ hl
    have hle := Nat.le_of_ble_eq_true hle
    have hc : ∀ j v, us[j]? = some v → w.cell? ⟨b, i + j, none⟩ = some v := by
      intro j v hj
      subst hv
      rw [List.getElem?_take] at hj
      split at hj
      · rw [List.getElem?_drop] at hj
        have := (hw.imp s.out).cell hj
        rw [show off + (i - off + j) = i + j from by omega] at this
        exact this.1
      · cases hj
    rw [List.mapM_cons]
    simp only [Sem.run_bind, hf', Sem.run_pure, Result.andThen_ok, ih]
    simp only [Array.getD_eq_getD_getElem?, this, Option.getD_some, asAddr, Sem.run_pure, Result.andThen_ok]
    rw [run_loadVar_agg hT hs hn hc]
    simp [ih]

theorem run_results {fn : Func} {rs : List ResultVar} {vs : List Value} {a : Act} {w : World} (ha : Agree N E a) (hw : Holds ω H w) (hl : RVs P E H rs vs) (hr : fn.results = rs.toArray) :
    (results fn a.tmps).run P w = .ok (resOf vs) w := by
  unfold results
  rw [hr]
  simp only [Sem.run_bind, List.mapM_toArray, Sem.run_map]
  rw [run_rvs ha hw _ (fun _ => rfl) (fun _ _ => rfl) rs vs hl]
  simp only [Result.andThen_ok, Sem.run_pure]
  congr 1
  match vs with
  | [] => rfl
  | [v] => rfl
  | _ :: _ :: _ => simp [resOf]

theorem fin_ret {fn : Func} {R : Value → List HP → Prop} {rs : List ResultVar} {vs : List Value} {H' : List HP} (hl : RVs P E H rs vs) (hr : fn.results = rs.toArray)
    (h : R (resOf vs) H') (s : Sees H H') : XT ω N .ret E H (FinQ ω P fn R) := by
  intro a w ha hw
  exact ⟨ha.d, _, run_results ha hw hl hr, _, rfl, _, h, hw.sees s⟩
theorem fin_end {fn : Func} {R : Value → List HP → Prop} {rs : List ResultVar} {vs : List Value} {H' : List HP} (hl : RVs P E H rs vs) (hr : fn.results = rs.toArray)
    (h : R (resOf vs) H') (s : Sees H H') : XT ω N .normal E H (FinQ ω P fn R) := by
  intro a w ha hw
  exact ⟨ha.d, _, run_results ha hw hl hr, _, rfl, _, h, hw.sees s⟩

/-! ### Operations that only reckon -/
/-- In whatever world: this value. -/
def PV (P : Program) (op : Op) (E : Env) (v : Value) : Prop :=
  ∀ (o : Oper), o.op = op → ∀ ρ : Operand → Value, (∀ x, x ∈ op.operands → ∀ u, ev E x = some u → ρ x = u) → ∀ w, (execOp ρ o).run P w = .ok (.value v) w

theorem oq_pv {o : Oper} {S : List HP} {v : Value} (h : PV P o.op E v) : OQ ω P o E S v := by
  intro F ρ hρ w hw
  rw [h o rfl ρ hρ w]
  exact ⟨_, ⟨rfl, rfl⟩, hw⟩

theorem pv_move {x : Operand} {v : Value} (h : ev E x = some v) : PV P (.move x) E v := by
  intro o ho ρ hρ w
  have := hρ x (by simp [Op.operands]) v h
  simp [execOp, ho, this]
theorem pv_assign {x : Operand} {v : Value} (h : ev E x = some v) : PV P (.assign x) E v := by
  intro o ho ρ hρ w
  have := hρ x (by simp [Op.operands]) v h
  simp [execOp, ho, this]
theorem pv_pick {c x y : Operand} {b : Bool} {u v : Value} (hc : ev E c = some (.bool b)) (hx : b = true → ev E x = some u) (hy : b = false → ev E y = some v) : PV P (.pick c x y) E (bif b then u else v) := by
  intro o ho ρ hρ w
  have := hρ c (by simp [Op.operands]) _ hc
  cases b
  · have h2 := hρ y (by simp [Op.operands]) _ (hy rfl)
    simp [execOp, ho, this, asBool, h2]
  · have h2 := hρ x (by simp [Op.operands]) _ (hx rfl)
    simp [execOp, ho, this, asBool, h2]
theorem pv_pick1 {x y : Operand} {c : Operand} {u : Value} (hc : ev E c = some (.bool true)) (hx : ev E x = some u) : PV P (.pick c x y) E u :=
  pv_pick (b := true) (v := u) hc (fun _ => hx) (fun h => by cases h)
theorem pv_pick0 {x y : Operand} {c : Operand} {u : Value} (hc : ev E c = some (.bool false)) (hy : ev E y = some u) : PV P (.pick c x y) E u :=
  pv_pick (b := false) (u := u) hc (fun h => by cases h) (fun _ => hy)
theorem pv_nilCheck {x : Operand} {a : Addr} (h : ev E x = some (.pointer (some a))) : PV P (.nilCheck x) E (.pointer (some a)) := by
  intro o ho ρ hρ w
  have := hρ x (by simp [Op.operands]) _ h
  simp [execOp, ho, this]
theorem pv_nilCheck_func {x : Operand} {f : FuncId} {l c : Array Value} (h : ev E x = some (.func (.func f) l c)) : PV P (.nilCheck x) E (.func (.func f) l c) := by
  intro o ho ρ hρ w
  have := hρ x (by simp [Op.operands]) _ h
  simp [execOp, ho, this]
theorem pv_nilCheck_iface {x : Operand} {t : TypeId} {v : Value} (h : ev E x = some (.iface t v)) : PV P (.nilCheck x) E (.iface t v) := by
  intro o ho ρ hρ w
  have := hρ x (by simp [Op.operands]) _ h
  simp [execOp, ho, this]
theorem pv_fieldAddr {T : TypeId} {x : Operand} {i b off n k : Nat} {fs : Array Field} {f : Field} (hx : ev E x = some (.pointer (some ⟨b, off, none⟩)))
    (hT : ∀ w, (underlying T).run P w = .ok (.struct fs) w) (hf : fs[i]? = some f) (hs : ∀ w, (sizeOf f.type).run P w = .ok n w) (hn : (Nat.beq n 0) = false) (hk : off + f.offset = k) :
    PV P (.fieldAddr T x i) E (.pointer (some ⟨b, k, none⟩)) := by
  intro o ho ρ hρ w
  have := hρ x (by simp [Op.operands]) _ hx
  have hn : n ≠ 0 := Nat.ne_of_beq_eq_false hn
  subst hk
  by_cases e : f.offset = 0
  · simp [execOp, ho, this, Instr.fieldAt, hT, hf, Instr.sureAddr, fieldPlace, hs, hn, Addr.add, e]
  · simp [execOp, ho, this, Instr.fieldAt, hT, hf, Instr.sureAddr, fieldPlace, hs, hn, Addr.add, e]

/-- A number that fits its kind. -/
abbrev inK : IntKind → Int → Prop
  | .i8, n => -128 ≤ n ∧ n ≤ 127
  | .i16, n => -32768 ≤ n ∧ n ≤ 32767
  | .i32, n => -2147483648 ≤ n ∧ n ≤ 2147483647
  | .i64, n => -9223372036854775808 ≤ n ∧ n ≤ 9223372036854775807
  | .u8, n => 0 ≤ n ∧ n ≤ 255
  | .u16, n => 0 ≤ n ∧ n ≤ 65535
  | .u32, n => 0 ≤ n ∧ n ≤ 4294967295
  | .u64, n => 0 ≤ n ∧ n ≤ 18446744073709551615
theorem wrap_inK {k : IntKind} {a : Int} (h : inK k a) : k.wrap a = a := by
  cases k <;> simp [inK, IntKind.wrap, IntKind.bits, IntKind.signed] at h ⊢ <;> first | omega | (split <;> omega)
theorem inK_wrap (k : IntKind) (a : Int) : inK k (k.wrap a) := by
  cases k <;> simp [inK, IntKind.wrap, IntKind.bits, IntKind.signed] <;> first | omega | (split <;> omega)

def iand (k : IntKind) (a b : Int) : Int := k.wrap (BitVec.ofInt k.bits a &&& BitVec.ofInt k.bits b).toNat
def ior (k : IntKind) (a b : Int) : Int := k.wrap (BitVec.ofInt k.bits a ||| BitVec.ofInt k.bits b).toNat
def ixor (k : IntKind) (a b : Int) : Int := k.wrap (BitVec.ofInt k.bits a ^^^ BitVec.ofInt k.bits b).toNat
def iandNot (k : IntKind) (a b : Int) : Int := k.wrap (BitVec.ofInt k.bits a &&& ~~~BitVec.ofInt k.bits b).toNat
def arith : BinOp → IntKind → Int → Int → Option Value
  | .add, k, a, b => some (.int k (k.wrap (a + b)))
  | .sub, k, a, b => some (.int k (k.wrap (a - b)))
  | .mul, k, a, b => some (.int k (k.wrap (a * b)))
  | .eql, _, a, b => some (.bool (decide (a = b)))
  | .neq, _, a, b => some (.bool (!decide (a = b)))
  | .lss, _, a, b => some (.bool (decide (a < b)))
  | .leq, _, a, b => some (.bool (decide (a ≤ b)))
  | .gtr, _, a, b => some (.bool (decide (a > b)))
  | .geq, _, a, b => some (.bool (decide (a ≥ b)))
  | .and, k, a, b => some (.int k (iand k a b))
  | .or, k, a, b => some (.int k (ior k a b))
  | .xor, k, a, b => some (.int k (ixor k a b))
  | .andNot, k, a, b => some (.int k (iandNot k a b))
  | _, _, _, _ => none

theorem run_binOp_arith {op : BinOp} {k : IntKind} {a b : Int} {v : Value} (h : arith op k a b = some v) (T : TypeId) (w : World) : (binOp op T (.int k a) (.int k b)).run P w = .ok v w := by
  cases op <;> simp only [arith, Option.some.injEq, reduceCtorEq] at h <;> subst h <;>
    (simp only [binOp, ne_eq, not_true_eq_false, if_false, Op.intArith, Op.intCmp, Op.intBits, Sem.run_pure] <;> rfl)

def guarded : Value → Value → Bool
  | .nilIface, .nilIface => true
  | .agg _, .agg _ => true
  | _, _ => false
theorem run_eqGuard_plain {op : BinOp} {T : TypeId} {x y : Operand} {a b : Value} (h : guarded a b = false) (w : World) :
    (eqGuard op T x y a b).run P w = .ok () w := by
  unfold eqGuard
  cases op <;> first
    | (simp; done)
    | (cases a <;> cases b <;> first | (simp [guarded] at h; done) | (simp; done))

theorem pv_bin {op : BinOp} {k : IntKind} {x y : Operand} {T U : TypeId} {a b : Int} {v : Value} (hx : ev E x = some (.int k a)) (hy : ev E y = some (.int k b)) (h : arith op k a b = some v) : PV P (.binOp op T x y U) E v := by
  intro o ho ρ hρ w
  have h1 := hρ x (by simp [Op.operands]) _ hx
  have h2 := hρ y (by simp [Op.operands]) _ hy
  simp only [execOp, ho, h1, h2, Sem.run_bind]
  rw [run_eqGuard_plain (by rfl)]
  simp [run_binOp_arith h]

theorem pv_add {k : IntKind} {x y : Operand} {T U : TypeId} {a b : Int} (hx : ev E x = some (.int k a)) (hy : ev E y = some (.int k b)) (h : inK k (a + b)) : PV P (.binOp .add T x y U) E (.int k (a + b)) := by
  refine pv_bin hx hy ?_
  simp only [arith]
  rw [wrap_inK h]
theorem pv_sub {k : IntKind} {x y : Operand} {T U : TypeId} {a b : Int} (hx : ev E x = some (.int k a)) (hy : ev E y = some (.int k b)) (h : inK k (a - b)) : PV P (.binOp .sub T x y U) E (.int k (a - b)) := by
  refine pv_bin hx hy ?_
  simp only [arith]
  rw [wrap_inK h]
theorem pv_mul {k : IntKind} {x y : Operand} {T U : TypeId} {a b : Int} (hx : ev E x = some (.int k a)) (hy : ev E y = some (.int k b)) (h : inK k (a * b)) : PV P (.binOp .mul T x y U) E (.int k (a * b)) := by
  refine pv_bin hx hy ?_
  simp only [arith]
  rw [wrap_inK h]
theorem pv_quo {k : IntKind} {x y : Operand} {T U : TypeId} {a b : Int} (hx : ev E x = some (.int k a)) (hy : ev E y = some (.int k b)) (h : b ≠ 0) : PV P (.binOp .quo T x y U) E (.int k (k.wrap (a.tdiv b))) := by
  intro o ho ρ hρ w
  have h1 := hρ x (by simp [Op.operands]) _ hx
  have h2 := hρ y (by simp [Op.operands]) _ hy
  simp only [execOp, ho, h1, h2, Sem.run_bind]
  rw [run_eqGuard_plain (by rfl)]
  simp [binOp, Op.intDiv, h]
theorem pv_rem {k : IntKind} {x y : Operand} {T U : TypeId} {a b : Int} (hx : ev E x = some (.int k a)) (hy : ev E y = some (.int k b)) (h : b ≠ 0) : PV P (.binOp .rem T x y U) E (.int k (a.tmod b)) := by
  intro o ho ρ hρ w
  have h1 := hρ x (by simp [Op.operands]) _ hx
  have h2 := hρ y (by simp [Op.operands]) _ hy
  simp only [execOp, ho, h1, h2, Sem.run_bind]
  rw [run_eqGuard_plain (by rfl)]
  simp [binOp, Op.intDiv, h]
theorem pv_shl {k k' : IntKind} {x y : Operand} {T U : TypeId} {a b : Int} (hx : ev E x = some (.int k a)) (hy : ev E y = some (.int k' b)) (h : 0 ≤ b) : PV P (.binOp .shl T x y U) E (.int k (k.wrap (a * 2 ^ (min b.toNat k.bits)))) := by
  intro o ho ρ hρ w
  have h1 := hρ x (by simp [Op.operands]) _ hx
  have h2 := hρ y (by simp [Op.operands]) _ hy
  simp only [execOp, ho, h1, h2, Sem.run_bind]
  rw [run_eqGuard_plain (by rfl)]
  simp [binOp, Op.shift, show ¬ b < 0 from by omega]
theorem pv_shr {k k' : IntKind} {x y : Operand} {T U : TypeId} {a b : Int} (hx : ev E x = some (.int k a)) (hy : ev E y = some (.int k' b)) (h : 0 ≤ b) : PV P (.binOp .shr T x y U) E (.int k (a.fdiv (2 ^ (min b.toNat k.bits)))) := by
  intro o ho ρ hρ w
  have h1 := hρ x (by simp [Op.operands]) _ hx
  have h2 := hρ y (by simp [Op.operands]) _ hy
  simp only [execOp, ho, h1, h2, Sem.run_bind]
  rw [run_eqGuard_plain (by rfl)]
  simp [binOp, Op.shift, show ¬ b < 0 from by omega]

/-- '==' and '!=' on other kinds. -/
def eqv : TypeDesc → Value → Value → Option Bool
  | .bool, .bool a, .bool b => some (a == b)
  | .pointer _, .pointer a, .pointer b => (match b with
    | none => some a.isNone
    | some _ => match a with
      | none => some false
      | some _ => none)
  | .func _ _ _, .nilFunc, .nilFunc => some true
  | .func _ _ _, .nilFunc, .func _ _ _ => some false
  | .func _ _ _, .func _ _ _, .nilFunc => some false
  | .slice _, .slice a _ _, .slice b _ _ => (match b with
    | none => some a.isNone
    | some _ => match a with
      | none => some false
      | some _ => none)
  | .interface _, .nilIface, .iface _ _ => some false
  | .interface _, .iface _ _, .nilIface => some false
  | _, _, _ => none

theorem eqv_guarded {d : TypeDesc} {a b : Value} {r : Bool} (h : eqv d a b = some r) : guarded a b = false := by
  unfold eqv at h; split at h <;> first | rfl | cases h
theorem run_equal_eqv {T : TypeId} {d : TypeDesc} {a b : Value} {r : Bool} (hT : ∀ w, (underlying T).run P w = .ok d w) (h : eqv d a b = some r) (w : World) : (Op.equal T a b).run P w = .ok r w := by
  have key : ∀ d, (Op.equalIn (d + 1) T a b).run P w = .ok r w := by
    intro n
    unfold eqv at h
    split at h
    · cases h; simp [Op.equalIn, hT]
    · rename_i x y
      cases x <;> cases y <;> simp at h <;> subst h <;> simp [Op.equalIn, hT]
    · cases h; simp [Op.equalIn, hT]
    · cases h; simp [Op.equalIn, hT]
    · cases h; simp [Op.equalIn, hT]
    · rename_i x _ _ y _ _
      cases x <;> cases y <;> simp at h <;> subst h <;> simp [Op.equalIn, hT]
    · cases h; simp [Op.equalIn, hT]
    · cases h; simp [Op.equalIn, hT]
    · cases h
  exact key 9999

theorem pv_eql {x y : Operand} {T U : TypeId} {d : TypeDesc} {a b : Value} {r : Bool} (hx : ev E x = some a) (hy : ev E y = some b) (hT : ∀ w, (underlying T).run P w = .ok d w) (h : eqv d a b = some r) : PV P (.binOp .eql T x y U) E (.bool r) := by
  intro o ho ρ hρ w
  have h1 := hρ x (by simp [Op.operands]) _ hx
  have h2 := hρ y (by simp [Op.operands]) _ hy
  simp only [execOp, ho, h1, h2, Sem.run_bind]
  have he := run_equal_eqv (P := P) hT h
  rw [run_eqGuard_plain (eqv_guarded h)]
  simp only [Result.andThen_ok, Sem.run_pure]
  have hb : (binOp .eql T a b).run P w = .ok (.bool r) w := by
    unfold eqv at h
    split at h <;> first | (cases h; done) | (simp only [binOp, Sem.run_bind, he, Result.andThen_ok, Sem.run_pure])
  rw [hb]; rfl
theorem pv_neq {x y : Operand} {T U : TypeId} {d : TypeDesc} {a b : Value} {r : Bool} (hx : ev E x = some a) (hy : ev E y = some b) (hT : ∀ w, (underlying T).run P w = .ok d w) (h : eqv d a b = some r) : PV P (.binOp .neq T x y U) E (.bool (!r)) := by
  intro o ho ρ hρ w
  have h1 := hρ x (by simp [Op.operands]) _ hx
  have h2 := hρ y (by simp [Op.operands]) _ hy
  simp only [execOp, ho, h1, h2, Sem.run_bind]
  have he := run_equal_eqv (P := P) hT h
  rw [run_eqGuard_plain (eqv_guarded h)]
  simp only [Result.andThen_ok, Sem.run_pure]
  have hb : (binOp .neq T a b).run P w = .ok (.bool (!r)) w := by
    unfold eqv at h
    split at h <;> first | (cases h; done) | (simp only [binOp, Sem.run_bind, he, Result.andThen_ok, Sem.run_pure])
  rw [hb]; rfl
theorem pv_streq {x y : Operand} {T U : TypeId} {a b : ByteArray} (hx : ev E x = some (.string a)) (hy : ev E y = some (.string b)) : PV P (.binOp .eql T x y U) E (.bool (a.toList == b.toList)) := by
  intro o ho ρ hρ w
  have h1 := hρ x (by simp [Op.operands]) _ hx
  have h2 := hρ y (by simp [Op.operands]) _ hy
  simp only [execOp, ho, h1, h2, Sem.run_bind]
  rw [run_eqGuard_plain (by rfl)]
  simp [binOp, Op.stringOp]
theorem pv_strne {x y : Operand} {T U : TypeId} {a b : ByteArray} (hx : ev E x = some (.string a)) (hy : ev E y = some (.string b)) : PV P (.binOp .neq T x y U) E (.bool (a.toList != b.toList)) := by
  intro o ho ρ hρ w
  have h1 := hρ x (by simp [Op.operands]) _ hx
  have h2 := hρ y (by simp [Op.operands]) _ hy
  simp only [execOp, ho, h1, h2, Sem.run_bind]
  rw [run_eqGuard_plain (by rfl)]
  simp [binOp, Op.stringOp, bne]

theorem pv_not {x : Operand} {T : TypeId} {b : Bool} (hx : ev E x = some (.bool b)) : PV P (.unOp .not T x) E (.bool (!b)) := by
  intro o ho ρ hρ w
  have h1 := hρ x (by simp [Op.operands]) _ hx
  simp [execOp, ho, h1, Op.unary]
theorem pv_neg {x : Operand} {T : TypeId} {k : IntKind} {a : Int} (hx : ev E x = some (.int k a)) : PV P (.unOp .neg T x) E (.int k (k.wrap (0 - a))) := by
  intro o ho ρ hρ w
  have h1 := hρ x (by simp [Op.operands]) _ hx
  simp [execOp, ho, h1, Op.unary, Op.intArith]
theorem pv_convert {x : Operand} {S T : TypeId} {d : TypeDesc} {k k' : IntKind} {a : Int} (hx : ev E x = some (.int k' a)) (hS : ∀ w, (underlying S).run P w = .ok d w) (hT : ∀ w, (underlying T).run P w = .ok (.int k) w) :
    PV P (.convert S T x) E (.int k (k.wrap a)) := by
  intro o ho ρ hρ w
  have h1 := hρ x (by simp [Op.operands]) _ hx
  simp only [execOp, ho, h1, Sem.run_bind, convert, hS, hT, Result.andThen_ok]
  simp [Conv.intToInt]
theorem pv_convert_in {x : Operand} {S T : TypeId} {d : TypeDesc} {k k' : IntKind} {a : Int} (hx : ev E x = some (.int k' a)) (hS : ∀ w, (underlying S).run P w = .ok d w) (hT : ∀ w, (underlying T).run P w = .ok (.int k) w)
    (h : inK k a) : PV P (.convert S T x) E (.int k a) := by
  have := pv_convert (P := P) hx hS hT
  rwa [wrap_inK h] at this
theorem pv_extract {x : Operand} {vs : Array Value} {i : Nat} {v : Value} (hx : ev E x = some (.tuple vs)) (hv : vs[i]? = some v) : PV P (.extract x i) E v := by
  intro o ho ρ hρ w
  have h1 := hρ x (by simp [Op.operands]) _ hx
  simp [execOp, ho, h1, Instr.extract, hv]

def evs (E : Env) : List Operand → Option (List Value)
  | [] => some []
  | x :: xs => match ev E x, evs E xs with
    | some v, some vs => some (v :: vs)
    | _, _ => none
theorem evs_spec {ρ : Operand → Value} : ∀ (xs : List Operand) (vs : List Value), (∀ x, x ∈ xs → ∀ u, ev E x = some u → ρ x = u) → evs E xs = some vs → xs.map ρ = vs := by
  intro xs
  induction xs with
  | nil => intro vs _ h; simpa [evs] using h
  | cons x xs ih =>
    intro vs hρ h
    simp only [evs] at h
    split at h
    · rename_i v us e1 e2
      cases h
      rw [List.map_cons, hρ x List.mem_cons_self v e1, ih us (fun y hy => hρ y (List.mem_cons_of_mem _ hy)) e2]
    · cases h
def evp (E : Env) : List (Nat × Operand) → Option (List (Nat × Value))
  | [] => some []
  | (i, x) :: xs => match ev E x, evp E xs with
    | some v, some vs => some ((i, v) :: vs)
    | _, _ => none
theorem evp_spec {ρ : Operand → Value} : ∀ (xs : List (Nat × Operand)) (vs : List (Nat × Value)), (∀ x, x ∈ xs.map (·.2) → ∀ u, ev E x = some u → ρ x = u) → evp E xs = some vs → xs.map (fun p => (p.1, ρ p.2)) = vs := by
  intro xs
  induction xs with
  | nil => intro vs _ h; simpa [evp] using h
  | cons x xs ih =>
    intro vs hρ h
    obtain ⟨i, x⟩ := x
    simp only [evp] at h
    split at h
    · rename_i v us e1 e2
      cases h
      rw [List.map_cons, hρ x (by simp) v e1, ih us (fun y hy => hρ y (by simp at hy ⊢; exact .inr hy)) e2]
    · cases h

theorem pv_field {T : TypeId} {x : Operand} {i : Nat} {cs : Array Value} {fs : Array Field} {f : Field} {v : Value} (hx : ev E x = some (.agg cs)) (hT : ∀ w, (underlying T).run P w = .ok (.struct fs) w) (hf : fs[i]? = some f)
    (ha : ∀ w, (isAgg f.type).run P w = .ok false w) (hv : cs[f.offset]? = some v) : PV P (.field T x i) E v := by
  intro o ho ρ hρ w
  have h1 := hρ x (by simp [Op.operands]) _ hx
  simp [execOp, ho, h1, Instr.field, hT, hf, asAgg, part, ha, hv]
theorem pv_fieldAgg {T : TypeId} {x : Operand} {i n : Nat} {cs : Array Value} {fs : Array Field} {f : Field} {us : Array Value} (hx : ev E x = some (.agg cs)) (hT : ∀ w, (underlying T).run P w = .ok (.struct fs) w) (hf : fs[i]? = some f)
    (ha : ∀ w, (isAgg f.type).run P w = .ok true w) (hs : ∀ w, (sizeOf f.type).run P w = .ok n w) (hv : cs.extract f.offset (f.offset + n) = us) : PV P (.field T x i) E (.agg us) := by
  intro o ho ρ hρ w
  have h1 := hρ x (by simp [Op.operands]) _ hx
  simp [execOp, ho, h1, Instr.field, hT, hf, asAgg, part, ha, hs, hv]

/-- Where a struct's fields lie. -/
inductive PL (P : Program) : List Field → List (Nat × Nat) → Prop where
  | nil : PL P [] []
  | cons {f : Field} {fs : List Field} {n : Nat} {pl : List (Nat × Nat)} : (∀ w, (sizeOf f.type).run P w = .ok n w) → PL P fs pl → PL P (f :: fs) ((f.offset, n) :: pl)

theorem PL.run {g : Field → Sem (Nat × Nat)} (hg : ∀ f, g f = (do pure (f.offset, ← sizeOf f.type))) : ∀ {fs : List Field} {pl : List (Nat × Nat)}, PL P fs pl → ∀ w, (fs.mapM g).run P w = .ok pl w := by
  intro fs pl h
  induction h with
  | nil => intro w; simp
  | cons hs _ ih => intro w; rw [List.mapM_cons]; simp [hg, hs, ih]

def splice : List Value → Nat → List Value → List Value
  | vs, _, [] => vs
  | vs, k, u :: us => splice (vs.set k u) (k + 1) us


theorem fold_splice (off : Nat) : ∀ (us : List Value) (k : Nat) (cs : List Value), (us.zipIdx k).foldl (fun cs (x : Value × Nat) => cs.setIfInBounds (off + x.2) x.1) cs.toArray = (splice cs (off + k) us).toArray := by
  intro us
  induction us with
  | nil => intro k cs; rfl
  | cons u us ih =>
    intro k cs
    simp only [List.zipIdx_cons, List.foldl_cons, splice]
    rw [List.setIfInBounds_toArray, ih (k + 1)]
    rfl

/-- A struct's cells, filled in. -/
def fillL (pl : List (Nat × Nat)) : List Value → List (Nat × Value) → Option (List Value)
  | cs, [] => some cs
  | cs, (i, v) :: rest => match pl[i]? with
    | none => none
    | some (off, size) => match Nat.beq v.cells.toList.length size, Nat.ble (off + v.cells.toList.length) cs.length with
      | true, true => fillL pl (splice cs off v.cells.toList) rest
      | _, _ => none

theorem fill_of {pl : List (Nat × Nat)} : ∀ (ps : List (Nat × Value)) (cs r : List Value), fillL pl cs ps = some r → Instr.fill (fun i : Nat => pl[i]?) cs.toArray ps = some r.toArray := by
  intro ps
  induction ps with
  | nil => intro cs r h; simp only [fillL, Option.some.injEq] at h; simp [Instr.fill, h]
  | cons p ps ih =>
    intro cs r h
    obtain ⟨i, v⟩ := p
    simp only [fillL] at h
    cases hp : pl[i]? with
    | none => rw [hp] at h; cases h
    | some x =>
      obtain ⟨off, size⟩ := x
      rw [hp] at h
      simp only at h
      split at h
      · rename_i h1 h2
        have e1 : v.cells.size = size := by have := Nat.eq_of_beq_eq_true h1; simpa using this
        have e2 : off + v.cells.size ≤ cs.length := by have := Nat.le_of_ble_eq_true h2; simpa using this
        have := ih _ _ h
        simp only [Instr.fill, hp]
        rw [if_neg (by simp [e1]; simpa [e1] using e2)]
        have e3 : v.cells.zipIdx.foldl (fun cs (x : Value × Nat) => match x with | (c, j) => cs.setIfInBounds (off + j) c) cs.toArray = (splice cs off v.cells.toList).toArray := by
          have h0 := fold_splice off v.cells.toList 0 cs
          rw [Nat.add_zero] at h0
          rw [← h0, ← Array.foldl_toList, Array.toList_zipIdx]
        rw [e3]; exact this
      · cases h

theorem pv_build {T : TypeId} {parts : Array (Nat × Operand)} {ps : List (Nat × Value)} {z : Value} {fs : Array Field} {pl : List (Nat × Nat)} {cs : List Value}
    (hp : evp E parts.toList = some ps) (hz : ∀ w, (zeroValue T).run P w = .ok z w) (hT : ∀ w, (underlying T).run P w = .ok (.struct fs) w)
    (hpl : PL P fs.toList pl) (hf : fillL pl z.cells.toList ps = some cs) : PV P (.build T parts) E (.agg cs.toArray) := by
  intro o ho ρ hρ w
  have h1 : (parts.map fun (i, x) => (i, ρ x)).toList = ps := by
    rw [Array.toList_map]
    exact evp_spec _ _ (fun x hx => hρ x (by simpa [Op.operands] using hx)) hp
  have h2 : (fun i : Nat => pl.toArray[i]?) = fun i : Nat => pl[i]? := by funext i; simp
  have hf := fill_of _ _ _ hf
  rw [Array.toArray_toList] at hf
  simp only [execOp, ho, Sem.run_bind, Instr.build, hz, hT, Result.andThen_ok]
  obtain ⟨fl⟩ := fs
  rw [List.mapM_toArray]
  simp only [Sem.run_map]
  rw [hpl.run (fun _ => rfl)]
  simp only [Result.andThen_ok, h1, h2, hf, Sem.run_pure]
end
end Go.Proofs.YtnjljfjncfbinaaGreat
