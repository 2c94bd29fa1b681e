/- Calls of functions without a body (atomics), and of an interface value's methods. -/
import Derived.Test.YtnjljfjncfbinaaGreatSl8
import Derived.Laws.LoneSync
set_option linter.all false
namespace Go.Proofs.YtnjljfjncfbinaaGreat
open Go

section
variable {ω : World} {P : Program} {N : Nat} {E : Env} {H S L : List HP}

/-- What a function without a body is. -/
structure ExtF (P : Program) (f : FuncId) (fn : Func) (e : Array Value → Sem Value) : Prop where
  hf : P.funcs[f]? = some fn
  hname : (fn.name == "runtime.NumGoroutine") = false
  hb : fn.body.isNone = true
  hn : Extern.findNext fn = none
  he : Extern.find fn = some e

theorem run_extcall {o : Oper} {f : FuncId} {xs : Array Operand} {ts : Array TypeId} {vs : List Value} {ρ : Operand → Value} (ho : o.op = .call ⟨.value (.func f), xs, ts⟩) (hρ : ∀ x, x ∈ o.op.operands → ∀ v, ev E x = some v → ρ x = v) (hx : evs E xs.toList = some vs) (w : World) :
    (execOp ρ o).run P w = (callFunc f vs.toArray).run P w := by
  have h1 : (xs.map ρ) = vs.toArray := by
    apply Array.toList_inj.1
    rw [Array.toList_map]
    exact evs_spec _ _ (fun x hx => hρ x (by simp [ho, Op.operands, Call.operands]; exact .inr (by simpa using hx))) hx
  have h0 := hρ (.func f) (by simp [ho, Op.operands, Call.operands]) _ rfl
  simp [execOp, ho, resolve, h0, h1, Deferred.ofValue, invoke]

theorem oq_atomLoad {o : Oper} {f : FuncId} {fn : Func} {k : IntKind} {xs : Array Operand} {ts : Array TypeId} {b off i : Nat} {a : Int} {vs : List Value} {S' : List HP} (ho : o.op = .call ⟨.value (.func f), xs, ts⟩) (F : ExtF P f fn (Extern.Atomic.loadT (.int k)))
    (hx : evs E xs.toList = some [.pointer (some ⟨b, i, none⟩)]) (s : Sel S (row b off vs) S') (hle : Nat.ble off i = true) (hv : vs[i - off]? = some (.int k a)) : OQ ω P o E S (.int k a) := by
  intro F' ρ hρ w hw
  have hc := ((hw.sel (s.app F')).cell hv).1
  rw [show off + (i - off) = i from by have := Nat.le_of_ble_eq_true hle; omega] at hc
  rw [run_extcall ho hρ hx, run_call_load F.hf F.hname F.hb F.hn k F.he hc]
  exact ⟨_, ⟨rfl, rfl⟩, hw⟩
theorem ot_atomAdd {o : Oper} {f : FuncId} {fn : Func} {k : IntKind} {xs : Array Operand} {ts : Array TypeId} {b off i : Nat} {a y : Int} {vs vs' : List Value} (ho : o.op = .call ⟨.value (.func f), xs, ts⟩) (F : ExtF P f fn (Extern.Atomic.update (Op.intArith .add) k true))
    (hx : evs E xs.toList = some [.pointer (some ⟨b, i, none⟩), .int k y]) (s : Sel H (row b off vs) L) (hle : Nat.ble off i = true) (hv : vs[i - off]? = some (.int k a)) (hs : vs.set (i - off) (.int k (k.wrap (a + y))) = vs') :
    OT ω P o E H fun v H' => v = .int k (k.wrap (a + y)) ∧ H' = row b off vs' :: L := by
  intro ρ hρ w hw
  have hw1 := hw.sel s
  have hlt : i - off < vs.length := by
    rcases Nat.lt_or_ge (i - off) vs.length with h | h
    · exact h
    · rw [List.getElem?_eq_none h] at hv; cases hv
  have hc := hw1.cell hv
  have hset := hw1.set (v := .int k (k.wrap (a + y))) hlt
  have e : off + (i - off) = i := by have := Nat.le_of_ble_eq_true hle; omega
  rw [e] at hc hset
  rw [run_extcall ho hρ hx, run_call_add F.hf F.hname F.hb F.hn k F.he hc.1 hc.2.1 (s := k.wrap (a + y)) (by simp [Op.intArith])]
  subst hs
  exact ⟨_, ⟨rfl, rfl⟩, hset⟩
theorem ot_atomCas {o : Oper} {f : FuncId} {fn : Func} {k : IntKind} {xs : Array Operand} {ts : Array TypeId} {b off i : Nat} {a y : Int} {vs vs' : List Value} (ho : o.op = .call ⟨.value (.func f), xs, ts⟩) (F : ExtF P f fn (Extern.Atomic.casT (.int k)))
    (hx : evs E xs.toList = some [.pointer (some ⟨b, i, none⟩), .int k a, .int k y]) (s : Sel H (row b off vs) L) (hle : Nat.ble off i = true) (hv : vs[i - off]? = some (.int k a)) (hs : vs.set (i - off) (.int k y) = vs') :
    OT ω P o E H fun v H' => v = .bool true ∧ H' = row b off vs' :: L := by
  intro ρ hρ w hw
  have hw1 := hw.sel s
  have hlt : i - off < vs.length := by
    rcases Nat.lt_or_ge (i - off) vs.length with h | h
    · exact h
    · rw [List.getElem?_eq_none h] at hv; cases hv
  have hc := hw1.cell hv
  have hset := hw1.set (v := .int k y) hlt
  have e : off + (i - off) = i := by have := Nat.le_of_ble_eq_true hle; omega
  rw [e] at hc hset
  rw [run_extcall ho hρ hx, run_call_cas_hit F.hf F.hname F.hb F.hn k F.he hc.1 hc.2.1]
  subst hs
  exact ⟨_, ⟨rfl, rfl⟩, hset⟩

/-- A pointer type's own method. -/
structure MethF (P : Program) (t : TypeId) (name : String) (f : FuncId) : Prop where
  h : ∀ v w, (method (P.types.size + Made.depth) t (.pointer v) name).run P w = .ok (f, .pointer v) w
theorem methF_of {t e : TypeId} {name : String} {f : FuncId} {ti : TypeInfo} {m : Method} (hd : ∃ n, P.types.size + Made.depth = n + 1) (hti : ∀ w, (typeInfo t).run P w = .ok ti w) (hm : ti.methods.find? (·.name == name) = some m) (hp : m.path.toList = []) (hf : m.func = some (f, true))
    (hu : ∀ w, (underlying t).run P w = .ok (.pointer e) w) : MethF P t name f := by
  refine ⟨fun v w => ?_⟩
  obtain ⟨n, hn⟩ := hd
  rw [hn]
  simp [method, hti, hm, hp, hf, follow, receiverAt, hu, Place.get]

theorem ot_invoke {o : Oper} {f : FuncId} {r : Operand} {name : String} {t : TypeId} {pv : Option Addr} {xs : Array Operand} {ts : Array TypeId} {vs : List Value} {H1 : List HP} {R : Value → List HP → Prop} (ho : o.op = .call ⟨.invoke r name, xs, ts⟩) (hr : ev E r = some (.iface t (.pointer pv)))
    (hm : MethF P t name f) (hc : ∀ args w, (callFunc f args).run P w = .ok (.enter f args) w) (hx : evs E xs.toList = some vs) (s : Sees H H1) (hs : Spec ω P f (Value.pointer pv :: vs).toArray H1 R) : OT ω P o E H R := by
  intro ρ hρ w hw
  have h1 : (xs.map ρ) = vs.toArray := by
    apply Array.toList_inj.1
    rw [Array.toList_map]
    exact evs_spec _ _ (fun x hx => hρ x (by simp [ho, Op.operands, Call.operands]; exact .inr (by simpa using hx))) hx
  have h0 := hρ r (by simp [ho, Op.operands, Call.operands]) _ hr
  have hrun : (execOp ρ o).run P w = .ok (.enter f (Value.pointer pv :: vs).toArray) w := by
    have e1 : (#[Value.pointer pv] ++ vs.toArray) = (Value.pointer pv :: vs).toArray := by simp
    have e2 : (Value.pointer pv :: vs).toArray = #[Value.pointer pv] ++ vs.toArray := e1.symm
    simp [execOp, ho, resolve, h0, h1, invoke, callMethod, hm.h, hc]
  rw [hrun]
  exact hs w (hw.sees s)
end
end Go.Proofs.YtnjljfjncfbinaaGreat
