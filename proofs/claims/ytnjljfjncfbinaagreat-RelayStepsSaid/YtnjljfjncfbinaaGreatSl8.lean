/- '==' between structs whose fields are numbers, or structs of such. -/
import Derived.Test.YtnjljfjncfbinaaGreatSl7
import Derived.Laws.StructEq
set_option linter.all false
namespace Go.Proofs.YtnjljfjncfbinaaGreat
open Go

section
variable {ω : World} {P : Program} {N : Nat} {E : Env} {H S L : List HP}
/-- Fields that are numbers, and whether both hold the same. -/
inductive EqL (P : Program) (xs ys : Array Value) : List Field → Bool → Prop where
  | nil : EqL P xs ys [] true
  | cons {f : Field} {fs : List Field} {k : IntKind} {a b : Int} {r : Bool} : (f.name != "_") = true → (∀ w, (underlying f.type).run P w = .ok (.int k) w) → (∀ w, (isAgg f.type).run P w = .ok false w) →
      xs[f.offset]? = some (.int k a) → ys[f.offset]? = some (.int k b) → EqL P xs ys fs r → EqL P xs ys (f :: fs) (decide (a = b) && r)
theorem EqL.run {xs ys : Array Value} : ∀ {fs : List Field} {r : Bool}, EqL P xs ys fs r → ∀ (d : Nat) (w : World), (Op.eqFields (d + 1) xs ys fs).run P w = .ok r w := by
  intro fs r h d w
  induction h with
  | nil => simp [Op.eqFields]
  | @cons f fs k a b r hn hT ha hx hy _ ih =>
    have hn : f.name ≠ "_" := by simpa using hn
    simp only [Op.eqFields, if_pos hn, ne_eq, hn, not_false_eq_true, if_true, Sem.run_bind, part, ha, Result.andThen_ok, hx, hy]
    simp only [Bool.false_eq_true, if_false, Sem.run_pure, Result.andThen_ok, Op.equalIn, Sem.run_bind, hT, if_true, Sem.run_ite, ih]
    by_cases e : a = b <;> simp [e, ih]
theorem run_equal_struct {T : TypeId} {xs ys : Array Value} {fs : List Field} {r : Bool} (ht : P.underlying T = some (.struct (P.fieldsOf T))) (hp : P.stoodInHeld T = false) (hfs : (P.fieldsOf T).toList = fs) (h : EqL P xs ys fs r) (w : World) :
    (Op.equal T (.agg xs) (.agg ys)).run P w = .ok r w := by
  show (Op.equalIn (9999 + 1) T (.agg xs) (.agg ys)).run P w = _
  rw [run_equalIn_struct w 9999 T xs ys ht hp, hfs]
  exact h.run 9998 w
theorem run_eqGuard_struct {op : BinOp} {T : TypeId} {x y : Operand} {xs ys : Array Value} (h : P.eqGuardType P.depth T = false) (w : World) : (eqGuard op T x y (.agg xs) (.agg ys)).run P w = .ok () w := by
  unfold eqGuard
  cases op <;> first
    | (simp; done)
    | (simp [h]; done)
theorem pv_eqlS {x y : Operand} {T U : TypeId} {xs ys : Array Value} {fs : List Field} {r : Bool} (hx : ev E x = some (.agg xs)) (hy : ev E y = some (.agg ys)) (ht : P.underlying T = some (.struct (P.fieldsOf T))) (hp : P.stoodInHeld T = false) (hg : P.eqGuardType P.depth T = false)
    (hfs : (P.fieldsOf T).toList = fs) (h : EqL P xs ys fs r) : PV P (.binOp .eql T x y U) E (.bool r) := by
  intro o ho ρ hρ w
  have h1 := hρ x (by simp [Op.operands]) _ hx
  have h2 := hρ y (by simp [Op.operands]) _ hy
  simp only [execOp, ho, h1, h2, Sem.run_bind]
  rw [run_eqGuard_struct hg]
  have he := run_equal_struct (xs := xs) (ys := ys) ht hp hfs h w
  have hb : (binOp .eql T (.agg xs) (.agg ys)).run P w = .ok (.bool r) w := by simp only [binOp, Sem.run_bind, he, Result.andThen_ok, Sem.run_pure]
  simp only [Result.andThen_ok, hb, Sem.run_pure]
theorem pv_neqS {x y : Operand} {T U : TypeId} {xs ys : Array Value} {fs : List Field} {r : Bool} (hx : ev E x = some (.agg xs)) (hy : ev E y = some (.agg ys)) (ht : P.underlying T = some (.struct (P.fieldsOf T))) (hp : P.stoodInHeld T = false) (hg : P.eqGuardType P.depth T = false)
    (hfs : (P.fieldsOf T).toList = fs) (h : EqL P xs ys fs r) : PV P (.binOp .neq T x y U) E (.bool (!r)) := by
  intro o ho ρ hρ w
  have h1 := hρ x (by simp [Op.operands]) _ hx
  have h2 := hρ y (by simp [Op.operands]) _ hy
  simp only [execOp, ho, h1, h2, Sem.run_bind]
  rw [run_eqGuard_struct hg]
  have he := run_equal_struct (xs := xs) (ys := ys) ht hp hfs h w
  have hb : (binOp .neq T (.agg xs) (.agg ys)).run P w = .ok (.bool (!r)) w := by simp only [binOp, Sem.run_bind, he, Result.andThen_ok, Sem.run_pure]
  simp only [Result.andThen_ok, hb, Sem.run_pure]
end
end Go.Proofs.YtnjljfjncfbinaaGreat
