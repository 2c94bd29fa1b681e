/- Machines that go on by closures: what their contracts are said with. -/
import Derived.Test.YtnjljfjncfbinaaGreatFn
import Derived.Test.YtnjljfjncfbinaaGreatSlC
set_option linter.all false
namespace Go.Proofs.YtnjljfjncfbinaaGreat
open Go Go.Proofs
set_option linter.unusedVariables false

/-- An access, as a number of things. -/
structure AccD where
  k : Int
  at_ : Int
  n : Int
  v : Int
  w : Int
  data : List UInt8
def accV (a : AccD) (p : Option Addr) (m c : Nat) : Value := .agg #[.int .i64 a.k, .int .i64 a.at_, .int .i64 a.n, .int .u64 a.v, .int .u64 a.w, .slice p m c]
/-- What 'Next' leaves: the chunk 'X' is the machine's, opened; its access's bytes are read in it. -/
def NextPost (ω : World) (rep : HP) (W : Option AccD) (F : List HP) (v' : Value) (H' : List HP) : Prop :=
  ∃ (a : AccD) (more : Bool) (X : HP) (p : Option Addr) (m c : Nat), v' = .tuple #[accV a p m c, .bool more] ∧ m = a.data.length ∧ Rd ω X 1 p m (byteC a.data) ∧ (∀ μ, X μ → rep μ) ∧ Sees H' (X :: F) ∧ W = (if more = true then some a else none)
/-- A view: read through a chunk, wherever. -/
def Vw (X : HP) (p : Option Addr) (n : Nat) (xs : List Value) : Prop := ∀ ω, Rd ω X 1 p n xs
theorem vw_own {p : Option Addr} {n c : Nat} {xs : List Value} : Vw (own 1 p n c xs) p n xs := fun _ => rd_own
theorem vw_suf {X : HP} {p : Option Addr} {n k m : Nat} {xs : List Value} (h : Vw X p n xs) (h1 : k ≤ n) (h2 : n ≤ m) : Vw X (cutp p k m 1) (n - k) (xs.drop k) := by
  intro ω L w hw
  have r := h ω L w hw
  have := r.cut (l := k) (h := n) (m := m) h1 (Nat.le_refl _) h2
  rwa [Nat.mul_one, Nat.mul_one, List.take_of_length_le (by rw [List.length_drop, r.1]; omega)] at this
theorem vw_pre {X : HP} {p : Option Addr} {n k : Nat} {l : List UInt8} (h : Vw X p n (byteC l)) (h1 : k ≤ n) : Vw X p k (byteC (l.take k)) := by
  intro ω L w hw
  have r := h ω L w hw
  have := r.cut (l := 0) (h := k) (m := k) (Nat.zero_le _) h1 (Nat.le_refl _)
  rw [cutp_zero] at this
  simpa [byteC, List.map_take] using this
theorem vw_sufL {X : HP} {p : Option Addr} {c : Nat} {l : List UInt8} (h : Vw X p l.length (byteC l)) (h2 : l.length ≤ c) : Vw X (cutp p (chk l.length) c 1) (l.drop (chk l.length)).length (byteC (l.drop (chk l.length))) := by
  have := vw_suf h (chk_le l.length).1 h2
  rw [List.length_drop]
  simpa [byteC, List.map_drop] using this
theorem drop_pos {l : List UInt8} (h : ¬ l.length - chk l.length = 0) : 1 ≤ (l.drop (chk l.length)).length := by rw [List.length_drop]; omega
theorem drop_le1 {l : List UInt8} (h : l.length ≤ 131072) : (l.drop (chk l.length)).length ≤ 131072 := by rw [List.length_drop]; omega
theorem drop_le2 {l : List UInt8} {c : Nat} (h : l.length ≤ c) : (l.drop (chk l.length)).length ≤ c - chk l.length := by rw [List.length_drop]; omega
theorem chk_take (l : List UInt8) : (l.take (chk l.length)).length = chk l.length := by rw [List.length_take]; have := (chk_le l.length).1; omega
theorem Spec.eqH {ω : World} {P : Program} {f : FuncId} {args : Array Value} {H H1 : List HP} {R : Value → List HP → Prop} (e : H = H1) (h : Spec ω P f args H1 R) : Spec ω P f args H R := e ▸ h
theorem Spec.own {ω : World} {P : Program} {f : FuncId} {args : Array Value} {H L : List HP} {R : Value → List HP → Prop} {es n c : Nat} {p : Option Addr} {xs : List Value} (s : Sel H (Go.Proofs.YtnjljfjncfbinaaGreat.own es p n c xs) L) (h : n ≤ c → Spec ω P f args H R) : Spec ω P f args H R :=
  fun w hw => h (hw.sel s).own_facts.2.1 w hw
theorem ot_make1 {ω : World} {P : Program} {E : Env} {H : List HP} {o : Oper} {T e : TypeId} {n by_ : Nat} {x y : Operand} {k k' : IntKind} {i : Int} {z : Value} {ti : TypeInfo} (ho : o.op = .makeSlice T x y) (hx : ev E x = some (.int k i)) (hy : ev E y = some (.int k' i)) (hi : i = n)
    (hT : ∀ w, (underlying T).run P w = .ok (.slice e) w) (hs : ∀ w, (sizeOf e).run P w = .ok 1 w) (hz : ∀ w, (zeroValue e).run P w = .ok z w) (hti : ∀ w, (typeInfo e).run P w = .ok ti w) (hby : ti.bytes = by_) (hb : by_ * n ≤ 281474976710656) (hn : n ≤ 9223372036854775807) {u : Value} (hzc : z.cells.toList = [u]) :
    OT ω P o E H fun v H' => ∃ b, v = .slice (some ⟨b, 0, none⟩) n n ∧ H' = Go.Proofs.YtnjljfjncfbinaaGreat.own 1 (some ⟨b, 0, none⟩) n n (List.replicate n u) :: H := by
  refine OT.mono ω P (ot_makeSlice ho hx hy hi hT hs hz hti hby hb hn) ?_
  rintro v H' ⟨b, rfl, rfl⟩
  refine ⟨b, rfl, ?_⟩
  have e1 : z.cells = #[u] := by apply Array.toList_inj.1; rw [hzc]
  have e2 : (List.range (n * 1)).map (z.cells[· % z.cells.size]!) = List.replicate n u := by
    rw [e1, Nat.mul_one]
    apply List.ext_getElem
    · simp
    · intro i h1 h2; simp [Nat.mod_one]
  rw [e2]
theorem look_int {t : Nat} {E : Env} {k : IntKind} {a b : Int} (h : look t E = some (.int k a)) (e : a = b) : look t E = some (.int k b) := e ▸ h
theorem cnt_wrap {i : Nat} (h : i < 9223372036854775807) : IntKind.i64.wrap ((i : Int) + 1) = ((i + 1 : Nat) : Int) := by
  rw [wrap_inK (k := .i64) ⟨by omega, by omega⟩]; rfl
theorem stars_ex1 {α : Type} {f : α → List HP} {m : Hl} (x : α) (h : pack (f x) m) : ex f m := ⟨x, h⟩
theorem seesPack {L F : List HP} : Sees (L ++ F) (pack L :: F) := .of fun m h => stars_pack.2 h
theorem rd_packF {ω : World} {L L' L'' : List HP} {X : HP} {P : Prop} {p : Option Addr} {n : Nat} {xs : List Value} (sf : Sel L (fact P) L') (hv : P → Vw X p n xs) (sx : Sel L X L'') : Rd ω (pack L) 1 p n xs := by
  intro M w hw
  rw [holds_pack] at hw
  have hP := (holds_fact.1 (hw.sel (sf.app M))).1
  exact hv hP ω _ w (hw.sel (sx.app M))

end Go.Proofs.YtnjljfjncfbinaaGreat
