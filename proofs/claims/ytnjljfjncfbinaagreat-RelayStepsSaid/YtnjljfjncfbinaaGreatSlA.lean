/- Going into the functions that are called; some more operations that only reckon. -/
import Derived.Test.YtnjljfjncfbinaaGreatSl9
set_option linter.all false
namespace Go.Proofs.YtnjljfjncfbinaaGreat
open Go

section
variable {ω : World} {P : Program} {N : Nat} {E : Env} {H S L : List HP} {Q : Post}

theorem spec_of_list {f : FuncId} {fn : Func} {c : Code} {vs : List Value} {R : Value → List HP → Prop} {N' : Nat}
    (hf : P.funcs[f]? = some fn) (hb : fn.body = some c) (hn : fn.ntmps = N') (hs : Nat.ble vs.length N' = true) (h : CT ω P N' c (argEnv 0 vs) H (FinQ ω P fn R)) : Spec ω P f vs.toArray H R :=
  spec_of_body hf hb hn (by simpa using hs) (by simpa using h)
/-- A goal about a function that is handed a list. -/
theorem spec_list {f : FuncId} {args : Array Value} {vs : List Value} {R : Value → List HP → Prop} (e : vs.toArray = args) (h : Spec ω P f vs.toArray H R) : Spec ω P f args H R := e ▸ h

/-! ### In the text's order -/
section
variable {ops : Array Oper} {rest : List Oper} {o : Oper} {d : Tmp} {f : FuncId} {fn : Func} {c : Code} {x : Operand} {xs : Array Operand} {ts : Array TypeId} {vs l cp : List Value} {N' : Nat}
theorem rl_call (ho : o.op = .call ⟨.value (.func f), xs, ts⟩) (hd : o.dst = some d) (hN : d < N)
    (hc : ∀ args w, (callFunc f args).run P w = .ok (.enter f args) w) (hx : evs E xs.toList = some vs) (hf : P.funcs[f]? = some fn) (hb : fn.body = some c) (hn : fn.ntmps = N') (hs : Nat.ble vs.length N' = true) (hg : o.guard = none)
    (h : CT ω P N' c (argEnv 0 vs) H (FinQ ω P fn fun v H' => RL ω P N ops Q rest ((d, v) :: E) H')) : RL ω P N ops Q (o :: rest) E H :=
  rl_op hg hd hN (ot_call ho hc hx .refl (spec_of_list hf hb hn hs h)) (fun _ _ h => h)
theorem rl_call0 (ho : o.op = .call ⟨.value (.func f), xs, ts⟩) (hd : o.dst = none)
    (hc : ∀ args w, (callFunc f args).run P w = .ok (.enter f args) w) (hx : evs E xs.toList = some vs) (hf : P.funcs[f]? = some fn) (hb : fn.body = some c) (hn : fn.ntmps = N') (hs : Nat.ble vs.length N' = true) (hg : o.guard = none)
    (h : CT ω P N' c (argEnv 0 vs) H (FinQ ω P fn fun _ H' => RL ω P N ops Q rest E H')) : RL ω P N ops Q (o :: rest) E H :=
  rl_op0 hg hd (ot_call ho hc hx .refl (spec_of_list hf hb hn hs h)) (fun _ _ h => h)
theorem rl_callv (ho : o.op = .call ⟨.value x, xs, ts⟩) (hd : o.dst = some d) (hN : d < N) (hv : ev E x = some (.func (.func f) l.toArray cp.toArray))
    (hc : ∀ args w, (callFunc f args).run P w = .ok (.enter f args) w) (hx : evs E xs.toList = some vs) (hf : P.funcs[f]? = some fn) (hb : fn.body = some c) (hn : fn.ntmps = N') (hs : Nat.ble (l ++ vs ++ cp).length N' = true) (hg : o.guard = none)
    (h : CT ω P N' c (argEnv 0 (l ++ vs ++ cp)) H (FinQ ω P fn fun v H' => RL ω P N ops Q rest ((d, v) :: E) H')) : RL ω P N ops Q (o :: rest) E H :=
  rl_op hg hd hN (ot_callv ho hv hc hx .refl (spec_of_list hf hb hn hs h)) (fun _ _ h => h)
theorem rl_callv0 (ho : o.op = .call ⟨.value x, xs, ts⟩) (hd : o.dst = none) (hv : ev E x = some (.func (.func f) l.toArray cp.toArray))
    (hc : ∀ args w, (callFunc f args).run P w = .ok (.enter f args) w) (hx : evs E xs.toList = some vs) (hf : P.funcs[f]? = some fn) (hb : fn.body = some c) (hn : fn.ntmps = N') (hs : Nat.ble (l ++ vs ++ cp).length N' = true) (hg : o.guard = none)
    (h : CT ω P N' c (argEnv 0 (l ++ vs ++ cp)) H (FinQ ω P fn fun _ H' => RL ω P N ops Q rest E H')) : RL ω P N ops Q (o :: rest) E H :=
  rl_op0 hg hd (ot_callv ho hv hc hx .refl (spec_of_list hf hb hn hs h)) (fun _ _ h => h)
/-- A function value's call whose contract hands over. -/
theorem rl_spec (ho : OT ω P o E H fun v H' => RL ω P N ops Q rest ((d, v) :: E) H') (hd : o.dst = some d) (hN : d < N) (hg : o.guard = none) : RL ω P N ops Q (o :: rest) E H := rl_op hg hd hN ho (fun _ _ h => h)
end

/-! ### In a region that draws its order -/
section
variable {ops : Array Oper} {rest : List PStep} {i : Nat} {R : List HP} {o : Oper} {d : Tmp} {f : FuncId} {fn : Func} {c : Code} {x : Operand} {xs : Array Operand} {ts : Array TypeId} {vs l cp : List Value} {N' : Nat}
theorem pwb_call (hi : ops[i]? = some o) (ho : o.op = .call ⟨.value (.func f), xs, ts⟩) (hd : o.dst = some d) (hN : Nat.blt d N = true)
    (hc : ∀ args w, (callFunc f args).run P w = .ok (.enter f args) w) (hx : evs E xs.toList = some vs) (hf : P.funcs[f]? = some fn) (hb : fn.body = some c) (hn : fn.ntmps = N') (hs : Nat.ble vs.length N' = true) (hg : wantedE ops o E = some true)
    (h : CT ω P N' c (argEnv 0 vs) (R ++ S) (FinQ ω P fn fun v H' => PW ω P N ops Q rest ((d, v) :: E) H' [])) : PW ω P N ops Q (.b i :: rest) E S R :=
  pw_b hi hd hN hg (ot_call ho hc hx .refl (spec_of_list hf hb hn hs h)) (fun _ _ h => h)
theorem pwb_callv (hi : ops[i]? = some o) (ho : o.op = .call ⟨.value x, xs, ts⟩) (hd : o.dst = some d) (hN : Nat.blt d N = true) (hv : ev E x = some (.func (.func f) l.toArray cp.toArray))
    (hc : ∀ args w, (callFunc f args).run P w = .ok (.enter f args) w) (hx : evs E xs.toList = some vs) (hf : P.funcs[f]? = some fn) (hb : fn.body = some c) (hn : fn.ntmps = N') (hs : Nat.ble (l ++ vs ++ cp).length N' = true) (hg : wantedE ops o E = some true)
    (h : CT ω P N' c (argEnv 0 (l ++ vs ++ cp)) (R ++ S) (FinQ ω P fn fun v H' => PW ω P N ops Q rest ((d, v) :: E) H' [])) : PW ω P N ops Q (.b i :: rest) E S R :=
  pw_b hi hd hN hg (ot_callv ho hv hc hx .refl (spec_of_list hf hb hn hs h)) (fun _ _ h => h)
theorem pwe_call (hi : ops[i]? = some o) (ho : o.op = .call ⟨.value (.func f), xs, ts⟩) (hd : o.dst = some d) (hN : Nat.blt d N = true)
    (hc : ∀ args w, (callFunc f args).run P w = .ok (.enter f args) w) (hx : evs E xs.toList = some vs) (hf : P.funcs[f]? = some fn) (hb : fn.body = some c) (hn : fn.ntmps = N') (hs : Nat.ble vs.length N' = true) (hg : wantedE ops o E = some true)
    (h : CT ω P N' c (argEnv 0 vs) (R ++ S) (FinQ ω P fn fun v H' => ∃ R', Sees H' (R' ++ S) ∧ PW ω P N ops Q rest ((d, v) :: E) S R')) : PW ω P N ops Q (.e i :: rest) E S R :=
  pw_e hi hd hN hg (ot_call ho hc hx .refl (spec_of_list hf hb hn hs h)) (fun _ _ h => h)
theorem pwe_callv (hi : ops[i]? = some o) (ho : o.op = .call ⟨.value x, xs, ts⟩) (hd : o.dst = some d) (hN : Nat.blt d N = true) (hv : ev E x = some (.func (.func f) l.toArray cp.toArray))
    (hc : ∀ args w, (callFunc f args).run P w = .ok (.enter f args) w) (hx : evs E xs.toList = some vs) (hf : P.funcs[f]? = some fn) (hb : fn.body = some c) (hn : fn.ntmps = N') (hs : Nat.ble (l ++ vs ++ cp).length N' = true) (hg : wantedE ops o E = some true)
    (h : CT ω P N' c (argEnv 0 (l ++ vs ++ cp)) (R ++ S) (FinQ ω P fn fun v H' => ∃ R', Sees H' (R' ++ S) ∧ PW ω P N ops Q rest ((d, v) :: E) S R')) : PW ω P N ops Q (.e i :: rest) E S R :=
  pw_e hi hd hN hg (ot_callv ho hv hc hx .refl (spec_of_list hf hb hn hs h)) (fun _ _ h => h)
end

/-! ### The ends -/
theorem fin_ret1 {fn : Func} {R : Value → List HP → Prop} {r : ResultVar} {v : Value} {H' : List HP} (hl : RVs P E H [r] [v]) (hr : fn.results = #[r])
    (h : R v H') (s : Sees H H') : XT ω N .ret E H (FinQ ω P fn R) := fin_ret hl hr h s
theorem fin_end1 {fn : Func} {R : Value → List HP → Prop} {r : ResultVar} {v : Value} {H' : List HP} (hl : RVs P E H [r] [v]) (hr : fn.results = #[r])
    (h : R v H') (s : Sees H H') : XT ω N .normal E H (FinQ ω P fn R) := fin_end hl hr h s

/-! ### Reckoning -/
theorem pv_notnot {x : Operand} {T : TypeId} {b : Bool} (hx : ev E x = some (.bool (!b))) : PV P (.unOp .not T x) E (.bool b) := by
  have := pv_not (P := P) (T := T) hx
  rwa [Bool.not_not] at this
theorem pv_shl_lit {k k' : IntKind} {x y : Operand} {T U : TypeId} {a b n : Int} (hx : ev E x = some (.int k a)) (hy : ev E y = some (.int k' b)) (h : 0 ≤ b) (hn : 2 ^ (min b.toNat k.bits) = n) : PV P (.binOp .shl T x y U) E (.int k (k.wrap (a * n))) := by
  subst hn; exact pv_shl hx hy h
theorem pv_shr_lit {k k' : IntKind} {x y : Operand} {T U : TypeId} {a b n : Int} (hx : ev E x = some (.int k a)) (hy : ev E y = some (.int k' b)) (h : 0 ≤ b) (hn : 2 ^ (min b.toNat k.bits) = n) : PV P (.binOp .shr T x y U) E (.int k (a.fdiv n)) := by
  subst hn; exact pv_shr hx hy h
theorem pv_shl_to {k k' : IntKind} {x y : Operand} {T U : TypeId} {a b v : Int} (hx : ev E x = some (.int k a)) (hy : ev E y = some (.int k' b)) (h : 0 ≤ b) (hn : k.wrap (a * 2 ^ (min b.toNat k.bits)) = v) : PV P (.binOp .shl T x y U) E (.int k v) := by
  subst hn; exact pv_shl hx hy h
theorem pv_convert_to {x : Operand} {S T : TypeId} {d : TypeDesc} {k k' : IntKind} {a v : Int} (hx : ev E x = some (.int k' a)) (hS : ∀ w, (underlying S).run P w = .ok d w) (hT : ∀ w, (underlying T).run P w = .ok (.int k) w)
    (h : k.wrap a = v) : PV P (.convert S T x) E (.int k v) := by
  subst h; exact pv_convert hx hS hT
end

theorem splice_mid : ∀ (us pre vs : List Value), us.length = vs.length → splice (pre ++ vs) pre.length us = pre ++ us := by
  intro us
  induction us with
  | nil => intro pre vs h; have : vs = [] := List.eq_nil_of_length_eq_zero (by simpa using h.symm); subst this; simp [splice]
  | cons u us ih =>
    intro pre vs h
    cases vs with
    | nil => simp at h
    | cons v vs =>
      simp only [splice]
      rw [List.set_append_right _ _ (Nat.le_refl _), Nat.sub_self, List.set_cons_zero]
      have := ih (pre ++ [u]) vs (by simpa using h)
      simpa using this
theorem ot_buildSlice1 {ω : World} {P : Program} {E : Env} {H : List HP} {o : Oper} {T e : TypeId} {es : Nat} {x : Operand} {v z : Value} {us : List Value} (ho : o.op = .buildSlice T 1 #[(0, x)]) (hx : ev E x = some v)
    (hT : ∀ w, (underlying T).run P w = .ok (.slice e) w) (hs : ∀ w, (sizeOf e).run P w = .ok es w) (hz : ∀ w, (zeroValue e).run P w = .ok z w) (hzs : z.cells.size = es) (hn : Nat.ble es 16777216 = true) (hu : v.cells.toList = us) (hl : us.length = es) :
    OT ω P o E H fun v H' => ∃ b, v = .slice (some ⟨b, 0, none⟩) 1 1 ∧ H' = own es (some ⟨b, 0, none⟩) 1 1 us :: H := by
  have hsz : v.cells.size = es := by rw [← Array.length_toList, hu]; exact hl
  have hf : Instr.fill (fun i => some (i * es, es)) ((List.replicate 1 z.cells.toList).flatten).toArray [(0, v)] = some us.toArray := by
    have e1 : (List.replicate 1 z.cells.toList).flatten = z.cells.toList := by simp
    rw [e1]
    simp only [Instr.fill, Nat.zero_mul]
    rw [if_neg (by simp [hsz, hzs])]
    congr 1
    have e3 : v.cells.zipIdx.foldl (fun cs (x : Value × Nat) => match x with | (c, j) => cs.setIfInBounds (0 + j) c) z.cells.toList.toArray = (splice z.cells.toList 0 v.cells.toList).toArray := by
      have h0 := fold_splice 0 v.cells.toList 0 z.cells.toList
      rw [Nat.add_zero] at h0
      rw [← h0, ← Array.foldl_toList, Array.toList_zipIdx]
    have e4 := splice_mid us [] z.cells.toList (by rw [hl, ← hzs]; simp)
    rw [hu] at e3
    exact e3.trans (by rw [show splice z.cells.toList 0 us = us from e4])
  have := ot_buildSlice (ω := ω) (P := P) (E := E) (H := H) (len := 1) (ps := [(0, v)]) ho (by simp [evp, hx]) hT hs hz hzs (by simpa using hn) hf (by simpa using hl)
  simpa using this
end Go.Proofs.YtnjljfjncfbinaaGreat
