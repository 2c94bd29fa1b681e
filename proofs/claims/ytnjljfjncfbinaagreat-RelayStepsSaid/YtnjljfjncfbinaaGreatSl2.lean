/- The judgement on code: from a frame of which some slots are known, and a world that holds some chunks. Rules for the code's forms, and for regions, those that draw their order too. -/
import Derived.Test.YtnjljfjncfbinaaGreatSl1
set_option linter.all false
namespace Go.Proofs.YtnjljfjncfbinaaGreat
open Go
universe u

abbrev Env := List (Nat × Value)

def look (i : Nat) : Env → Option Value
  | [] => none
  | (j, v) :: E => match Nat.beq i j with
    | true => some v
    | false => look i E

theorem look_here (i : Nat) (v : Value) (E : Env) : look i ((i, v) :: E) = some v := by
  simp [look]
theorem look_ne {i j : Nat} (v : Value) (E : Env) (h : i ≠ j) : look i ((j, v) :: E) = look i E := by
  have : Nat.beq i j = false := by
    cases e : Nat.beq i j with
    | false => rfl
    | true => exact absurd (Nat.eq_of_beq_eq_true e) h
  simp [look, this]

structure Agree (N : Nat) (E : Env) (a : Act) : Prop where
  d : a.defers = []
  n : a.tmps.size = N
  e : ∀ i v, look i E = some v → a.tmps[i]? = some v

def ev (E : Env) : Operand → Option Value
  | .tmp t => look t E
  | .const v => some v
  | .global g => some (.pointer (some ⟨g, 0, none⟩))
  | .func f => some (.func (.func f) #[] #[])

theorem Agree.eval {N : Nat} {E : Env} {a : Act} (h : Agree N E a) {x : Operand} {v : Value} (hx : ev E x = some v) : a.eval x = v := by
  cases x with
  | tmp t =>
    have := h.e t v hx
    simp [Act.eval, this]
  | const u => simpa [Act.eval, ev] using hx
  | global g => simpa [Act.eval, ev] using hx
  | func f => simpa [Act.eval, ev] using hx

def ext (dst : Option Tmp) (v : Value) (E : Env) : Env := match dst with
  | some d => (d, v) :: E
  | none => E

theorem Agree.put {N : Nat} {E : Env} {a : Act} (h : Agree N E a) {d : Nat} (hd : d < N) (v : Value) : Agree N ((d, v) :: E) (a.put (some d) v) := by
  refine ⟨h.d, by simp [Act.put, h.n], fun i u hu => ?_⟩
  by_cases e : i = d
  · subst e
    rw [look_here] at hu; cases hu
    simp only [Act.put]
    rw [Array.getElem?_setIfInBounds_self_of_lt (by rw [h.n]; exact hd)]
  · rw [look_ne _ _ e] at hu
    simp only [Act.put]
    rw [Array.getElem?_setIfInBounds_ne (Ne.symm e)]
    exact h.e i u hu

theorem Agree.put' {N : Nat} {E : Env} {a : Act} (h : Agree N E a) {dst : Option Tmp} (hd : ∀ d, dst = some d → d < N) (v : Value) : Agree N (ext dst v E) (a.put dst v) := by
  cases dst with
  | none => exact h
  | some d => exact h.put (hd d rfl) v

section
variable (ω : World) (P : Program) (N : Nat)

abbrev Post := Exit → Act → World → Prop

def CT (c : Code) (E : Env) (H : List HP) (Q : Post) : Prop := ∀ a w, Agree N E a → Holds ω H w → Code.wp P c Q a w
def XT (x : Exit) (E : Env) (H : List HP) (Q : Post) : Prop := ∀ a w, Agree N E a → Holds ω H w → Q x a w

/-- What an operation's run comes to. -/
def Upon (K : Value → World → Prop) : Result Next → Prop
  | .ok (.value v) w => K v w
  | .ok .skip w => K undef w
  | .ok (.enter f args) w => Calls P f args w fun e w' => ∃ v, e = .returned v ∧ K v w'
  | _ => False

theorem Upon.mono {K K' : Value → World → Prop} (h : ∀ v w, K v w → K' v w) {r : Result Next} (u : Upon P K r) : Upon P K' r := by
  unfold Upon at *
  split at u
  · exact h _ _ u
  · exact h _ _ u
  · exact Calls.mono u fun e w' ⟨v, he, hk⟩ => ⟨v, he, h _ _ hk⟩
  · exact u.elim

def OT (o : Oper) (E : Env) (H : List HP) (R : Value → List HP → Prop) : Prop :=
  ∀ ρ : Operand → Value, (∀ x, x ∈ o.op.operands → ∀ v, ev E x = some v → ρ x = v) → ∀ w, Holds ω H w →
    Upon P (fun v w' => ∃ H', R v H' ∧ Holds ω H' w') ((execOp ρ o).run P w)

/-- It yields this value, and leaves the chunks, whatever lies beside them. -/
def OQ (o : Oper) (E : Env) (S : List HP) (v : Value) : Prop :=
  ∀ F, OT ω P o E (S ++ F) fun v' H' => v' = v ∧ H' = S ++ F

theorem OT.mono {o : Oper} {E : Env} {H : List HP} {R R' : Value → List HP → Prop} (h : OT ω P o E H R) (hr : ∀ v H', R v H' → R' v H') : OT ω P o E H R' :=
  fun ρ hρ w hw => (h ρ hρ w hw).mono P fun _ _ ⟨H', a, b⟩ => ⟨H', hr _ _ a, b⟩

/-- A region's operations in the text's order. -/
def wpL (ops : Array Oper) (Q : Post) : List Oper → Act → World → Prop
  | [], a, w => Q .normal a w
  | o :: rest, a, w => if Region.wanted o (yielded ops a.tmps) then o.wp P a w (wpL ops Q rest) Q else wpL ops Q rest (a.put o.dst undef) w

theorem wpOps_of_wpL {ops : Array Oper} {Q : Post} : ∀ (n k : Nat), n = ops.size - k → ∀ a w, wpL P ops Q (ops.toList.drop k) a w → wpOps P ops Q (List.range' k n) a w := by
  intro n
  induction n with
  | zero =>
    intro k hk a w h
    rw [List.drop_eq_nil_of_le (by simp; omega)] at h
    exact h
  | succ n ih =>
    intro k hk a w h
    have hlt : k < ops.toList.length := by simp; omega
    rw [List.drop_eq_getElem_cons hlt] at h
    have hk' : ops[k]? = some ops.toList[k] := by
      rw [← Array.getElem?_toList]; exact List.getElem?_eq_getElem hlt
    simp only [List.range'_succ, wpOps, hk']
    simp only [wpL] at h
    split
    · rename_i hw
      rw [if_pos hw] at h
      exact .inl (Oper.wp_mono (fun a w h => ih (k + 1) (by omega) a w h) h)
    · rename_i hw
      rw [if_neg hw] at h
      exact ih (k + 1) (by omega) _ _ h

def RL (ops : Array Oper) (Q : Post) (l : List Oper) (E : Env) (H : List HP) : Prop := ∀ a w, Agree N E a → Holds ω H w → wpL P ops Q l a w
end

section
variable {ω : World} {P : Program} {N : Nat} {E : Env} {H : List HP} {Q : Post}

theorem Upon.wp {o : Oper} {a : Act} {w : World} {next : Act → World → Prop}
    (h : Upon P (fun v w' => next (a.put o.dst v) w') ((execOp a.eval o).run P w)) : o.wp P a w next Q := by
  unfold Oper.wp
  generalize (execOp a.eval o).run P w = r at *
  unfold Upon at h
  split at h
  · exact h
  · exact h
  · exact Calls.mono h fun e w' ⟨v, he, hk⟩ => by subst he; exact hk
  · exact h.elim

theorem ct_seq {x y : Code} (h : CT ω P N x E H (Exit.then (y.wp P Q) Q)) : CT ω P N (.seq x y) E H Q := fun a w ha hw => wp_seq (h a w ha hw)
theorem ct_skip (h : XT ω N .normal E H Q) : CT ω P N .skip E H Q := fun a w ha hw => wp_skip (h a w ha hw)
theorem ct_label {l : Nat} (h : XT ω N .normal E H Q) : CT ω P N (.label l) E H Q := fun a w ha hw => wp_label (h a w ha hw)
theorem ct_exit {id : Nat} (h : XT ω N (.exit id) E H Q) : CT ω P N (.exit id) E H Q := fun a w ha hw => wp_exit (h a w ha hw)
theorem ct_ret (h : XT ω N .ret E H Q) : CT ω P N .ret E H Q := fun a w ha hw => wp_ret (h a w ha hw)
theorem ct_block {id : Nat} {c : Code} (h : CT ω P N c E H (Exit.inBlock id Q)) : CT ω P N (.block id c) E H Q := fun a w ha hw => wp_block (h a w ha hw)
theorem ct_cond {c : Operand} {x y : Code} {t : Bool} (hc : ev E c = some (.bool t)) (ht : t = true → CT ω P N x E H Q) (hf : t = false → CT ω P N y E H Q) :
    CT ω P N (.cond c x y) E H Q := fun a w ha hw => wp_cond_split (ha.eval hc) (fun e => ht e a w ha hw) (fun e => hf e a w ha hw)
theorem ct_cond_d {c : Operand} {x y : Code} {p : Prop} [Decidable p] (hc : ev E c = some (.bool (decide p))) (ht : p → CT ω P N x E H Q) (hf : ¬ p → CT ω P N y E H Q) :
    CT ω P N (.cond c x y) E H Q := ct_cond hc (fun e => ht (of_decide_eq_true e)) (fun e => hf (of_decide_eq_false e))
theorem ct_cond_n {c : Operand} {x y : Code} {p : Prop} [Decidable p] (hc : ev E c = some (.bool (!decide p))) (ht : ¬ p → CT ω P N x E H Q) (hf : p → CT ω P N y E H Q) :
    CT ω P N (.cond c x y) E H Q := ct_cond hc (fun e => ht (of_decide_eq_false (by simpa using e))) (fun e => hf (of_decide_eq_true (by simpa using e)))
theorem ct_cond_b {c : Operand} {x y : Code} {b : Bool} (hc : ev E c = some (.bool (!b))) (ht : b = false → CT ω P N x E H Q) (hf : b = true → CT ω P N y E H Q) :
    CT ω P N (.cond c x y) E H Q := ct_cond hc (fun e => ht (by simpa using e)) (fun e => hf (by simpa using e))
theorem ct_true {c : Operand} {x y : Code} (hc : ev E c = some (.bool true)) (ht : CT ω P N x E H Q) : CT ω P N (.cond c x y) E H Q :=
  fun a w ha hw => wp_cond_true (ha.eval hc) (ht a w ha hw)
theorem ct_false {c : Operand} {x y : Code} (hc : ev E c = some (.bool false)) (ht : CT ω P N y E H Q) : CT ω P N (.cond c x y) E H Q :=
  fun a w ha hw => wp_cond_false (ha.eval hc) (ht a w ha hw)
theorem ct_region {id : Nat} {ops : Array Oper} (h : RL ω P N ops Q ops.toList E H) : CT ω P N (.region id ops false) E H Q := by
  intro a w ha hw
  refine wp_region ?_
  rw [List.range_eq_range']
  exact wpOps_of_wpL P ops.size 0 (by omega) a w (h a w ha hw)

/-- What a way hands on where ways meet: some parameters, the slots that are known then, the chunks that are held then. -/
def Meet {α : Type u} (ω : World) (N : Nat) (E : α → Env) (H : α → List HP) (a : Act) (w : World) : Prop := ∃ x, Agree N (E x) a ∧ Holds ω (H x) w

/-- A frame of which this much is known. -/
def Knows (E E' : Env) : Prop := ∀ i v, look i E' = some v → look i E = some v
theorem Knows.nil : Knows E [] := fun _ _ h => by cases h
theorem Knows.cons {E' : Env} {i : Nat} {v : Value} (h : look i E = some v) (k : Knows E E') : Knows E ((i, v) :: E') := by
  intro j u hu
  by_cases e : j = i
  · subst e; rw [look_here] at hu; cases hu; exact h
  · rw [look_ne _ _ e] at hu; exact k j u hu
theorem Agree.knows {E' : Env} {a : Act} (h : Agree N E a) (k : Knows E E') : Agree N E' a := ⟨h.d, h.n, fun i v hv => h.e i v (k i v hv)⟩

theorem Meet.mk {α : Type u} {E' : α → Env} {H' : α → List HP} (x : α) (k : Knows E (E' x)) (s : Sees H (H' x)) {a : Act} {w : World} (ha : Agree N E a) (hw : Holds ω H w) : Meet ω N E' H' a w :=
  ⟨x, ha.knows k, hw.sees s⟩

theorem ct_meet {α : Type u} {x y : Code} (E' : α → Env) (H' : α → List HP) (h : CT ω P N x E H (Exit.then (Meet ω N E' H') Q)) (h' : ∀ p, CT ω P N y (E' p) (H' p) Q) :
    CT ω P N (.seq x y) E H Q := fun a w ha hw => wp_seq (wp_mono (h a w ha hw) fun e a' w' hq => by
  cases e with
  | normal => obtain ⟨p, h1, h2⟩ := hq; exact h' p a' w' h1 h2
  | _ => exact hq)
theorem xt_meet {α : Type u} {E' : α → Env} {H' : α → List HP} (x : α) (k : Knows E (E' x)) (s : Sees H (H' x)) : XT ω N .normal E H (Exit.then (Meet ω N E' H') Q) :=
  fun _ _ ha hw => Meet.mk x k s ha hw
theorem xt_then {y : Code} (h : CT ω P N y E H Q) : XT ω N .normal E H (Exit.then (y.wp P Q) Q) := fun a w ha hw => h a w ha hw
theorem xt_ret_then {next : Act → World → Prop} (h : XT ω N .ret E H Q) : XT ω N .ret E H (Exit.then next Q) := h
theorem xt_exit_then {id : Nat} {next : Act → World → Prop} (h : XT ω N (.exit id) E H Q) : XT ω N (.exit id) E H (Exit.then next Q) := h
theorem xt_normal_block {id : Nat} (h : XT ω N .normal E H Q) : XT ω N .normal E H (Exit.inBlock id Q) := h
theorem xt_ret_block {id : Nat} (h : XT ω N .ret E H Q) : XT ω N .ret E H (Exit.inBlock id Q) := h
theorem xt_exit_block {id : Nat} (h : XT ω N .normal E H Q) : XT ω N (.exit id) E H (Exit.inBlock id Q) := fun a w ha hw => by
  show (if id = id then Q .normal a w else Q (.exit id) a w); rw [if_pos rfl]; exact h a w ha hw
theorem xt_exit_block_ne {id id' : Nat} (hne : id' ≠ id) (h : XT ω N (.exit id') E H Q) : XT ω N (.exit id') E H (Exit.inBlock id Q) := fun a w ha hw => by
  show (if id' = id then Q .normal a w else Q (.exit id') a w); rw [if_neg hne]; exact h a w ha hw

theorem CT.weaken {c : Code} {E' : Env} {H' : List HP} (k : Knows E E') (s : Sees H H') (h : CT ω P N c E' H' Q) : CT ω P N c E H Q :=
  fun a w ha hw => h a w (ha.knows k) (hw.sees s)
theorem XT.weaken {x : Exit} {E' : Env} {H' : List HP} (k : Knows E E') (s : Sees H H') (h : XT ω N x E' H' Q) : XT ω N x E H Q :=
  fun a w ha hw => h a w (ha.knows k) (hw.sees s)

/-- A loop. -/
theorem ct_loop {α : Type u} {c : Code} (E' : α → Env) (H' : α → List HP) (μ : α → Nat) (x : α) (k : Knows E (E' x)) (s : Sees H (H' x))
    (h : ∀ p, CT ω P N c (E' p) (H' p) (Exit.then (Meet (α := { q : α // μ q < μ p }) ω N (fun q => E' q.1) (fun q => H' q.1)) Q)) :
    CT ω P N (.loop c) E H Q := by
  intro a w ha hw
  refine wp_loop_ghost (fun n a w => ∃ p, μ p = n ∧ Agree N (E' p) a ∧ Holds ω (H' p) w) (μ x) ⟨x, rfl, ha.knows k, hw.sees s⟩ ?_
  rintro n a w ⟨p, rfl, h1, h2⟩
  refine wp_mono (h p a w h1 h2) fun e a' w' hq => ?_
  cases e with
  | normal =>
    obtain ⟨⟨q, hq⟩, k1, k2⟩ := hq
    exact ⟨μ q, hq, q, rfl, k1, k2⟩
  | _ => exact hq
theorem xt_round {α : Type u} {E' : α → Env} {H' : α → List HP} {μ : α → Nat} {p : α} (q : α) (hq : μ q < μ p) (k : Knows E (E' q)) (s : Sees H (H' q)) :
    XT ω N .normal E H (Exit.then (Meet (α := { q : α // μ q < μ p }) ω N (fun q => E' q.1) (fun q => H' q.1)) Q) :=
  fun _ _ ha hw => Meet.mk (α := { q : α // μ q < μ p }) ⟨q, hq⟩ k s ha hw

/-! ### Regions in the text's order -/
theorem rl_nil {ops : Array Oper} (h : XT ω N .normal E H Q) : RL ω P N ops Q [] E H := fun a w ha hw => h a w ha hw

theorem rl_op {ops : Array Oper} {rest : List Oper} {o : Oper} {d : Tmp} {R : Value → List HP → Prop} (hg : o.guard = none) (hd : o.dst = some d) (hN : d < N) (ho : OT ω P o E H R)
    (h : ∀ v H', R v H' → RL ω P N ops Q rest ((d, v) :: E) H') : RL ω P N ops Q (o :: rest) E H := by
  intro a w ha hw
  simp only [wpL, Region.wanted, hg, if_true]
  refine Upon.wp (Upon.mono P ?_ (ho a.eval (fun x _ v hx => ha.eval hx) w hw))
  rintro v w' ⟨H', hr, hw'⟩
  rw [hd]
  exact h v H' hr _ _ (ha.put hN v) hw'
theorem rl_op0 {ops : Array Oper} {rest : List Oper} {o : Oper} {R : Value → List HP → Prop} (hg : o.guard = none) (hd : o.dst = none) (ho : OT ω P o E H R)
    (h : ∀ v H', R v H' → RL ω P N ops Q rest E H') : RL ω P N ops Q (o :: rest) E H := by
  intro a w ha hw
  simp only [wpL, Region.wanted, hg, if_true]
  refine Upon.wp (Upon.mono P ?_ (ho a.eval (fun x _ v hx => ha.eval hx) w hw))
  rintro v w' ⟨H', hr, hw'⟩
  rw [hd]
  exact h v H' hr _ _ ha hw'
theorem rl_q {ops : Array Oper} {rest : List Oper} {o : Oper} {d : Tmp} {v : Value} (hg : o.guard = none) (hd : o.dst = some d) (hN : d < N) (ho : OQ ω P o E H v)
    (h : RL ω P N ops Q rest ((d, v) :: E) H) : RL ω P N ops Q (o :: rest) E H := by
  have := ho []
  rw [List.append_nil] at this
  exact rl_op hg hd hN this (by rintro v' H' ⟨rfl, rfl⟩; exact h)

/-- Is an operation wanted, as far as the frame is known? -/
def wantedE (ops : Array Oper) (o : Oper) (E : Env) : Option Bool :=
  match o.guard with
  | none => some true
  | some (j, b) => match ((ops[j]?).bind (·.dst)).bind (look · E) with
    | some (.bool b0) => some (b0 == b)
    | some (.tuple _) => some false
    | _ => none

theorem wanted_of {ops : Array Oper} {o : Oper} {a : Act} {b : Bool} (h : wantedE ops o E = some b)
    (ha : ∀ j c t v, o.guard = some (j, c) → (ops[j]?).bind (·.dst) = some t → look t E = some v → a.tmps[t]? = some v) : Region.wanted o (yielded ops a.tmps) = b := by
  unfold wantedE at h
  unfold Region.wanted
  split at h
  · rename_i e; rw [e]; cases h; rfl
  · rename_i j c e
    rw [e]
    split at h
    · rename_i b0 e'
      cases h
      cases et : (ops[j]?).bind (·.dst) with
      | none => rw [et] at e'; cases e'
      | some t =>
        rw [et] at e'
        have := ha j c t _ e et e'
        simp [yielded, et, this]
    · rename_i vs e'
      cases h
      cases et : (ops[j]?).bind (·.dst) with
      | none => rw [et] at e'; cases e'
      | some t =>
        rw [et] at e'
        have := ha j c t _ e et e'
        simp [yielded, et, this]
    · cases h

theorem rl_w {ops : Array Oper} {rest : List Oper} {o : Oper} {d : Tmp} {v : Value} (hg : wantedE ops o E = some true) (hd : o.dst = some d) (hN : d < N) (ho : OQ ω P o E H v)
    (h : RL ω P N ops Q rest ((d, v) :: E) H) : RL ω P N ops Q (o :: rest) E H := by
  intro a w ha hw
  simp only [wpL, wanted_of hg (fun _ _ _ _ _ _ hv => ha.e _ _ hv), if_true]
  have := ho []
  rw [List.append_nil] at this
  refine Upon.wp (Upon.mono P ?_ (this a.eval (fun x _ v hx => ha.eval hx) w hw))
  rintro v w' ⟨H', ⟨rfl, rfl⟩, hw'⟩
  rw [hd]
  exact h _ _ (ha.put hN _) hw'
theorem rl_u {ops : Array Oper} {rest : List Oper} {o : Oper} {d : Tmp} (hg : wantedE ops o E = some false) (hd : o.dst = some d) (hN : d < N)
    (h : RL ω P N ops Q rest ((d, undef) :: E) H) : RL ω P N ops Q (o :: rest) E H := by
  intro a w ha hw
  simp only [wpL, wanted_of hg (fun _ _ _ _ _ _ hv => ha.e _ _ hv), Bool.false_eq_true, if_false]
  rw [hd]
  exact h _ _ (ha.put hN _) hw
theorem rl_wop {ops : Array Oper} {rest : List Oper} {o : Oper} {d : Tmp} {R : Value → List HP → Prop} (hg : wantedE ops o E = some true) (hd : o.dst = some d) (hN : d < N) (ho : OT ω P o E H R)
    (h : ∀ v H', R v H' → RL ω P N ops Q rest ((d, v) :: E) H') : RL ω P N ops Q (o :: rest) E H := by
  intro a w ha hw
  simp only [wpL, wanted_of hg (fun _ _ _ _ _ _ hv => ha.e _ _ hv), if_true]
  refine Upon.wp (Upon.mono P ?_ (ho a.eval (fun x _ v hx => ha.eval hx) w hw))
  rintro v w' ⟨H', hr, hw'⟩
  rw [hd]
  exact h v H' hr _ _ (ha.put hN v) hw'
end
end Go.Proofs.YtnjljfjncfbinaaGreat
