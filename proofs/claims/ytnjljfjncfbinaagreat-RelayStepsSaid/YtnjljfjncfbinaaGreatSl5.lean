/- A region that draws its order: a plan. Operations that only look ('q') come in whatever order; those that do something ('e') one behind the other; a barrier ('b') when all ahead of it is done. -/
import Derived.Test.YtnjljfjncfbinaaGreatSl4
set_option linter.all false
namespace Go.Proofs.YtnjljfjncfbinaaGreat
open Go

inductive PStep where
  | q (i : Nat)
  | e (i : Nat)
  | b (i : Nat)
  deriving DecidableEq

def PStep.ix : PStep → Nat
  | .q i | .e i | .b i => i
def PStep.acts : PStep → Bool
  | .q _ => false
  | _ => true

/-- The operations that stand directly ahead of one. -/
def deps (ops : Array Oper) (i : Nat) : List Nat :=
  match ops[i]? with
  | some o => (o.after.toList.filter (Region.binds .any)).map (·.on)
  | none => []
def dstOf (ops : Array Oper) (i : Nat) : Option Tmp := (ops[i]?).bind (·.dst)
/-- The slots that one looks at: its operands', and its guard's. -/
def eyes (ops : Array Oper) (i : Nat) : List Tmp :=
  match ops[i]? with
  | some o => o.looksAt ops
  | none => []

/-- Is 'd' ahead of 'i' by edges whose ends lie in 'l' (in order)? -/
def covered (ops : Array Oper) (i : Nat) : List Nat → Bool
  | [] => true
  | j :: l => ((deps ops i).contains j || l.any fun j' => (deps ops j').contains j) && covered ops i l

/-- One step of a plan: 'ahead': what is planned ahead of it, 'act': what has come since the last step that acts, that one with it. -/
def stepOk (ops : Array Oper) (n : Nat) (ahead : List Nat) (act : Option (List Nat)) (s : PStep) : Bool :=
  let i := s.ix
  decide (i < n) && !ahead.contains i &&
  ((eyes ops i).all fun t => (List.range n).all fun j => !(dstOf ops j == some t) || j == i || (deps ops i).contains j) &&
  (!(eyes ops i).any fun t => dstOf ops i == some t) &&
  ((deps ops i).all fun j => ahead.contains j) &&
  (match dstOf ops i with | some d => (List.range n).all fun j => j == i || !(dstOf ops j == some d) | none => s.acts) &&
  (match act with | none => true | some l => l.any fun j => (deps ops i).contains j) &&
  (match s with | .b _ => covered ops i ahead | _ => true)

def planOk (ops : Array Oper) (n : Nat) : List Nat → Option (List Nat) → List PStep → Bool
  | ahead, _, [] => (List.range n).all fun i => ahead.contains i
  | ahead, act, s :: rest => stepOk ops n ahead act s &&
    planOk ops n (ahead ++ [s.ix]) (if s.acts then some [s.ix] else act.map (· ++ [s.ix])) rest

section
variable (ω : World) (P : Program) (N : Nat) (ops : Array Oper) (Q : Post)

def QOK (o : Oper) (E : Env) (S : List HP) (v : Value) : Prop :=
  (wantedE ops o E = some true ∧ OQ ω P o E S v) ∨ (wantedE ops o E = some false ∧ v = undef)

def EOK (o : Oper) (E : Env) (H : List HP) (K : Value → List HP → Prop) : Prop :=
  (wantedE ops o E = some true ∧ OT ω P o E H K) ∨ (wantedE ops o E = some false ∧ K undef H)

def PW : List PStep → Env → List HP → List HP → Prop
  | [], E, S, R => XT ω N .normal E (R ++ S) Q
  | .q i :: rest, E, S, R => ∃ o d v, ops[i]? = some o ∧ o.dst = some d ∧ d < N ∧ QOK ω P ops o E S v ∧ PW rest ((d, v) :: E) S R
  | .e i :: rest, E, S, R => ∃ o, ops[i]? = some o ∧ (∀ d, o.dst = some d → d < N) ∧
      EOK ω P ops o E (R ++ S) fun v H' => ∃ R', (∀ m, Stars H' m → Stars (R' ++ S) m) ∧ PW rest (ext o.dst v E) S R'
  | .b i :: rest, E, S, R => ∃ o, ops[i]? = some o ∧ (∀ d, o.dst = some d → d < N) ∧
      EOK ω P ops o E (R ++ S) fun v H' => ∃ S' R', (∀ m, Stars H' m → Stars (R' ++ S') m) ∧ PW rest (ext o.dst v E) S' R'
end

theorem stars_comm {A B : List HP} {m : Hl} (h : Stars (A ++ B) m) : Stars (B ++ A) m := by
  obtain ⟨m1, m2, hd, h1, h2, ha, hb⟩ := Stars.append.1 h
  exact Stars.append.2 ⟨m2, m1, hd.disj_symm, h2, h1, hb, ha⟩
theorem Holds.comm {ω : World} {A B : List HP} {w : World} (h : Holds ω (A ++ B) w) : Holds ω (B ++ A) w := h.imp fun _ => stars_comm
theorem eyes_of {ops : Array Oper} {i : Nat} {o : Oper} (h : ops[i]? = some o) : eyes ops i = o.looksAt ops := by simp [eyes, h]
theorem mem_eyes_op {ops : Array Oper} {i : Nat} {o : Oper} (h : ops[i]? = some o) {t : Tmp} (ht : Operand.tmp t ∈ o.op.operands) : t ∈ eyes ops i := by
  rw [eyes_of h]
  exact List.mem_append_left _ (List.mem_filterMap.2 ⟨.tmp t, by simpa using ht, rfl⟩)
theorem mem_eyes_guard {ops : Array Oper} {i : Nat} {o : Oper} (h : ops[i]? = some o) {j : Nat} {c : Bool} {t : Tmp} (hg : o.guard = some (j, c)) (ht : (ops[j]?).bind (·.dst) = some t) : t ∈ eyes ops i := by
  rw [eyes_of h]
  exact List.mem_append_right _ (by simp [hg, ht])

/-- Two frames that say the same at what an operation looks at. -/
def SameEyes (ops : Array Oper) (i : Nat) (E E' : Env) : Prop := ∀ t, t ∈ eyes ops i → look t E' = look t E

theorem ev_same {ops : Array Oper} {i : Nat} {o : Oper} (h : ops[i]? = some o) {E E' : Env} (hs : SameEyes ops i E E') {x : Operand} (hx : x ∈ o.op.operands) : ev E' x = ev E x := by
  cases x with
  | tmp t => exact hs t (mem_eyes_op h hx)
  | _ => rfl
theorem wantedE_same {ops : Array Oper} {i : Nat} {o : Oper} (h : ops[i]? = some o) {E E' : Env} (hs : SameEyes ops i E E') : wantedE ops o E' = wantedE ops o E := by
  unfold wantedE
  cases hg : o.guard with
  | none => rfl
  | some p =>
    obtain ⟨j, c⟩ := p
    simp only
    cases ht : (ops[j]?).bind (·.dst) with
    | none => rfl
    | some t =>
      have := hs t (mem_eyes_guard h hg ht)
      simp only [Option.bind_some, this]
theorem OT.same {ω : World} {P : Program} {ops : Array Oper} {i : Nat} {o : Oper} (h : ops[i]? = some o) {E E' : Env} (hs : SameEyes ops i E E') {H : List HP} {R : Value → List HP → Prop} (ho : OT ω P o E H R) : OT ω P o E' H R :=
  fun ρ hρ w hw => ho ρ (fun x hx v hv => hρ x hx v (by rw [ev_same h hs hx]; exact hv)) w hw
theorem QOK.same {ω : World} {P : Program} {ops : Array Oper} {i : Nat} {o : Oper} (h : ops[i]? = some o) {E E' : Env} (hs : SameEyes ops i E E') {S : List HP} {v : Value} (ho : QOK ω P ops o E S v) : QOK ω P ops o E' S v := by
  rcases ho with ⟨h1, h2⟩ | ⟨h1, h2⟩
  · exact .inl ⟨by rw [wantedE_same h hs]; exact h1, fun F => (h2 F).same h hs⟩
  · exact .inr ⟨by rw [wantedE_same h hs]; exact h1, h2⟩


/-- A list in which each one's edges lie ahead of it. -/
inductive Ord (ops : Array Oper) : List Nat → Prop where
  | nil : Ord ops []
  | snoc {l : List Nat} {i : Nat} : Ord ops l → (∀ j, j ∈ deps ops i → j ∈ l) → Ord ops (l ++ [i])

theorem Ord.closed {ops : Array Oper} {l : List Nat} (h : Ord ops l) : ∀ i, i ∈ l → ∀ j, j ∈ deps ops i → j ∈ l := by
  induction h with
  | nil => intro i hi; cases hi
  | snoc _ hd ih =>
    intro i hi j hj
    rcases List.mem_append.1 hi with h | h
    · exact List.mem_append_left _ (ih i h j hj)
    · rw [List.mem_singleton.1 h] at hj; exact List.mem_append_left _ (hd j hj)

/-- Whoever isn't done: one of them has all its edges done. -/
theorem Ord.first {ops : Array Oper} {l : List Nat} (h : Ord ops l) (p : Nat → Prop) [DecidablePred p] : (∃ i, i ∈ l ∧ ¬ p i) → ∃ k, k ∈ l ∧ ¬ p k ∧ ∀ j, j ∈ deps ops k → p j := by
  induction h with
  | nil => rintro ⟨i, hi, _⟩; cases hi
  | @snoc l i _ hd ih =>
    intro hex
    by_cases hin : ∃ i, i ∈ l ∧ ¬ p i
    · obtain ⟨k, h1, h2, h3⟩ := ih hin
      exact ⟨k, List.mem_append_left _ h1, h2, h3⟩
    · have hall : ∀ j, j ∈ l → p j := fun j hj => Classical.byContradiction fun hn => hin ⟨j, hj, hn⟩
      obtain ⟨k, hk, hnk⟩ := hex
      rcases List.mem_append.1 hk with h | h
      · exact absurd (hall k h) hnk
      · rw [List.mem_singleton.1 h] at hnk
        exact ⟨i, List.mem_append_right _ List.mem_cons_self, hnk, fun j hj => hall j (hd j hj)⟩

theorem covered_spec {ops : Array Oper} {i : Nat} (p : Nat → Prop) (hi : ∀ j, j ∈ deps ops i → p j) : ∀ l : List Nat, covered ops i l = true → (∀ j, j ∈ l → p j → ∀ k, k ∈ deps ops j → p k) → ∀ j, j ∈ l → p j := by
  intro l
  induction l with
  | nil => intro _ _ j hj; cases hj
  | cons j l ih =>
    intro hc hd k hk
    simp only [covered, Bool.and_eq_true] at hc
    have hl := ih hc.2 (fun j hj => hd j (List.mem_cons_of_mem _ hj))
    rcases List.mem_cons.1 hk with e | h
    · subst e
      rcases Bool.or_eq_true _ _ ▸ hc.1 with h | h
      · exact hi _ (by simpa using h)
      · obtain ⟨j', hj', hjj⟩ := List.any_eq_true.1 h
        exact hd j' (List.mem_cons_of_mem _ hj') (hl j' hj') k (by simpa using hjj)
    · exact hl k h

def isDone (listed : Array Bool) (i : Nat) : Prop := listed.getD i true = true
instance (listed : Array Bool) : DecidablePred (isDone listed) := fun i => inferInstanceAs (Decidable (listed.getD i true = true))

section
variable {ω : World} {P : Program} {N : Nat} {ops : Array Oper} {Q : Post}

/-- What a step of a good plan is. -/
structure Good (ops : Array Oper) (ahead : List Nat) (act : Option (List Nat)) (s : PStep) : Prop where
  bound : s.ix < ops.size
  fresh : s.ix ∉ ahead
  eyes : ∀ t, t ∈ eyes ops s.ix → ∀ j, j < ops.size → dstOf ops j = some t → j ∈ deps ops s.ix
  deps : ∀ j, j ∈ deps ops s.ix → j ∈ ahead
  dst : ∀ d, dstOf ops s.ix = some d → ∀ j, j < ops.size → dstOf ops j = some d → j = s.ix
  act : ∀ l, act = some l → ∃ j, j ∈ l ∧ j ∈ Go.Proofs.YtnjljfjncfbinaaGreat.deps ops s.ix
  bar : ∀ i, s = .b i → covered ops i ahead = true

theorem good_of {ahead : List Nat} {act : Option (List Nat)} {s : PStep} (h : stepOk ops ops.size ahead act s = true) : Good ops ahead act s := by
  simp only [stepOk, Bool.and_eq_true] at h
  obtain ⟨⟨⟨⟨⟨⟨⟨h1, h2⟩, h3⟩, h4⟩, h5⟩, h6⟩, h7⟩, h8⟩ := h
  refine ⟨of_decide_eq_true h1, by simpa using h2, ?_, ?_, ?_, ?_, ?_⟩
  · intro t ht j hj hd
    have := List.all_eq_true.1 (List.all_eq_true.1 h3 t ht) j (List.mem_range.2 hj)
    rcases Bool.or_eq_true _ _ ▸ this with h | h
    · rcases Bool.or_eq_true _ _ ▸ h with h | h
      · simp [hd] at h
      · have e : j = s.ix := by simpa using h
        subst e
        exfalso
        simp only [Bool.not_eq_true', List.any_eq_false] at h4
        have := h4 t ht
        simp [hd] at this
    · simpa using h
  · intro j hj
    simpa using List.all_eq_true.1 h5 j hj
  · intro d hd j hj hdj
    rw [hd] at h6
    have := List.all_eq_true.1 h6 j (List.mem_range.2 hj)
    rcases Bool.or_eq_true _ _ ▸ this with h | h
    · simpa using h
    · simp [hdj] at h
  · intro l hl
    subst hl
    obtain ⟨j, hj, hd⟩ := List.any_eq_true.1 h7
    exact ⟨j, hj, by simpa using hd⟩
  · intro i hi
    subst hi
    exact h8

/-- How far it is: 'ahead' is what is opened (what acts in it is done); 'act' since the last that acts. -/
structure Far (ω : World) (P : Program) (N : Nat) (ops : Array Oper) (Q : Post) (listed : Array Bool) (a : Act) (w : World)
    (ahead : List Nat) (act : Option (List Nat)) (rest : List PStep) (E : Env) (S R : List HP) : Prop where
  ok : planOk ops ops.size ahead act rest = true
  size : listed.size = ops.size
  ord : Ord ops ahead
  sub : ∀ i, i < ops.size → isDone listed i → i ∈ ahead
  bound : ∀ i, i ∈ ahead → i < ops.size
  downed : ∀ i, i ∈ ahead → isDone listed i → ∀ j, j ∈ deps ops i → isDone listed j
  acted : ∀ l, act = some l → ∀ j, j ∈ l → j ∈ ahead
  open_ : ∀ i, i ∈ ahead → ¬ isDone listed i → ∃ o d v, ops[i]? = some o ∧ o.dst = some d ∧ d < N ∧ look d E = some v ∧ QOK ω P ops o E S v ∧
    (∀ t, t ∈ eyes ops i → ∀ j, j < ops.size → dstOf ops j = some t → j ∈ deps ops i) ∧ (∀ j, j < ops.size → dstOf ops j = some d → j = i)
  defers : a.defers = []
  tsize : a.tmps.size = N
  tmps : ∀ t v, look t E = some v → (∃ i, i ∈ ahead ∧ ¬ isDone listed i ∧ dstOf ops i = some t) ∨ a.tmps[t]? = some v
  holds : Holds ω (R ++ S) w
  pw : PW ω P N ops Q rest E S R

theorem dstOf_of {i : Nat} {o : Oper} (h : ops[i]? = some o) : dstOf ops i = o.dst := by simp [dstOf, h]

/-- The next one only looks: it is opened. -/
theorem Far.openQ {listed : Array Bool} {a : Act} {w : World} {ahead : List Nat} {act : Option (List Nat)} {i : Nat} {rest : List PStep} {E : Env} {S R : List HP}
    (f : Far ω P N ops Q listed a w ahead act (.q i :: rest) E S R) : ∃ act' E', Far ω P N ops Q listed a w (ahead ++ [i]) act' rest E' S R := by
  have hok := f.ok
  simp only [planOk, Bool.and_eq_true] at hok
  have g := good_of hok.1
  obtain ⟨o, d, v, ho, hd, hN, hq, hpw⟩ := f.pw
  have hdst : dstOf ops i = some d := by rw [dstOf_of ho]; exact hd
  have hni : ¬ isDone listed i := fun h => g.fresh (f.sub i g.bound h)
  have hself : d ∉ eyes ops i := by
    intro h
    have := g.eyes d h i g.bound hdst
    exact g.fresh (g.deps i this)
  refine ⟨_, (d, v) :: E, ⟨hok.2, f.size, .snoc f.ord g.deps, fun j hj h => List.mem_append_left _ (f.sub j hj h), ?_, ?_, ?_, ?_, f.defers, f.tsize, ?_, f.holds, hpw⟩⟩
  · intro j hj
    rcases List.mem_append.1 hj with h | h
    · exact f.bound j h
    · rw [List.mem_singleton.1 h]; exact g.bound
  · intro j hj hdone
    rcases List.mem_append.1 hj with h | h
    · exact f.downed j h hdone
    · rw [List.mem_singleton.1 h] at hdone; exact absurd hdone hni
  · intro l hl j hj
    simp only [PStep.acts, Bool.false_eq_true, if_false] at hl
    cases act with
    | none => cases hl
    | some l0 =>
      cases hl
      rcases List.mem_append.1 hj with h | h
      · exact List.mem_append_left _ (f.acted _ rfl j h)
      · exact List.mem_append_right _ h
  · intro j hj hnd
    rcases List.mem_append.1 hj with h | h
    · obtain ⟨o', d', v', ho', hd', hN', hl', hq', he', hu'⟩ := f.open_ j h hnd
      have hdd : d' ≠ d := by
        intro e
        subst e
        have := hu' i g.bound hdst
        subst this
        exact g.fresh h
      refine ⟨o', d', v', ho', hd', hN', by rw [look_ne _ _ hdd]; exact hl', hq'.same ho' ?_, he', hu'⟩
      intro t ht
      refine look_ne _ _ ?_
      intro e
      subst e
      exact g.fresh (f.ord.closed j h i (he' _ ht i g.bound hdst))
    · have e := List.mem_singleton.1 h
      subst e
      refine ⟨o, d, v, ho, hd, hN, look_here _ _ _, hq.same ho ?_, g.eyes, g.dst d hdst⟩
      intro t ht
      refine look_ne _ _ ?_
      intro e
      subst e
      exact hself ht
  · intro t u hu
    by_cases e : t = d
    · subst e; exact .inl ⟨i, List.mem_append_right _ List.mem_cons_self, hni, hdst⟩
    · rw [look_ne _ _ e] at hu
      rcases f.tmps t u hu with ⟨j, h1, h2, h3⟩ | h
      · exact .inl ⟨j, List.mem_append_left _ h1, h2, h3⟩
      · exact .inr h

theorem Far.opened {listed : Array Bool} {a : Act} {w : World} {S R : List HP} : ∀ {rest : List PStep} {ahead : List Nat} {act : Option (List Nat)} {E : Env},
    Far ω P N ops Q listed a w ahead act rest E S R → ∃ ahead' act' rest' E', Far ω P N ops Q listed a w ahead' act' rest' E' S R ∧ (∀ s r, rest' = s :: r → s.acts = true) := by
  intro rest
  induction rest with
  | nil => intro ahead act E f; exact ⟨ahead, act, [], E, f, fun s r h => by cases h⟩
  | cons s rest ih =>
    intro ahead act E f
    cases s with
    | q i => obtain ⟨act', E', f'⟩ := f.openQ; exact ih f'
    | e i => exact ⟨ahead, act, _, E, f, fun s r h => by cases h; rfl⟩
    | b i => exact ⟨ahead, act, _, E, f, fun s r h => by cases h; rfl⟩

theorem getD_set {listed : Array Bool} {i j : Nat} (hi : i < listed.size) : isDone (listed.setIfInBounds i true) j ↔ j = i ∨ isDone listed j := by
  unfold isDone
  by_cases e : j = i
  · subst e; simp [hi]
  · simp [Array.getElem?_setIfInBounds_ne (Ne.symm e), e]

theorem mem_ready {listed : Array Bool} {i : Nat} (_hs : listed.size = ops.size) : i ∈ Region.ready .any ops listed ↔ i < ops.size ∧ ¬ isDone listed i ∧ ∀ j, j ∈ deps ops i → listed.getD j false = true := by
  unfold Region.ready
  rw [List.mem_filter, List.mem_range]
  constructor
  · rintro ⟨h1, h2⟩
    rw [Bool.and_eq_true] at h2
    refine ⟨h1, by unfold isDone; simpa using h2.1, ?_⟩
    intro j hj
    have ho : ops[i]? = some ops[i] := Array.getElem?_eq_getElem h1
    simp only [deps, ho, List.mem_map, List.mem_filter] at hj
    obtain ⟨e, ⟨he, hb⟩, rfl⟩ := hj
    have h3 := h2.2
    simp only [ho, Option.map_some, Option.getD_some, Array.all_eq_true_iff_forall_mem] at h3
    have := h3 e (by simpa using he)
    simpa [hb] using this
  · rintro ⟨h1, h2, h3⟩
    refine ⟨h1, ?_⟩
    have ho : ops[i]? = some ops[i] := Array.getElem?_eq_getElem h1
    rw [Bool.and_eq_true]
    refine ⟨by unfold isDone at h2; simpa using h2, ?_⟩
    simp only [ho, Option.map_some, Option.getD_some, Array.all_eq_true_iff_forall_mem]
    intro e he
    by_cases hb : Region.binds .any e = true
    · have := h3 e.on (by simp only [deps, ho, List.mem_map, List.mem_filter]; exact ⟨e, ⟨by simpa using he, hb⟩, rfl⟩)
      simp only [this, Bool.or_true]
    · simp [hb]

theorem done_of {listed : Array Bool} {j : Nat} (h : listed.getD j false = true) : isDone listed j := by
  unfold isDone
  cases e : listed[j]? with
  | none => simp [e] at h
  | some b => simp [e] at h; simp [e, h]
theorem of_done {listed : Array Bool} {j : Nat} (hj : j < listed.size) (h : isDone listed j) : listed.getD j false = true := by
  unfold isDone at h
  simp [hj] at h ⊢; exact h

/-- What a slot that is looked at holds, when all edges are done. -/
theorem Far.slot {listed : Array Bool} {a : Act} {w : World} {ahead : List Nat} {act : Option (List Nat)} {rest : List PStep} {E : Env} {S R : List HP} (f : Far ω P N ops Q listed a w ahead act rest E S R) {i : Nat}
    (he : ∀ t, t ∈ eyes ops i → ∀ j, j < ops.size → dstOf ops j = some t → j ∈ deps ops i) (hr : ∀ j, j ∈ deps ops i → j < ops.size → isDone listed j) {t : Tmp} (ht : t ∈ eyes ops i) {v : Value} (hv : look t E = some v) : a.tmps[t]? = some v := by
  rcases f.tmps t v hv with ⟨j, h1, h2, h3⟩ | h
  · exact absurd (hr j (he t ht j (f.bound j h1) h3) (f.bound j h1)) h2
  · exact h
theorem Far.eval {listed : Array Bool} {a : Act} {w : World} {ahead : List Nat} {act : Option (List Nat)} {rest : List PStep} {E : Env} {S R : List HP} (f : Far ω P N ops Q listed a w ahead act rest E S R) {i : Nat} {o : Oper} (ho : ops[i]? = some o)
    (he : ∀ t, t ∈ eyes ops i → ∀ j, j < ops.size → dstOf ops j = some t → j ∈ deps ops i) (hr : ∀ j, j ∈ deps ops i → j < ops.size → isDone listed j) : ∀ x, x ∈ o.op.operands → ∀ v, ev E x = some v → a.eval x = v := by
  intro x hx v hv
  cases x with
  | tmp t =>
    have := f.slot he hr (mem_eyes_op ho hx) hv
    simp [Act.eval, this]
  | const u => simpa [Act.eval, ev] using hv
  | global g => simpa [Act.eval, ev] using hv
  | func g => simpa [Act.eval, ev] using hv
theorem Far.wanted {listed : Array Bool} {a : Act} {w : World} {ahead : List Nat} {act : Option (List Nat)} {rest : List PStep} {E : Env} {S R : List HP} (f : Far ω P N ops Q listed a w ahead act rest E S R) {i : Nat} {o : Oper} (ho : ops[i]? = some o)
    (he : ∀ t, t ∈ eyes ops i → ∀ j, j < ops.size → dstOf ops j = some t → j ∈ deps ops i) (hr : ∀ j, j ∈ deps ops i → j < ops.size → isDone listed j) {b : Bool} (hw : wantedE ops o E = some b) : Region.wanted o (yielded ops a.tmps) = b :=
  wanted_of hw fun _ _ _ _ hg ht hv => f.slot he hr (mem_eyes_guard ho hg ht) hv

/-- One that only looks comes up. -/
theorem Far.doneQ {listed : Array Bool} {a : Act} {w : World} {ahead : List Nat} {act : Option (List Nat)} {rest : List PStep} {E : Env} {S R : List HP} (f : Far ω P N ops Q listed a w ahead act rest E S R) {i : Nat}
    (hi : i ∈ ahead) (hni : ¬ isDone listed i) (hr : ∀ j, j ∈ deps ops i → j < ops.size → isDone listed j) {K : Act → World → Prop}
    (hK : ∀ a' w', Far ω P N ops Q (listed.setIfInBounds i true) a' w' ahead act rest E S R → K a' w') : wpOp P ops Q i K a w := by
  obtain ⟨o, d, v, ho, hd, hN, hl, hq, he, hu⟩ := f.open_ i hi hni
  have hin : i < listed.size := by rw [f.size]; exact f.bound i hi
  have key : ∀ w', Holds ω (R ++ S) w' → Far ω P N ops Q (listed.setIfInBounds i true) (a.put o.dst v) w' ahead act rest E S R := by
    intro w' hw'
    refine ⟨f.ok, by simpa using f.size, f.ord, ?_, f.bound, ?_, f.acted, ?_, by rw [hd]; exact f.defers, by rw [hd]; simp [Act.put, f.tsize], ?_, hw', f.pw⟩
    · intro j hj h
      rcases (getD_set hin).1 h with e | h
      · subst e; exact hi
      · exact f.sub j hj h
    · intro j hj h k hk
      refine (getD_set hin).2 ?_
      rcases (getD_set hin).1 h with e | h
      · subst e; exact .inr (hr k hk (f.bound k (f.ord.closed _ hi k hk)))
      · exact .inr (f.downed j hj h k hk)
    · intro j hj h
      exact f.open_ j hj fun h' => h ((getD_set hin).2 (.inr h'))
    · intro t u ht
      rw [hd]
      by_cases e : t = d
      · subst e
        rw [hl] at ht; cases ht
        right
        simp only [Act.put]
        rw [Array.getElem?_setIfInBounds_self_of_lt (by rw [f.tsize]; exact hN)]
      · rcases f.tmps t u ht with ⟨j, h1, h2, h3⟩ | h
        · refine .inl ⟨j, h1, fun h => ?_, h3⟩
          rcases (getD_set hin).1 h with e' | h
          · subst e'
            rw [dstOf_of ho, hd] at h3
            cases h3; exact e rfl
          · exact h2 h
        · right
          simp only [Act.put]
          rw [Array.getElem?_setIfInBounds_ne (Ne.symm e)]
          exact h
  unfold wpOp
  simp only [ho]
  rcases hq with ⟨hw, hoq⟩ | ⟨hw, hv⟩
  · rw [f.wanted ho he hr hw]
    simp only [if_true]
    refine .inl (Upon.wp (Upon.mono P ?_ (hoq R a.eval (f.eval ho he hr) w f.holds.comm)))
    rintro v' w' ⟨H', ⟨rfl, rfl⟩, hw'⟩
    exact hK _ _ (key w' hw'.comm)
  · rw [f.wanted ho he hr hw]
    simp only [Bool.false_eq_true, if_false]
    subst hv
    exact hK _ _ (key w f.holds)

/-- The next one that acts comes up. -/
theorem Far.doneE {listed : Array Bool} {a : Act} {w : World} {ahead : List Nat} {act : Option (List Nat)} {s : PStep} {rest : List PStep} {E : Env} {S R : List HP} (f : Far ω P N ops Q listed a w ahead act (s :: rest) E S R) (hs : s.acts = true)
    (hr : ∀ j, j ∈ deps ops s.ix → j < ops.size → isDone listed j) {K : Act → World → Prop}
    (hK : ∀ a' w' ahead' act' E' S' R', Far ω P N ops Q (listed.setIfInBounds s.ix true) a' w' ahead' act' rest E' S' R' → K a' w') : wpOp P ops Q s.ix K a w := by
  have hok := f.ok
  simp only [planOk, Bool.and_eq_true] at hok
  have g := good_of hok.1
  have hin : s.ix < listed.size := by rw [f.size]; exact g.bound
  have hni : ¬ isDone listed s.ix := fun h => g.fresh (f.sub _ g.bound h)
  -- what the frame is behind it
  have key : ∀ o, ops[s.ix]? = some o → (∀ d, o.dst = some d → d < N) → ∀ v S' R' w', Holds ω (R' ++ S') w' → PW ω P N ops Q rest (ext o.dst v E) S' R' → (S' = S ∨ ∀ j, j ∈ ahead → isDone listed j) →
      Far ω P N ops Q (listed.setIfInBounds s.ix true) (a.put o.dst v) w' (ahead ++ [s.ix]) (some [s.ix]) rest (ext o.dst v E) S' R' := by
    intro o ho hN v S' R' w' hw' hpw hS
    refine ⟨by simpa [hs] using hok.2, by simpa using f.size, .snoc f.ord g.deps, ?_, ?_, ?_, ?_, ?_, ?_, ?_, ?_, hw', hpw⟩
    · intro j hj h
      rcases (getD_set hin).1 h with e | h
      · subst e; exact List.mem_append_right _ List.mem_cons_self
      · exact List.mem_append_left _ (f.sub j hj h)
    · intro j hj
      rcases List.mem_append.1 hj with h | h
      · exact f.bound j h
      · rw [List.mem_singleton.1 h]; exact g.bound
    · intro j hj h k hk
      refine (getD_set hin).2 (.inr ?_)
      rcases List.mem_append.1 hj with hj | hj
      · rcases (getD_set hin).1 h with e | h
        · subst e; exact absurd hj g.fresh
        · exact f.downed j hj h k hk
      · rw [List.mem_singleton.1 hj] at hk; exact hr k hk (f.bound k (g.deps k hk))
    · intro l hl j hj
      cases hl
      exact List.mem_append_right _ hj
    · intro j hj h
      have hnd : ¬ isDone listed j := fun h' => h ((getD_set hin).2 (.inr h'))
      rcases List.mem_append.1 hj with hj | hj
      · obtain ⟨o', d', v', ho', hd', hN', hl', hq', he', hu'⟩ := f.open_ j hj hnd
        have hSS : S' = S := by
          rcases hS with h | h
          · exact h
          · exact absurd (h j hj) hnd
        subst hSS
        cases hd : o.dst with
        | none => exact ⟨o', d', v', ho', hd', hN', hl', hq', he', hu'⟩
        | some d =>
          have hdst : dstOf ops s.ix = some d := by rw [dstOf_of ho]; exact hd
          refine ⟨o', d', v', ho', hd', hN', ?_, hq'.same ho' ?_, he', hu'⟩
          · refine (look_ne _ _ ?_).trans hl'
            intro e
            subst e
            have := hu' _ g.bound hdst
            exact g.fresh (this ▸ hj)
          · intro t ht
            refine look_ne _ _ ?_
            intro e
            subst e
            exact g.fresh (f.ord.closed j hj _ (he' _ ht _ g.bound hdst))
      · rw [List.mem_singleton.1 hj] at h
        exact absurd ((getD_set hin).2 (.inl rfl)) h
    · cases hd : o.dst with
      | none => exact f.defers
      | some d => exact f.defers
    · cases hd : o.dst with
      | none => exact f.tsize
      | some d => simp [Act.put, f.tsize]
    · intro t u ht
      have old : ∀ t u, look t E = some u → (∀ d, o.dst = some d → t ≠ d) → (∃ i, i ∈ ahead ++ [s.ix] ∧ ¬ isDone (listed.setIfInBounds s.ix true) i ∧ dstOf ops i = some t) ∨ a.tmps[t]? = some u := by
        intro t u ht _
        rcases f.tmps t u ht with ⟨j, h1, h2, h3⟩ | h
        · refine .inl ⟨j, List.mem_append_left _ h1, fun h => ?_, h3⟩
          rcases (getD_set hin).1 h with e | h
          · exact g.fresh (e ▸ h1)
          · exact h2 h
        · exact .inr h
      cases hd : o.dst with
      | none =>
        rw [hd] at ht
        exact old t u ht (fun d h => by rw [hd] at h; cases h)
      | some d =>
        rw [hd] at ht
        by_cases e : t = d
        · subst e
          have ht : look t ((t, v) :: E) = some u := ht
          rw [look_here] at ht; cases ht
          right
          simp only [Act.put]
          rw [Array.getElem?_setIfInBounds_self_of_lt (by rw [f.tsize]; exact hN _ hd)]
        · have ht : look t ((d, v) :: E) = some u := ht
          rw [look_ne _ _ e] at ht
          rcases old t u ht (fun d' h => by rw [hd] at h; cases h; exact e) with h | h
          · exact .inl h
          · right
            simp only [Act.put]
            rw [Array.getElem?_setIfInBounds_ne (Ne.symm e)]
            exact h
  have run : ∀ o, ops[s.ix]? = some o → ∀ K', EOK ω P ops o E (R ++ S) K' → (∀ v H' w', K' v H' → Holds ω H' w' → K (a.put o.dst v) w') → wpOp P ops Q s.ix K a w := by
    intro o ho K' hE hk
    unfold wpOp
    simp only [ho]
    rcases hE with ⟨hw, hoq⟩ | ⟨hw, hv⟩
    · rw [f.wanted ho g.eyes hr hw]
      simp only [if_true]
      refine .inl (Upon.wp (Upon.mono P ?_ (hoq a.eval (f.eval ho g.eyes hr) w f.holds)))
      rintro v' w' ⟨H', hk', hw'⟩
      exact hk _ _ _ hk' hw'
    · rw [f.wanted ho g.eyes hr hw]
      simp only [Bool.false_eq_true, if_false]
      exact hk _ _ _ hv f.holds
  cases s with
  | q i => cases hs
  | e i =>
    obtain ⟨o, ho, hN, hE⟩ := f.pw
    refine run o ho _ hE ?_
    rintro v H' w' ⟨R', himp, hpw⟩ hw'
    exact hK _ _ _ _ _ _ _ (key o ho hN v S R' w' (hw'.imp himp) hpw (.inl rfl))
  | b i =>
    obtain ⟨o, ho, hN, hE⟩ := f.pw
    have hall := covered_spec (isDone listed) (fun j hj => hr j hj (f.bound j (g.deps j hj))) ahead (g.bar i rfl) (fun j hj => f.downed j hj)
    refine run o ho _ hE ?_
    rintro v H' w' ⟨S', R', himp, hpw⟩ hw'
    exact hK _ _ _ _ _ _ _ (key o ho hN v S' R' w' (hw'.imp himp) hpw (.inr hall))

def undone (listed : Array Bool) (n : Nat) : Nat := (List.range n).countP fun i => !(listed.getD i true)

theorem countP_one {p q : Nat → Bool} {i : Nat} : ∀ l : List Nat, l.Nodup → i ∈ l → p i = true → q i = false → (∀ j, j ≠ i → q j = p j) → l.countP p = l.countP q + 1 := by
  intro l
  induction l with
  | nil => intro _ h; cases h
  | cons a l ih =>
    intro hn hi hp hq hj
    rw [List.nodup_cons] at hn
    rcases List.mem_cons.1 hi with e | h
    · subst e
      have : l.countP p = l.countP q := List.countP_congr fun x hx => by
        rw [hj x (fun e => hn.1 (e ▸ hx))]
      simp [hp, hq, this]
    · have hai : a ≠ i := fun e => hn.1 (e ▸ h)
      simp [List.countP_cons, ih hn.2 h hp hq hj, hj a hai]
      omega

theorem undone_set {listed : Array Bool} {n i : Nat} (hs : listed.size = n) (hi : i < n) (h : ¬ isDone listed i) : undone listed n = undone (listed.setIfInBounds i true) n + 1 := by
  refine countP_one (i := i) _ List.nodup_range (List.mem_range.2 hi) ?_ ?_ ?_
  · unfold isDone at h; simpa using h
  · have := (getD_set (listed := listed) (j := i) (i := i) (by omega)).2 (.inl rfl)
    unfold isDone at this
    simp [this]
  · intro j hj
    simp [Array.getElem?_setIfInBounds_ne (Ne.symm hj)]

theorem plan_cover : ∀ (rest : List PStep) (ahead : List Nat) (act : Option (List Nat)), planOk ops ops.size ahead act rest = true → ∀ i, i < ops.size → i ∈ ahead ∨ ∃ s, s ∈ rest ∧ s.ix = i := by
  intro rest
  induction rest with
  | nil =>
    intro ahead act h i hi
    simp only [planOk] at h
    exact .inl (by simpa using List.all_eq_true.1 h i (List.mem_range.2 hi))
  | cons s rest ih =>
    intro ahead act h i hi
    simp only [planOk, Bool.and_eq_true] at h
    rcases ih _ _ h.2 i hi with h | ⟨s', h1, h2⟩
    · rcases List.mem_append.1 h with h | h
      · exact .inl h
      · exact .inr ⟨s, List.mem_cons_self, (List.mem_singleton.1 h).symm⟩
    · exact .inr ⟨s', List.mem_cons_of_mem _ h1, h2⟩

theorem plan_fresh : ∀ (rest : List PStep) (ahead : List Nat) (act : Option (List Nat)), planOk ops ops.size ahead act rest = true → ∀ s, s ∈ rest → s.ix ∉ ahead ∧ s.ix < ops.size := by
  intro rest
  induction rest with
  | nil => intro _ _ _ s h; cases h
  | cons s rest ih =>
    intro ahead act h s' hs'
    simp only [planOk, Bool.and_eq_true] at h
    have g := good_of h.1
    rcases List.mem_cons.1 hs' with e | hs'
    · subst e; exact ⟨g.fresh, g.bound⟩
    · have := ih _ _ h.2 s' hs'
      exact ⟨fun hx => this.1 (List.mem_append_left _ hx), this.2⟩

theorem plan_late (p : Nat → Prop) : ∀ (rest : List PStep) (ahead : List Nat) (l : List Nat), planOk ops ops.size ahead (some l) rest = true → (∀ j, j ∈ l → ¬ p j) → (∀ s, s ∈ rest → ¬ p s.ix) →
    ∀ s, s ∈ rest → ∃ j, j ∈ deps ops s.ix ∧ ¬ p j := by
  intro rest
  induction rest with
  | nil => intro _ _ _ _ _ s h; cases h
  | cons s rest ih =>
    intro ahead l h hl hr s' hs'
    simp only [planOk, Bool.and_eq_true] at h
    have g := good_of h.1
    rcases List.mem_cons.1 hs' with e | hs'
    · subst e
      obtain ⟨j, hj, hd⟩ := g.act l rfl
      exact ⟨j, hd, hl j hj⟩
    · have h2 := h.2
      by_cases ha : s.acts = true
      · simp only [ha, if_true] at h2
        exact ih _ _ h2 (fun j hj => by rw [List.mem_singleton.1 hj]; exact hr s List.mem_cons_self) (fun x hx => hr x (List.mem_cons_of_mem _ hx)) s' hs'
      · simp only [ha, Option.map_some] at h2
        refine ih _ _ h2 (fun j hj => ?_) (fun x hx => hr x (List.mem_cons_of_mem _ hx)) s' hs'
        rcases List.mem_append.1 hj with h | h
        · exact hl j h
        · rw [List.mem_singleton.1 h]; exact hr s List.mem_cons_self

theorem Far.sound : ∀ (n : Nat) {listed : Array Bool} {a : Act} {w : World} {ahead : List Nat} {act : Option (List Nat)} {rest : List PStep} {E : Env} {S R : List HP}, Far ω P N ops Q listed a w ahead act rest E S R → undone listed ops.size = n →
    wpAny P .any ops Q n listed a w := by
  intro n
  induction n with
  | zero =>
    intro listed a w ahead act rest E S R f hn
    have hall : ∀ i, i < ops.size → isDone listed i := by
      intro i hi
      have := List.countP_eq_zero.1 hn i (List.mem_range.2 hi)
      unfold isDone; simpa using this
    obtain ⟨ahead', act', rest', E', f', hact⟩ := f.opened
    have hrest : rest' = [] := by
      cases rest' with
      | nil => rfl
      | cons s r =>
        have h := plan_fresh _ _ _ f'.ok s List.mem_cons_self
        exact absurd (f'.sub _ h.2 (hall _ h.2)) h.1
    subst hrest
    refine ⟨?_, ?_⟩
    · apply List.eq_nil_iff_forall_not_mem.2
      intro i hi
      obtain ⟨h1, h2, _⟩ := (mem_ready f.size).1 hi
      exact h2 (hall i h1)
    · refine f'.pw a w ⟨f'.defers, f'.tsize, fun t v hv => ?_⟩ f'.holds
      rcases f'.tmps t v hv with ⟨i, h1, h2, _⟩ | h
      · exact absurd (hall i (f'.bound i h1)) h2
      · exact h
  | succ n ih =>
    intro listed a w ahead act rest E S R f hn
    obtain ⟨ahead', act', rest', E', f', hact⟩ := f.opened
    refine ⟨?_, ?_⟩
    · intro hnil
      exfalso
      have hex : ∃ i, i < ops.size ∧ ¬ isDone listed i := by
        refine Classical.byContradiction fun hno => ?_
        have : undone listed ops.size = 0 := List.countP_eq_zero.2 fun i hi => by
          have h : isDone listed i := Classical.byContradiction fun h => hno ⟨i, List.mem_range.1 hi, h⟩
          unfold isDone at h; simpa using h
        omega
      have hready : ∃ k, k < ops.size ∧ ¬ isDone listed k ∧ ∀ j, j ∈ deps ops k → listed.getD j false = true := by
        by_cases hin : ∃ i, i ∈ ahead' ∧ ¬ isDone listed i
        · obtain ⟨k, h1, h2, h3⟩ := f'.ord.first (isDone listed) hin
          exact ⟨k, f'.bound k h1, h2, fun j hj => of_done (by rw [f.size]; exact f'.bound j (f'.ord.closed k h1 j hj)) (h3 j hj)⟩
        · have hall : ∀ i, i ∈ ahead' → isDone listed i := fun i hi => Classical.byContradiction fun h => hin ⟨i, hi, h⟩
          obtain ⟨i, hi, hnd⟩ := hex
          rcases plan_cover _ _ _ f'.ok i hi with h | ⟨s, hs, _⟩
          · exact absurd (hall i h) hnd
          · cases rest' with
            | nil => cases hs
            | cons s r =>
              have hok := f'.ok
              simp only [planOk, Bool.and_eq_true] at hok
              have g := good_of hok.1
              exact ⟨s.ix, g.bound, fun h => g.fresh (f'.sub _ g.bound h), fun j hj => of_done (by rw [f.size]; exact f'.bound j (g.deps j hj)) (hall j (g.deps j hj))⟩
      obtain ⟨k, h1, h2, h3⟩ := hready
      have : k ∈ Region.ready .any ops listed := (mem_ready f.size).2 ⟨h1, h2, h3⟩
      rw [hnil] at this
      cases this
    · intro i hi
      obtain ⟨h1, h2, h3⟩ := (mem_ready f.size).1 hi
      have hcnt := undone_set f.size h1 h2
      have h3' : ∀ j, j ∈ deps ops i → j < ops.size → isDone listed j := fun j hj _ => done_of (h3 j hj)
      rcases plan_cover _ _ _ f'.ok i h1 with h | ⟨s, hs, hix⟩
      · exact f'.doneQ h h2 h3' fun a' w' g => ih g (by omega)
      · cases rest' with
        | nil => cases hs
        | cons s0 r =>
          rcases List.mem_cons.1 hs with e | hs
          · subst e
            subst hix
            exact f'.doneE (hact _ _ rfl) h3' fun a' w' _ _ _ _ _ g => ih g (by omega)
          · exfalso
            have hok := f'.ok
            simp only [planOk, Bool.and_eq_true, hact _ _ rfl, if_true] at hok
            have hfr := plan_fresh _ _ _ f'.ok
            have hnd : ∀ s', s' ∈ s0 :: r → ¬ isDone listed s'.ix := fun s' hs' h => (hfr s' hs').1 (f'.sub _ (hfr s' hs').2 h)
            obtain ⟨j, hj, hnj⟩ := plan_late (isDone listed) r _ _ hok.2 (fun j hj => by rw [List.mem_singleton.1 hj]; exact hnd s0 List.mem_cons_self) (fun s' hs' => hnd s' (List.mem_cons_of_mem _ hs')) s hs
            rw [hix] at hj
            exact hnj (done_of (h3 j hj))

theorem undone_start (n : Nat) : undone (Array.replicate n false) n = n := by
  unfold undone
  have : (List.range n).countP (fun i => !((Array.replicate n false).getD i true)) = (List.range n).length := by
    rw [List.countP_eq_length]
    intro i hi
    have := List.mem_range.1 hi
    simp [this]
  rw [this, List.length_range]

/-- A region that draws its order, by a plan. -/
theorem ct_plan {id : Nat} {E : Env} {H : List HP} (plan : List PStep) (S R : List HP) (hm : P.follows .mixedOrders = true) (hok : planOk ops ops.size [] none plan = true) (s : Sees H (R ++ S))
    (h : PW ω P N ops Q plan E S R) : CT ω P N (.region id ops true) E H Q := by
  intro a w ha hw
  refine wp_region_any hm (Far.sound (ω := ω) (N := N) _ (ahead := []) (act := none) (rest := plan) (E := E) (S := S) (R := R) ?_ (undone_start _))
  have hnd : ∀ i, i < ops.size → ¬ isDone (Array.replicate ops.size false) i := by
    intro i hi h
    unfold isDone at h
    simp [hi] at h
  refine ⟨hok, by simp, .nil, fun i hi h => absurd h (hnd i hi), (fun i h => by cases h), (fun i h => by cases h), (fun l h => by cases h), (fun i h => by cases h), ha.d, ha.n, fun t v hv => .inr (ha.e t v hv), ?_, h⟩
  exact (hw.sees s).same rfl

theorem pw_nil {E : Env} {S R : List HP} (h : XT ω N .normal E (R ++ S) Q) : PW ω P N ops Q [] E S R := h
theorem pw_done {E : Env} {S : List HP} (h : XT ω N .normal E S Q) : PW ω P N ops Q [] E S [] := by
  exact h
theorem pw_q {i : Nat} {rest : List PStep} {E : Env} {S R : List HP} {o : Oper} {d : Tmp} {v : Value} (ho : ops[i]? = some o) (hd : o.dst = some d) (hN : Nat.blt d N = true) (hg : wantedE ops o E = some true) (hq : OQ ω P o E S v)
    (h : PW ω P N ops Q rest ((d, v) :: E) S R) : PW ω P N ops Q (.q i :: rest) E S R := ⟨o, d, v, ho, hd, Nat.lt_of_lt_of_le (Nat.lt_succ_self d) (Nat.le_of_ble_eq_true hN), .inl ⟨hg, hq⟩, h⟩
theorem pw_u {i : Nat} {rest : List PStep} {E : Env} {S R : List HP} {o : Oper} {d : Tmp} (ho : ops[i]? = some o) (hd : o.dst = some d) (hN : Nat.blt d N = true) (hg : wantedE ops o E = some false)
    (h : PW ω P N ops Q rest ((d, undef) :: E) S R) : PW ω P N ops Q (.q i :: rest) E S R := ⟨o, d, undef, ho, hd, Nat.lt_of_lt_of_le (Nat.lt_succ_self d) (Nat.le_of_ble_eq_true hN), .inr ⟨hg, rfl⟩, h⟩
theorem pw_e {i : Nat} {rest : List PStep} {E : Env} {S R : List HP} {o : Oper} {d : Tmp} {K : Value → List HP → Prop} (ho : ops[i]? = some o) (hd : o.dst = some d) (hN : Nat.blt d N = true) (hg : wantedE ops o E = some true) (hq : OT ω P o E (R ++ S) K)
    (h : ∀ v H', K v H' → ∃ R', Sees H' (R' ++ S) ∧ PW ω P N ops Q rest ((d, v) :: E) S R') : PW ω P N ops Q (.e i :: rest) E S R := by
  refine ⟨o, ho, fun d' hd' => ?_, .inl ⟨hg, OT.mono ω P hq fun v H' hk => ?_⟩⟩
  · rw [hd] at hd'; cases hd'; exact Nat.lt_of_lt_of_le (Nat.lt_succ_self d) (Nat.le_of_ble_eq_true hN)
  · obtain ⟨R', s, hp⟩ := h v H' hk
    exact ⟨R', s.out, by rw [hd]; exact hp⟩
theorem pw_e0 {i : Nat} {rest : List PStep} {E : Env} {S R : List HP} {o : Oper} {K : Value → List HP → Prop} (ho : ops[i]? = some o) (hd : o.dst = none) (hg : wantedE ops o E = some true) (hq : OT ω P o E (R ++ S) K)
    (h : ∀ v H', K v H' → ∃ R', Sees H' (R' ++ S) ∧ PW ω P N ops Q rest E S R') : PW ω P N ops Q (.e i :: rest) E S R := by
  refine ⟨o, ho, fun d' hd' => ?_, .inl ⟨hg, OT.mono ω P hq fun v H' hk => ?_⟩⟩
  · rw [hd] at hd'; cases hd'
  · obtain ⟨R', s, hp⟩ := h v H' hk
    exact ⟨R', s.out, by rw [hd]; exact hp⟩
/-- The last: what is held behind it is what it is. -/
theorem pw_b {i : Nat} {rest : List PStep} {E : Env} {S R : List HP} {o : Oper} {d : Tmp} {K : Value → List HP → Prop} (ho : ops[i]? = some o) (hd : o.dst = some d) (hN : Nat.blt d N = true) (hg : wantedE ops o E = some true) (hq : OT ω P o E (R ++ S) K)
    (h : ∀ v H', K v H' → PW ω P N ops Q rest ((d, v) :: E) H' []) : PW ω P N ops Q (.b i :: rest) E S R := by
  refine ⟨o, ho, fun d' hd' => ?_, .inl ⟨hg, OT.mono ω P hq fun v H' hk => ?_⟩⟩
  · rw [hd] at hd'; cases hd'; exact Nat.lt_of_lt_of_le (Nat.lt_succ_self d) (Nat.le_of_ble_eq_true hN)
  · exact ⟨H', [], fun m hm => hm, by rw [hd]; exact h v H' hk⟩
theorem pw_b0 {i : Nat} {rest : List PStep} {E : Env} {S R : List HP} {o : Oper} {K : Value → List HP → Prop} (ho : ops[i]? = some o) (hd : o.dst = none) (hg : wantedE ops o E = some true) (hq : OT ω P o E (R ++ S) K)
    (h : ∀ v H', K v H' → PW ω P N ops Q rest E H' []) : PW ω P N ops Q (.b i :: rest) E S R := by
  refine ⟨o, ho, fun d' hd' => ?_, .inl ⟨hg, OT.mono ω P hq fun v H' hk => ?_⟩⟩
  · rw [hd] at hd'; cases hd'
  · exact ⟨H', [], fun m hm => hm, by rw [hd]; exact h v H' hk⟩
theorem pw_split {rest : List PStep} {E : Env} {S R : List HP} {d : Nat} {b : Bool} (ht : b = true → PW ω P N ops Q rest ((d, .bool true) :: E) S R) (hf : b = false → PW ω P N ops Q rest ((d, .bool false) :: E) S R) : PW ω P N ops Q rest ((d, .bool b) :: E) S R := by
  cases b
  · exact hf rfl
  · exact ht rfl
theorem rl_split {rest : List Oper} {E : Env} {H : List HP} {d : Nat} {b : Bool} (ht : b = true → RL ω P N ops Q rest ((d, .bool true) :: E) H) (hf : b = false → RL ω P N ops Q rest ((d, .bool false) :: E) H) : RL ω P N ops Q rest ((d, .bool b) :: E) H := by
  cases b
  · exact hf rfl
  · exact ht rfl
theorem rl_split_d {rest : List Oper} {E : Env} {H : List HP} {d : Nat} {p : Prop} [Decidable p] (ht : p → RL ω P N ops Q rest ((d, .bool true) :: E) H) (hf : ¬ p → RL ω P N ops Q rest ((d, .bool false) :: E) H) : RL ω P N ops Q rest ((d, .bool (decide p)) :: E) H :=
  rl_split (fun e => ht (of_decide_eq_true e)) (fun e => hf (of_decide_eq_false e))
theorem rl_split_n {rest : List Oper} {E : Env} {H : List HP} {d : Nat} {p : Prop} [Decidable p] (ht : ¬ p → RL ω P N ops Q rest ((d, .bool true) :: E) H) (hf : p → RL ω P N ops Q rest ((d, .bool false) :: E) H) : RL ω P N ops Q rest ((d, .bool (!decide p)) :: E) H :=
  rl_split (fun e => ht (of_decide_eq_false (by simpa using e))) (fun e => hf (of_decide_eq_true (by simpa using e)))
theorem rl_split_b {rest : List Oper} {E : Env} {H : List HP} {d : Nat} {b : Bool} (ht : b = false → RL ω P N ops Q rest ((d, .bool true) :: E) H) (hf : b = true → RL ω P N ops Q rest ((d, .bool false) :: E) H) : RL ω P N ops Q rest ((d, .bool (!b)) :: E) H :=
  rl_split (fun e => ht (by simpa using e)) (fun e => hf (by simpa using e))
theorem pw_split_d {rest : List PStep} {E : Env} {S R : List HP} {d : Nat} {p : Prop} [Decidable p] (ht : p → PW ω P N ops Q rest ((d, .bool true) :: E) S R) (hf : ¬ p → PW ω P N ops Q rest ((d, .bool false) :: E) S R) : PW ω P N ops Q rest ((d, .bool (decide p)) :: E) S R :=
  pw_split (fun e => ht (of_decide_eq_true e)) (fun e => hf (of_decide_eq_false e))
theorem pw_split_n {rest : List PStep} {E : Env} {S R : List HP} {d : Nat} {p : Prop} [Decidable p] (ht : ¬ p → PW ω P N ops Q rest ((d, .bool true) :: E) S R) (hf : p → PW ω P N ops Q rest ((d, .bool false) :: E) S R) : PW ω P N ops Q rest ((d, .bool (!decide p)) :: E) S R :=
  pw_split (fun e => ht (of_decide_eq_false (by simpa using e))) (fun e => hf (of_decide_eq_true (by simpa using e)))
theorem pw_split_b {rest : List PStep} {E : Env} {S R : List HP} {d : Nat} {b : Bool} (ht : b = false → PW ω P N ops Q rest ((d, .bool true) :: E) S R) (hf : b = true → PW ω P N ops Q rest ((d, .bool false) :: E) S R) : PW ω P N ops Q rest ((d, .bool (!b)) :: E) S R :=
  pw_split (fun e => ht (by simpa using e)) (fun e => hf (by simpa using e))
theorem stars_nil_append {H : List HP} : ∀ m, Stars H m → Stars (H ++ []) m := fun m h => by rw [List.append_nil]; exact h
theorem ct_planH {id : Nat} {E : Env} {H : List HP} (plan : List PStep) (hm : P.follows .mixedOrders = true) (hok : planOk ops ops.size [] none plan = true)
    (h : PW ω P N ops Q plan E H []) : CT ω P N (.region id ops true) E H Q := ct_plan plan H [] hm hok .refl h
end
end Go.Proofs.YtnjljfjncfbinaaGreat
