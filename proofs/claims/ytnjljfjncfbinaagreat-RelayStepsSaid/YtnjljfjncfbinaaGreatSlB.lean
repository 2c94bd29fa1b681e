/- A region that draws its order, by a plan in which new variables ('a') may be made earlier than they are used. -/
import Derived.Test.YtnjljfjncfbinaaGreatSlA
set_option linter.all false
namespace Go.Proofs.YtnjljfjncfbinaaGreat
open Go

inductive GStep where
  | q (i : Nat)
  | e (i : Nat)
  | b (i : Nat)
  | a (i : Nat)
  deriving DecidableEq
def GStep.ix : GStep → Nat
  | .q i | .e i | .b i | .a i => i
def GStep.acts : GStep → Bool
  | .e _ | .b _ => true
  | _ => false
def isAlloc (ops : Array Oper) (i : Nat) : Bool :=
  match ops[i]? with
  | some o => (match o.op with | .alloc _ => true | _ => false) && o.guard.isNone && o.dst.isSome
  | none => false
def actOk (ds : List Nat) : Option (List Nat) → Bool
  | none => true
  | some l => l.any fun j => ds.contains j
def stepOkG (ops : Array Oper) (n : Nat) (ahead : List Nat) (act : Option (List Nat)) (pend : List Nat) (s : GStep) : Bool :=
  let i := s.ix
  decide (i < n) && !ahead.contains i &&
  ((eyes ops i).all fun t => (List.range n).all fun j => !(dstOf ops j == some t) || j == i || (deps ops i).contains j) &&
  (!(eyes ops i).any fun t => dstOf ops i == some t) &&
  ((deps ops i).all fun j => ahead.contains j) &&
  (match dstOf ops i with | some d => (List.range n).all fun j => j == i || !(dstOf ops j == some d) | none => s.acts) &&
  (match s with
    | .q _ => pend.isEmpty && actOk (deps ops i) act
    | .e _ => (pend.all fun j => (deps ops i).contains j) && actOk (deps ops i) act
    | .b _ => (pend.all fun j => (deps ops i).contains j) && actOk (deps ops i) act && covered ops i ahead
    | .a _ => isAlloc ops i)
def actG (act : Option (List Nat)) : GStep → Option (List Nat)
  | .q i => act.map (· ++ [i])
  | .e i | .b i => some [i]
  | .a _ => act
def pendG (pend : List Nat) : GStep → List Nat
  | .a i => pend ++ [i]
  | .q _ => pend
  | _ => []
def planOkG (ops : Array Oper) (n : Nat) : List Nat → Option (List Nat) → List Nat → List GStep → Bool
  | ahead, _, pend, [] => ((List.range n).all fun i => ahead.contains i) && pend.isEmpty
  | ahead, act, pend, s :: rest => stepOkG ops n ahead act pend s && planOkG ops n (ahead ++ [s.ix]) (actG act s) (pendG pend s) rest

/-- A new variable. -/
def AllocOf (P : Program) (o : Oper) (us : List Value) : Prop := ∃ T z, o.op = .alloc T ∧ o.guard = none ∧ (∀ w, (zeroValue T).run P w = .ok z w) ∧ z.cells.toList = us

section
variable (ω : World) (P : Program) (N : Nat) (ops : Array Oper) (Q : Post)
def PG : List GStep → Env → List HP → List HP → Prop
  | [], E, S, R => XT ω N .normal E (R ++ S) Q
  | .q i :: rest, E, S, R => ∃ o d v, ops[i]? = some o ∧ o.dst = some d ∧ d < N ∧ QOK ω P ops o E S v ∧ PG rest ((d, v) :: E) S R
  | .e i :: rest, E, S, R => ∃ o, ops[i]? = some o ∧ (∀ d, o.dst = some d → d < N) ∧ ∀ G,
      EOK ω P ops o E (R ++ (S ++ G)) fun v H' => ∃ R', (∀ m, Stars H' m → Stars (R' ++ (S ++ G)) m) ∧ PG rest (ext o.dst v E) S R'
  | .b i :: rest, E, S, R => ∃ o, ops[i]? = some o ∧ (∀ d, o.dst = some d → d < N) ∧ ∀ G,
      EOK ω P ops o E (R ++ (S ++ G)) fun v H' => ∃ S' R', (∀ m, Stars H' m → Stars (R' ++ (S' ++ G)) m) ∧ PG rest (ext o.dst v E) S' R'
  | .a i :: rest, E, S, R => ∃ o d us, ops[i]? = some o ∧ o.dst = some d ∧ d < N ∧ AllocOf P o us ∧ ∀ b, PG rest ((d, .pointer (some ⟨b, 0, none⟩)) :: E) S (row b 0 us :: R)
end

abbrev Bag := List (Nat × Nat × List Value)
def bagRows (g : Bag) : List HP := g.map fun x => row x.2.1 0 x.2.2

section
variable {ω : World} {P : Program} {N : Nat} {ops : Array Oper} {Q : Post}

structure GoodG (ops : Array Oper) (ahead : List Nat) (act : Option (List Nat)) (pend : List Nat) (s : GStep) : Prop where
  bound : s.ix < ops.size
  fresh : s.ix ∉ ahead
  eyes : ∀ t, t ∈ eyes ops s.ix → ∀ j, j < ops.size → dstOf ops j = some t → j ∈ deps ops s.ix
  deps : ∀ j, j ∈ deps ops s.ix → j ∈ ahead
  dst : ∀ d, dstOf ops s.ix = some d → ∀ j, j < ops.size → dstOf ops j = some d → j = s.ix
  act : (∀ i, s ≠ .a i) → ∀ l, act = some l → ∃ j, j ∈ l ∧ j ∈ Go.Proofs.YtnjljfjncfbinaaGreat.deps ops s.ix
  pendq : (∃ i, s = .q i) → pend = []
  pend : s.acts = true → ∀ j, j ∈ pend → j ∈ Go.Proofs.YtnjljfjncfbinaaGreat.deps ops s.ix
  bar : ∀ i, s = .b i → covered ops i ahead = true

theorem goodG_of {ahead : List Nat} {act : Option (List Nat)} {pend : List Nat} {s : GStep} (h : stepOkG ops ops.size ahead act pend s = true) : GoodG ops ahead act pend s := by
  simp only [stepOkG, Bool.and_eq_true] at h
  obtain ⟨⟨⟨⟨⟨⟨h1, h2⟩, h3⟩, h4⟩, h5⟩, h6⟩, h7⟩ := h
  have hact : ∀ {l : List Nat}, act = some l → actOk (deps ops s.ix) act = true → ∃ j, j ∈ l ∧ j ∈ deps ops s.ix := by
    intro l hl h
    subst hl
    obtain ⟨j, hj, hd⟩ := List.any_eq_true.1 h
    exact ⟨j, hj, by simpa using hd⟩
  refine ⟨of_decide_eq_true h1, by simpa using h2, ?_, ?_, ?_, ?_, ?_, ?_, ?_⟩
  · intro t ht j hj hd
    have := List.all_eq_true.1 (List.all_eq_true.1 h3 t ht) j (List.mem_range.2 hj)
    rcases Bool.or_eq_true _ _ ▸ this with h | h
    · rcases Bool.or_eq_true _ _ ▸ h with h | h
      · simp [hd] at h
      · have e : j = s.ix := by simpa using h
        subst e
        exfalso
        simp only [Bool.not_eq_true', List.any_eq_false] at h4
        have := h4 t ht
        simp [hd] at this
    · simpa using h
  · intro j hj
    simpa using List.all_eq_true.1 h5 j hj
  · intro d hd j hj hdj
    rw [hd] at h6
    have := List.all_eq_true.1 h6 j (List.mem_range.2 hj)
    rcases Bool.or_eq_true _ _ ▸ this with h | h
    · simpa using h
    · simp [hdj] at h
  · intro hna l hl
    cases s with
    | a i => exact absurd rfl (hna i)
    | q i => simp only [Bool.and_eq_true] at h7; exact hact hl h7.2
    | e i => simp only [Bool.and_eq_true] at h7; exact hact hl h7.2
    | b i => simp only [Bool.and_eq_true] at h7; exact hact hl h7.1.2
  · rintro ⟨i, rfl⟩
    simp only [Bool.and_eq_true] at h7
    simpa using h7.1
  · intro hs j hj
    cases s with
    | a i => cases hs
    | q i => cases hs
    | e i => simp only [Bool.and_eq_true] at h7; simpa using List.all_eq_true.1 h7.1 j hj
    | b i => simp only [Bool.and_eq_true] at h7; simpa using List.all_eq_true.1 h7.1.1 j hj
  · intro i hi
    subst hi
    simp only [Bool.and_eq_true] at h7
    exact h7.2

/-- How far it is. -/
structure FarG (ω : World) (P : Program) (N : Nat) (ops : Array Oper) (Q : Post) (listed : Array Bool) (a : Act) (w : World)
    (ahead : List Nat) (act : Option (List Nat)) (pend : List Nat) (bag : Bag) (rest : List GStep) (E : Env) (S R : List HP) : Prop where
  ok : planOkG ops ops.size ahead act pend rest = true
  size : listed.size = ops.size
  ord : Ord ops ahead
  sub : ∀ i, i < ops.size → isDone listed i → i ∈ ahead ∨ i ∈ bag.map (·.1)
  bound : ∀ i, i ∈ ahead → i < ops.size
  downed : ∀ i, i ∈ ahead → isDone listed i → ∀ j, j ∈ deps ops i → isDone listed j
  acted : ∀ l, act = some l → ∀ j, j ∈ l → j ∈ ahead
  pends : ∀ j, j ∈ pend → j ∈ ahead ∧ isDone listed j
  open_ : ∀ i, i ∈ ahead → ¬ isDone listed i → ∃ o d v, ops[i]? = some o ∧ o.dst = some d ∧ d < N ∧ look d E = some v ∧ QOK ω P ops o E S v ∧
    (∀ t, t ∈ eyes ops i → ∀ j, j < ops.size → dstOf ops j = some t → j ∈ deps ops i) ∧ (∀ j, j < ops.size → dstOf ops j = some d → j = i)
  defers : a.defers = []
  tsize : a.tmps.size = N
  tmps : ∀ t v, look t E = some v → (∃ i, i ∈ ahead ∧ ¬ isDone listed i ∧ dstOf ops i = some t) ∨ (∃ x, x ∈ bag ∧ dstOf ops x.1 = some t) ∨ a.tmps[t]? = some v
  bags : ∀ x, x ∈ bag → x.1 < ops.size ∧ isDone listed x.1 ∧ x.1 ∉ ahead ∧ GStep.a x.1 ∈ rest ∧ (∀ j, j ∈ deps ops x.1 → isDone listed j) ∧
    ∃ o d, ops[x.1]? = some o ∧ o.dst = some d ∧ d < N ∧ AllocOf P o x.2.2 ∧ a.tmps[d]? = some (.pointer (some ⟨x.2.1, 0, none⟩))
  nodup : (bag.map (·.1)).Nodup
  holds : Holds ω (R ++ (S ++ bagRows bag)) w
  pg : PG ω P N ops Q rest E S R

theorem bagRows_erase {g : Bag} {x : Nat × Nat × List Value} (h : x ∈ g) : ∃ g1 g2, g = g1 ++ x :: g2 := List.append_of_mem h

theorem planG_fresh : ∀ (rest : List GStep) (ahead : List Nat) (act : Option (List Nat)) (pend : List Nat), planOkG ops ops.size ahead act pend rest = true → ∀ s, s ∈ rest → s.ix ∉ ahead ∧ s.ix < ops.size := by
  intro rest
  induction rest with
  | nil => intro _ _ _ _ s h; cases h
  | cons s rest ih =>
    intro ahead act pend h s' hs'
    simp only [planOkG, Bool.and_eq_true] at h
    have g := goodG_of h.1
    rcases List.mem_cons.1 hs' with e | hs'
    · subst e; exact ⟨g.fresh, g.bound⟩
    · have := ih _ _ _ h.2 s' hs'
      exact ⟨fun hx => this.1 (List.mem_append_left _ hx), this.2⟩
theorem planG_cover : ∀ (rest : List GStep) (ahead : List Nat) (act : Option (List Nat)) (pend : List Nat), planOkG ops ops.size ahead act pend rest = true → ∀ i, i < ops.size → i ∈ ahead ∨ ∃ s, s ∈ rest ∧ s.ix = i := by
  intro rest
  induction rest with
  | nil =>
    intro ahead act pend h i hi
    simp only [planOkG, Bool.and_eq_true] at h
    exact .inl (by simpa using List.all_eq_true.1 h.1 i (List.mem_range.2 hi))
  | cons s rest ih =>
    intro ahead act pend h i hi
    simp only [planOkG, Bool.and_eq_true] at h
    rcases ih _ _ _ h.2 i hi with h | ⟨s', h1, h2⟩
    · rcases List.mem_append.1 h with h | h
      · exact .inl h
      · exact .inr ⟨s, List.mem_cons_self, (List.mem_singleton.1 h).symm⟩
    · exact .inr ⟨s', List.mem_cons_of_mem _ h1, h2⟩
/-- Each step of a plan is another operation. -/
theorem planG_ne {s : GStep} {rest : List GStep} {ahead : List Nat} {act : Option (List Nat)} {pend : List Nat} (h : planOkG ops ops.size ahead act pend (s :: rest) = true) : ∀ s', s' ∈ rest → s'.ix ≠ s.ix := by
  intro s' hs'
  simp only [planOkG, Bool.and_eq_true] at h
  have := (planG_fresh _ _ _ _ h.2 s' hs').1
  intro e
  exact this (List.mem_append_right _ (by rw [e]; exact List.mem_cons_self))

/-- What isn't a new variable waits: for one that acted last, or for a new variable that isn't made yet. -/
theorem planG_late (p : Nat → Prop) : ∀ (rest : List GStep) (ahead : List Nat) (l pend : List Nat), planOkG ops ops.size ahead (some l) pend rest = true → (∀ j, j ∈ l → ¬ p j) → (∀ s, s ∈ rest → ¬ p s.ix ∨ ∃ i, s = .a i) →
    ∀ s, s ∈ rest → (∀ i, s ≠ .a i) → ∃ j, j ∈ deps ops s.ix ∧ ¬ p j := by
  intro rest
  induction rest with
  | nil => intro _ _ _ _ _ _ s h; cases h
  | cons s rest ih =>
    intro ahead l pend h hl hr s' hs' hna
    simp only [planOkG, Bool.and_eq_true] at h
    have g := goodG_of h.1
    rcases List.mem_cons.1 hs' with e | hs2
    · subst e
      obtain ⟨j, hj, hd⟩ := g.act hna l rfl
      exact ⟨j, hd, hl j hj⟩
    · have h2 := h.2
      have hr' : ∀ s, s ∈ rest → ¬ p s.ix ∨ ∃ i, s = .a i := fun x hx => hr x (List.mem_cons_of_mem _ hx)
      cases s with
      | a i => exact ih _ _ _ h2 hl hr' s' hs2 hna
      | q i =>
        refine ih _ (l ++ [i]) _ h2 (fun j hj => ?_) hr' s' hs2 hna
        rcases List.mem_append.1 hj with h | h
        · exact hl j h
        · rw [List.mem_singleton.1 h]
          rcases hr _ List.mem_cons_self with h' | ⟨_, h'⟩
          · exact h'
          · cases h'
      | e i =>
        refine ih _ [i] _ h2 (fun j hj => ?_) hr' s' hs2 hna
        rw [List.mem_singleton.1 hj]
        rcases hr _ List.mem_cons_self with h' | ⟨_, h'⟩
        · exact h'
        · cases h'
      | b i =>
        refine ih _ [i] _ h2 (fun j hj => ?_) hr' s' hs2 hna
        rw [List.mem_singleton.1 hj]
        rcases hr _ List.mem_cons_self with h' | ⟨_, h'⟩
        · exact h'
        · cases h'
/-- Behind new variables that aren't made yet. -/
theorem planG_pend (p : Nat → Prop) (k : Nat) (hk : ¬ p k) : ∀ (rest : List GStep) (ahead : List Nat) (act : Option (List Nat)) (pend : List Nat), planOkG ops ops.size ahead act pend rest = true → k ∈ pend → (∀ s, s ∈ rest → ¬ p s.ix ∨ ∃ i, s = .a i) →
    ∀ s, s ∈ rest → (∀ i, s ≠ .a i) → ∃ j, j ∈ deps ops s.ix ∧ ¬ p j := by
  intro rest
  induction rest with
  | nil => intro _ _ _ _ _ _ s h; cases h
  | cons s rest ih =>
    intro ahead act pend h hp hr s' hs' hna
    have h0 := h
    simp only [planOkG, Bool.and_eq_true] at h
    have g := goodG_of h.1
    have hr' : ∀ s, s ∈ rest → ¬ p s.ix ∨ ∃ i, s = .a i := fun x hx => hr x (List.mem_cons_of_mem _ hx)
    cases s with
    | a i =>
      rcases List.mem_cons.1 hs' with e | hs2
      · exact absurd e (hna i)
      · exact ih _ _ _ h.2 (List.mem_append_left _ hp) hr' s' hs2 hna
    | q i => have := g.pendq ⟨i, rfl⟩; rw [this] at hp; cases hp
    | e i =>
      rcases List.mem_cons.1 hs' with e | hs2
      · subst e; exact ⟨k, g.pend rfl k hp, hk⟩
      · refine planG_late p rest _ [i] _ h.2 (fun j hj => ?_) hr' s' hs2 hna
        rw [List.mem_singleton.1 hj]
        rcases hr _ List.mem_cons_self with h' | ⟨_, h'⟩
        · exact h'
        · cases h'
    | b i =>
      rcases List.mem_cons.1 hs' with e | hs2
      · subst e; exact ⟨k, g.pend rfl k hp, hk⟩
      · refine planG_late p rest _ [i] _ h.2 (fun j hj => ?_) hr' s' hs2 hna
        rw [List.mem_singleton.1 hj]
        rcases hr _ List.mem_cons_self with h' | ⟨_, h'⟩
        · exact h'
        · cases h'

section
variable {listed : Array Bool} {a : Act} {w : World} {ahead : List Nat} {act : Option (List Nat)} {pend : List Nat} {bag : Bag} {rest : List GStep} {E : Env} {S R : List HP}
theorem FarG.slot (f : FarG ω P N ops Q listed a w ahead act pend bag rest E S R) {i : Nat} (hcl : ∀ j, j ∈ deps ops i → j ∈ ahead)
    (he : ∀ t, t ∈ eyes ops i → ∀ j, j < ops.size → dstOf ops j = some t → j ∈ deps ops i) (hr : ∀ j, j ∈ deps ops i → j < ops.size → isDone listed j) {t : Tmp} (ht : t ∈ eyes ops i) {v : Value} (hv : look t E = some v) : a.tmps[t]? = some v := by
  rcases f.tmps t v hv with ⟨j, h1, h2, h3⟩ | ⟨x, h1, h2⟩ | h
  · exact absurd (hr j (he t ht j (f.bound j h1) h3) (f.bound j h1)) h2
  · obtain ⟨hb, _, hna, _⟩ := f.bags x h1
    exact absurd (hcl _ (he t ht _ hb h2)) hna
  · exact h
theorem FarG.eval (f : FarG ω P N ops Q listed a w ahead act pend bag rest E S R) {i : Nat} {o : Oper} (ho : ops[i]? = some o) (hcl : ∀ j, j ∈ deps ops i → j ∈ ahead)
    (he : ∀ t, t ∈ eyes ops i → ∀ j, j < ops.size → dstOf ops j = some t → j ∈ deps ops i) (hr : ∀ j, j ∈ deps ops i → j < ops.size → isDone listed j) : ∀ x, x ∈ o.op.operands → ∀ v, ev E x = some v → a.eval x = v := by
  intro x hx v hv
  cases x with
  | tmp t =>
    have := f.slot hcl he hr (mem_eyes_op ho hx) hv
    simp [Act.eval, this]
  | const u => simpa [Act.eval, ev] using hv
  | global g => simpa [Act.eval, ev] using hv
  | func g => simpa [Act.eval, ev] using hv
theorem FarG.wanted (f : FarG ω P N ops Q listed a w ahead act pend bag rest E S R) {i : Nat} {o : Oper} (ho : ops[i]? = some o) (hcl : ∀ j, j ∈ deps ops i → j ∈ ahead)
    (he : ∀ t, t ∈ eyes ops i → ∀ j, j < ops.size → dstOf ops j = some t → j ∈ deps ops i) (hr : ∀ j, j ∈ deps ops i → j < ops.size → isDone listed j) {b : Bool} (hw : wantedE ops o E = some b) : Region.wanted o (yielded ops a.tmps) = b :=
  wanted_of hw fun _ _ _ _ hg ht hv => f.slot hcl he hr (mem_eyes_guard ho hg ht) hv

/-- The next one only looks: it is opened. -/
theorem FarG.openQ {i : Nat} (f : FarG ω P N ops Q listed a w ahead act pend bag (.q i :: rest) E S R) : ∃ act' pend' E', FarG ω P N ops Q listed a w (ahead ++ [i]) act' pend' bag rest E' S R := by
  have hok := f.ok
  have hne := planG_ne hok
  simp only [planOkG, Bool.and_eq_true] at hok
  have g := goodG_of hok.1
  obtain ⟨o, d, v, ho, hd, hN, hq, hpw⟩ := f.pg
  have hdst : dstOf ops i = some d := by rw [dstOf_of ho]; exact hd
  have hnb : i ∉ bag.map (·.1) := by
    intro h
    obtain ⟨x, hx, e⟩ := List.mem_map.1 h
    obtain ⟨_, _, _, hin, _⟩ := f.bags x hx
    rcases List.mem_cons.1 hin with h | h
    · cases h
    · exact hne _ h e
  have hni : ¬ isDone listed i := fun h => (f.sub i g.bound h).elim g.fresh hnb
  have hself : d ∉ eyes ops i := by
    intro h
    have := g.eyes d h i g.bound hdst
    exact g.fresh (g.deps i this)
  refine ⟨_, _, (d, v) :: E, ⟨hok.2, f.size, .snoc f.ord g.deps, fun j hj h => (f.sub j hj h).imp (List.mem_append_left _) id, ?_, ?_, ?_, ?_, ?_, f.defers, f.tsize, ?_, ?_, f.nodup, f.holds, hpw⟩⟩
  · intro j hj
    rcases List.mem_append.1 hj with h | h
    · exact f.bound j h
    · rw [List.mem_singleton.1 h]; exact g.bound
  · intro j hj hdone
    rcases List.mem_append.1 hj with h | h
    · exact f.downed j h hdone
    · rw [List.mem_singleton.1 h] at hdone; exact absurd hdone hni
  · intro l hl j hj
    simp only [actG] at hl
    cases act with
    | none => cases hl
    | some l0 =>
      cases hl
      rcases List.mem_append.1 hj with h | h
      · exact List.mem_append_left _ (f.acted _ rfl j h)
      · exact List.mem_append_right _ h
  · intro j hj
    have := f.pends j hj
    exact ⟨List.mem_append_left _ this.1, this.2⟩
  · intro j hj hnd
    rcases List.mem_append.1 hj with h | h
    · obtain ⟨o', d', v', ho', hd', hN', hl', hq', he', hu'⟩ := f.open_ j h hnd
      have hdd : d' ≠ d := by
        intro e
        subst e
        have := hu' i g.bound hdst
        subst this
        exact g.fresh h
      refine ⟨o', d', v', ho', hd', hN', by rw [look_ne _ _ hdd]; exact hl', hq'.same ho' ?_, he', hu'⟩
      intro t ht
      refine look_ne _ _ ?_
      intro e
      subst e
      exact g.fresh (f.ord.closed j h i (he' _ ht i g.bound hdst))
    · have e := List.mem_singleton.1 h
      subst e
      refine ⟨o, d, v, ho, hd, hN, look_here _ _ _, hq.same ho ?_, g.eyes, g.dst d hdst⟩
      intro t ht
      refine look_ne _ _ ?_
      intro e
      subst e
      exact hself ht
  · intro t u hu
    by_cases e : t = d
    · subst e; exact .inl ⟨i, List.mem_append_right _ List.mem_cons_self, hni, hdst⟩
    · rw [look_ne _ _ e] at hu
      rcases f.tmps t u hu with ⟨j, h1, h2, h3⟩ | h | h
      · exact .inl ⟨j, List.mem_append_left _ h1, h2, h3⟩
      · exact .inr (.inl h)
      · exact .inr (.inr h)
  · intro x hx
    obtain ⟨h1, h2, h3, h4, h5⟩ := f.bags x hx
    refine ⟨h1, h2, fun h => ?_, ?_, h5⟩
    · rcases List.mem_append.1 h with h | h
      · exact h3 h
      · exact hnb (List.mem_map.2 ⟨x, hx, List.mem_singleton.1 h⟩)
    · rcases List.mem_cons.1 h4 with h | h
      · cases h
      · exact h

/-- The next one is a new variable that is made already. -/
theorem FarG.openA {i : Nat} (f : FarG ω P N ops Q listed a w ahead act pend bag (.a i :: rest) E S R) (hb : i ∈ bag.map (·.1)) : ∃ act' pend' bag' E' R', FarG ω P N ops Q listed a w (ahead ++ [i]) act' pend' bag' rest E' S R' := by
  have hok := f.ok
  have hne := planG_ne hok
  simp only [planOkG, Bool.and_eq_true] at hok
  have g := goodG_of hok.1
  obtain ⟨o, d, us, ho, hd, hN, hal, hpw⟩ := f.pg
  obtain ⟨x, hx, hxi⟩ := List.mem_map.1 hb
  subst hxi
  obtain ⟨hx1, hx2, hx3, _, hx5, o', d', ho', hd', _, hal', htm⟩ := f.bags x hx
  have : o' = o := by have h := ho'.symm.trans ho; exact Option.some.inj h
  subst this
  have : d' = d := by rw [hd] at hd'; exact (Option.some.inj hd').symm
  subst this
  have hus : us = x.2.2 := by
    obtain ⟨T, z, h1, h2, h3, h4⟩ := hal
    obtain ⟨T', z', h1', h2', h3', h4'⟩ := hal'
    rw [h1] at h1'; cases h1'
    have := (h3 w).symm.trans (h3' w)
    injection this with e1 e2
    rw [← h4, ← h4', e1]
  subst hus
  have hdst : dstOf ops x.1 = some d' := by rw [dstOf_of ho]; exact hd
  obtain ⟨g1, g2, hg⟩ := bagRows_erase hx
  have hnd := f.nodup
  rw [hg] at hnd
  simp only [List.map_append, List.map_cons] at hnd
  have hnx : x.1 ∉ (g1 ++ g2).map (·.1) := by
    rw [List.nodup_append] at hnd
    obtain ⟨_, hnd2, hnd3⟩ := hnd
    rw [List.nodup_cons] at hnd2
    rw [List.map_append, List.mem_append]
    rintro (h | h)
    · exact hnd3 _ h _ List.mem_cons_self rfl
    · exact hnd2.1 h
  have hmem : ∀ y, y ∈ g1 ++ g2 → y ∈ bag := by
    intro y hy; rw [hg]
    rcases List.mem_append.1 hy with h | h
    · exact List.mem_append_left _ h
    · exact List.mem_append_right _ (List.mem_cons_of_mem _ h)
  refine ⟨_, _, g1 ++ g2, (d', .pointer (some ⟨x.2.1, 0, none⟩)) :: E, row x.2.1 0 x.2.2 :: R, ⟨hok.2, f.size, .snoc f.ord g.deps, ?_, ?_, ?_, ?_, ?_, ?_, f.defers, f.tsize, ?_, ?_, ?_, ?_, hpw x.2.1⟩⟩
  · intro j hj h
    rcases f.sub j hj h with h | h
    · exact .inl (List.mem_append_left _ h)
    · rw [hg] at h
      simp only [List.map_append, List.map_cons, List.mem_append, List.mem_cons] at h
      rcases h with h | h | h
      · right; rw [List.map_append, List.mem_append]; exact .inl h
      · left; exact List.mem_append_right _ (List.mem_singleton.2 h)
      · right; rw [List.map_append, List.mem_append]; exact .inr h
  · intro j hj
    rcases List.mem_append.1 hj with h | h
    · exact f.bound j h
    · rw [List.mem_singleton.1 h]; exact g.bound
  · intro j hj hdone
    rcases List.mem_append.1 hj with h | h
    · exact f.downed j h hdone
    · rw [List.mem_singleton.1 h]; exact hx5
  · intro l hl j hj
    exact List.mem_append_left _ (f.acted l hl j hj)
  · intro j hj
    rcases List.mem_append.1 hj with h | h
    · have := f.pends j h
      exact ⟨List.mem_append_left _ this.1, this.2⟩
    · rw [List.mem_singleton.1 h]
      exact ⟨List.mem_append_right _ List.mem_cons_self, hx2⟩
  · intro j hj hnd'
    rcases List.mem_append.1 hj with h | h
    · obtain ⟨o', d'', v', ho', hd'', hN', hl', hq', he', hu'⟩ := f.open_ j h hnd'
      have hdd : d'' ≠ d' := by
        intro e
        subst e
        have := hu' x.1 g.bound hdst
        exact g.fresh (by show x.1 ∈ ahead; rw [this]; exact h)
      refine ⟨o', d'', v', ho', hd'', hN', by rw [look_ne _ _ hdd]; exact hl', hq'.same ho' ?_, he', hu'⟩
      intro t ht
      refine look_ne _ _ ?_
      intro e
      subst e
      exact g.fresh (f.ord.closed j h x.1 (he' _ ht x.1 g.bound hdst))
    · rw [List.mem_singleton.1 h] at hnd'
      exact absurd hx2 hnd'
  · intro t u hu
    by_cases e : t = d'
    · subst e; rw [look_here] at hu; cases hu; exact .inr (.inr htm)
    · rw [look_ne _ _ e] at hu
      rcases f.tmps t u hu with ⟨j, h1, h2, h3⟩ | ⟨y, h1, h2⟩ | h
      · exact .inl ⟨j, List.mem_append_left _ h1, h2, h3⟩
      · refine .inr (.inl ⟨y, ?_, h2⟩)
        rw [hg] at h1
        rcases List.mem_append.1 h1 with h | h
        · exact List.mem_append_left _ h
        · rcases List.mem_cons.1 h with h | h
          · subst h; rw [hdst] at h2; cases h2; exact absurd rfl e
          · exact List.mem_append_right _ h
      · exact .inr (.inr h)
  · intro y hy
    obtain ⟨h1, h2, h3, h4, h5⟩ := f.bags y (hmem y hy)
    have hyx : y.1 ≠ x.1 := fun e => hnx (e ▸ List.mem_map_of_mem hy)
    refine ⟨h1, h2, fun h => ?_, ?_, h5⟩
    · rcases List.mem_append.1 h with h | h
      · exact h3 h
      · exact hyx (List.mem_singleton.1 h)
    · rcases List.mem_cons.1 h4 with h | h
      · injection h with h; exact absurd h hyx
      · exact h
  · rw [List.nodup_append] at hnd
    obtain ⟨hnd1, hnd2, hnd3⟩ := hnd
    rw [List.nodup_cons] at hnd2
    rw [List.map_append, List.nodup_append]
    exact ⟨hnd1, hnd2.2, fun a ha b hb => hnd3 a ha b (List.mem_cons_of_mem _ hb)⟩
  · have h := f.holds
    have e1 : bagRows bag = bagRows g1 ++ row x.2.1 0 x.2.2 :: bagRows g2 := by rw [hg]; simp [bagRows]
    have e2 : bagRows (g1 ++ g2) = bagRows g1 ++ bagRows g2 := by simp [bagRows]
    rw [e1] at h
    rw [e2]
    refine h.imp fun m hm => ?_
    have hm : Stars ((R ++ (S ++ bagRows g1)) ++ ([row x.2.1 0 x.2.2] ++ bagRows g2)) m := by simpa using hm
    obtain ⟨m1, m2, hd, k1, k2, ha, hb⟩ := Stars.append.1 hm
    obtain ⟨n1, n2, hd', k1', k2', ha', hb'⟩ := Stars.append.1 hb
    have : Stars ([row x.2.1 0 x.2.2] ++ ((R ++ (S ++ bagRows g1)) ++ bagRows g2)) m :=
      Stars.append.2 ⟨n1, m1.join n2, Hl.disj_join (hd.disj_le (Hl.le_refl _) k1').disj_symm hd', k1'.le_trans k2, Hl.join_le k1 (k2'.le_trans k2), ha',
        Stars.append.2 ⟨m1, n2, hd.disj_le (Hl.le_refl _) k2', Hl.le_join_left _ _, Hl.le_join_right (hd.disj_le (Hl.le_refl _) k2'), ha, hb'⟩⟩
    simpa using this

theorem FarG.opened : ∀ {rest : List GStep} {ahead : List Nat} {act : Option (List Nat)} {pend : List Nat} {bag : Bag} {E : Env} {R : List HP},
    FarG ω P N ops Q listed a w ahead act pend bag rest E S R → ∃ ahead' act' pend' bag' rest' E' R', FarG ω P N ops Q listed a w ahead' act' pend' bag' rest' E' S R' ∧ (∀ s r, rest' = s :: r → s.acts = true ∨ ∃ i, s = .a i ∧ i ∉ bag'.map (·.1)) := by
  intro rest
  induction rest with
  | nil => intro ahead act pend bag E R f; exact ⟨ahead, act, pend, bag, [], E, R, f, fun s r h => by cases h⟩
  | cons s rest ih =>
    intro ahead act pend bag E R f
    cases s with
    | q i => obtain ⟨act', pend', E', f'⟩ := f.openQ; exact ih f'
    | e i => exact ⟨ahead, act, pend, bag, _, E, R, f, fun s r h => by cases h; exact .inl rfl⟩
    | b i => exact ⟨ahead, act, pend, bag, _, E, R, f, fun s r h => by cases h; exact .inl rfl⟩
    | a i =>
      by_cases hb : i ∈ bag.map (·.1)
      · obtain ⟨act', pend', bag', E', R', f'⟩ := f.openA hb; exact ih f'
      · exact ⟨ahead, act, pend, bag, _, E, R, f, fun s r h => by cases h; exact .inr ⟨i, rfl, hb⟩⟩
end
end
end Go.Proofs.YtnjljfjncfbinaaGreat
