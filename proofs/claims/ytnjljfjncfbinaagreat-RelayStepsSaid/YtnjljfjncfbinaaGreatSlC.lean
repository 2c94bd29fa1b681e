/- The plan with new variables that may be made early: it is sound. -/
import Derived.Test.YtnjljfjncfbinaaGreatSlB
set_option linter.all false
namespace Go.Proofs.YtnjljfjncfbinaaGreat
open Go

section
variable {ω : World} {P : Program} {N : Nat} {ops : Array Oper} {Q : Post}
section
variable {listed : Array Bool} {a : Act} {w : World} {ahead : List Nat} {act : Option (List Nat)} {pend : List Nat} {bag : Bag} {rest : List GStep} {E : Env} {S R : List HP}

theorem FarG.closed (f : FarG ω P N ops Q listed a w ahead act pend bag rest E S R) {i : Nat} (hi : i ∈ ahead) : ∀ j, j ∈ deps ops i → j ∈ ahead := f.ord.closed i hi

theorem put_ne {a : Act} {d t : Nat} {v u : Value} (h : a.tmps[t]? = some u) (e : t ≠ d) : (a.put (some d) v).tmps[t]? = some u := by
  simp only [Act.put]
  rw [Array.getElem?_setIfInBounds_ne (Ne.symm e)]
  exact h
theorem put_at {a : Act} {d : Nat} {v : Value} (h : d < a.tmps.size) : (a.put (some d) v).tmps[d]? = some v := by
  simp only [Act.put]
  rw [Array.getElem?_setIfInBounds_self_of_lt h]

/-- What lies in the bag stays, whatever other slot is written. -/
theorem FarG.bagsPut (f : FarG ω P N ops Q listed a w ahead act pend bag rest E S R) {i d : Nat} {v : Value} (hi : i < ops.size) (hd : dstOf ops i = some d) (hu : ∀ j, j < ops.size → dstOf ops j = some d → j = i) (hni : i ∉ bag.map (·.1)) :
    ∀ x, x ∈ bag → ∃ o d', ops[x.1]? = some o ∧ o.dst = some d' ∧ d' < N ∧ AllocOf P o x.2.2 ∧ (a.put (some d) v).tmps[d']? = some (.pointer (some ⟨x.2.1, 0, none⟩)) := by
  intro x hx
  obtain ⟨h1, _, _, _, _, o, d', ho, hd', hN, hal, ht⟩ := f.bags x hx
  refine ⟨o, d', ho, hd', hN, hal, put_ne ht ?_⟩
  intro e
  subst e
  have := hu x.1 h1 (by rw [dstOf_of ho]; exact hd')
  exact hni (this ▸ List.mem_map_of_mem hx)

theorem FarG.doneQ (f : FarG ω P N ops Q listed a w ahead act pend bag rest E S R) {i : Nat}
    (hi : i ∈ ahead) (hni : ¬ isDone listed i) (hr : ∀ j, j ∈ deps ops i → j < ops.size → isDone listed j) {K : Act → World → Prop}
    (hK : ∀ a' w', FarG ω P N ops Q (listed.setIfInBounds i true) a' w' ahead act pend bag rest E S R → K a' w') : wpOp P ops Q i K a w := by
  obtain ⟨o, d, v, ho, hd, hN, hl, hq, he, hu⟩ := f.open_ i hi hni
  have hib := f.bound i hi
  have hin : i < listed.size := by rw [f.size]; exact hib
  have hdst : dstOf ops i = some d := by rw [dstOf_of ho]; exact hd
  have hnb : i ∉ bag.map (·.1) := by
    intro h
    obtain ⟨x, hx, e⟩ := List.mem_map.1 h
    exact (f.bags x hx).2.2.1 (e ▸ hi)
  have key : ∀ w', Holds ω (R ++ (S ++ bagRows bag)) w' → FarG ω P N ops Q (listed.setIfInBounds i true) (a.put o.dst v) w' ahead act pend bag rest E S R := by
    intro w' hw'
    rw [hd]
    refine ⟨f.ok, by simpa using f.size, f.ord, ?_, f.bound, ?_, f.acted, ?_, ?_, f.defers, by simp [Act.put, f.tsize], ?_, ?_, f.nodup, hw', f.pg⟩
    · intro j hj h
      rcases (getD_set hin).1 h with e | h
      · subst e; exact .inl hi
      · exact f.sub j hj h
    · intro j hj h k hk
      refine (getD_set hin).2 ?_
      rcases (getD_set hin).1 h with e | h
      · subst e; exact .inr (hr k hk (f.bound k (f.ord.closed _ hi k hk)))
      · exact .inr (f.downed j hj h k hk)
    · intro j hj
      exact ⟨(f.pends j hj).1, (getD_set hin).2 (.inr (f.pends j hj).2)⟩
    · intro j hj h
      exact f.open_ j hj fun h' => h ((getD_set hin).2 (.inr h'))
    · intro t u ht
      by_cases e : t = d
      · subst e
        rw [hl] at ht; cases ht
        exact .inr (.inr (put_at (by rw [f.tsize]; exact hN)))
      · rcases f.tmps t u ht with ⟨j, h1, h2, h3⟩ | h | h
        · refine .inl ⟨j, h1, fun h => ?_, h3⟩
          rcases (getD_set hin).1 h with e' | h
          · subst e'
            rw [hdst] at h3
            cases h3; exact e rfl
          · exact h2 h
        · exact .inr (.inl h)
        · exact .inr (.inr (put_ne h e))
    · intro x hx
      obtain ⟨h1, h2, h3, h4, h5, _⟩ := f.bags x hx
      exact ⟨h1, (getD_set hin).2 (.inr h2), h3, h4, fun j hj => (getD_set hin).2 (.inr (h5 j hj)), f.bagsPut hib hdst hu hnb x hx⟩
  have hcl := f.closed hi
  unfold wpOp
  simp only [ho]
  rcases hq with ⟨hw, hoq⟩ | ⟨hw, hv⟩
  · rw [f.wanted ho hcl he hr hw]
    simp only [if_true]
    have hh : Holds ω (S ++ (bagRows bag ++ R)) w := by
      have := f.holds.comm
      rwa [List.append_assoc] at this
    refine .inl (Upon.wp (Upon.mono P ?_ (hoq (bagRows bag ++ R) a.eval (f.eval ho hcl he hr) w hh)))
    rintro v' w' ⟨H', ⟨rfl, rfl⟩, hw'⟩
    rw [← List.append_assoc] at hw'
    exact hK _ _ (key w' hw'.comm)
  · rw [f.wanted ho hcl he hr hw]
    simp only [Bool.false_eq_true, if_false]
    subst hv
    exact hK _ _ (key w f.holds)

/-- A new variable is made, early or in time. -/
theorem FarG.doneA (f : FarG ω P N ops Q listed a w ahead act pend bag rest E S R) {i : Nat} (hin' : GStep.a i ∈ rest) (hni : ¬ isDone listed i) (hi : i < ops.size) (hna : i ∉ ahead)
    (hr : ∀ j, j ∈ deps ops i → j < ops.size → isDone listed j) (hdep : ∀ j, j ∈ deps ops i → j < ops.size)
    (hal : ∃ o d us, ops[i]? = some o ∧ o.dst = some d ∧ d < N ∧ AllocOf P o us ∧ ∀ j, j < ops.size → dstOf ops j = some d → j = i) {K : Act → World → Prop}
    (hK : ∀ a' w' bag', FarG ω P N ops Q (listed.setIfInBounds i true) a' w' ahead act pend bag' rest E S R → K a' w') : wpOp P ops Q i K a w := by
  obtain ⟨o, d, us, ho, hd, hN, hal, hu⟩ := hal
  have hin : i < listed.size := by rw [f.size]; exact hi
  have hdst : dstOf ops i = some d := by rw [dstOf_of ho]; exact hd
  have hnb : i ∉ bag.map (·.1) := by
    intro h
    obtain ⟨x, hx, e⟩ := List.mem_map.1 h
    exact hni (e ▸ (f.bags x hx).2.1)
  have key : ∀ b w', Holds ω (row b 0 us :: (R ++ (S ++ bagRows bag))) w' → FarG ω P N ops Q (listed.setIfInBounds i true) (a.put (some d) (.pointer (some ⟨b, 0, none⟩))) w' ahead act pend ((i, b, us) :: bag) rest E S R := by
    intro b w' hw'
    refine ⟨f.ok, by simpa using f.size, f.ord, ?_, f.bound, ?_, f.acted, ?_, ?_, f.defers, by simp [Act.put, f.tsize], ?_, ?_, ?_, ?_, f.pg⟩
    · intro j hj h
      rcases (getD_set hin).1 h with e | h
      · subst e; right; exact List.mem_cons_self
      · exact (f.sub j hj h).imp id (List.mem_cons_of_mem _)
    · intro j hj h k hk
      refine (getD_set hin).2 (.inr ?_)
      rcases (getD_set hin).1 h with e | h
      · subst e; exact absurd hj hna
      · exact f.downed j hj h k hk
    · intro j hj
      exact ⟨(f.pends j hj).1, (getD_set hin).2 (.inr (f.pends j hj).2)⟩
    · intro j hj h
      exact f.open_ j hj fun h' => h ((getD_set hin).2 (.inr h'))
    · intro t u ht
      by_cases e : t = d
      · subst e
        exact .inr (.inl ⟨(i, b, us), List.mem_cons_self, hdst⟩)
      · rcases f.tmps t u ht with ⟨j, h1, h2, h3⟩ | ⟨x, h1, h2⟩ | h
        · refine .inl ⟨j, h1, fun h => ?_, h3⟩
          rcases (getD_set hin).1 h with e' | h
          · subst e'; exact hna h1
          · exact h2 h
        · exact .inr (.inl ⟨x, List.mem_cons_of_mem _ h1, h2⟩)
        · exact .inr (.inr (put_ne h e))
    · intro x hx
      rcases List.mem_cons.1 hx with e | hx
      · subst e
        exact ⟨hi, (getD_set hin).2 (.inl rfl), hna, hin', fun j hj => (getD_set hin).2 (.inr (hr j hj (hdep j hj))), o, d, ho, hd, hN, hal, put_at (by rw [f.tsize]; exact hN)⟩
      · obtain ⟨h1, h2, h3, h4, h5, _⟩ := f.bags x hx
        exact ⟨h1, (getD_set hin).2 (.inr h2), h3, h4, fun j hj => (getD_set hin).2 (.inr (h5 j hj)), f.bagsPut hi hdst hu hnb x hx⟩
    · rw [List.map_cons, List.nodup_cons]; exact ⟨hnb, f.nodup⟩
    · refine hw'.imp fun m hm => ?_
      have hm : Stars ([row b 0 us] ++ ((R ++ S) ++ bagRows bag)) m := by simpa using hm
      obtain ⟨m1, m2, hd', k1, k2, ha, hb⟩ := Stars.append.1 hm
      obtain ⟨n1, n2, hd2, k1', k2', ha', hb'⟩ := Stars.append.1 hb
      have : Stars ((R ++ S) ++ ([row b 0 us] ++ bagRows bag)) m :=
        Stars.append.2 ⟨n1, m1.join n2, Hl.disj_join (hd'.disj_le (Hl.le_refl _) k1').disj_symm hd2, k1'.le_trans k2, Hl.join_le k1 (k2'.le_trans k2), ha',
          Stars.append.2 ⟨m1, n2, hd'.disj_le (Hl.le_refl _) k2', Hl.le_join_left _ _, Hl.le_join_right (hd'.disj_le (Hl.le_refl _) k2'), ha, hb'⟩⟩
      simpa [bagRows] using this
  obtain ⟨T, z, hop, hg, hz, hus⟩ := hal
  unfold wpOp
  simp only [ho]
  have hw : Region.wanted o (yielded ops a.tmps) = true := by simp [Region.wanted, hg]
  rw [hw]
  simp only [if_true]
  refine .inl (Upon.wp (Upon.mono P ?_ (ot_alloc (E := []) hop hz hus a.eval (fun x _ v h => ?_) w f.holds)))
  · rintro v' w' ⟨H', ⟨b, rfl, rfl⟩, hw'⟩
    rw [hd]
    exact hK _ _ _ (key b w' hw')
  · cases x with
    | tmp t => cases h
    | const u => simpa [Act.eval, ev] using h
    | global g => simpa [Act.eval, ev] using h
    | func g => simpa [Act.eval, ev] using h

theorem FarG.doneE {s : GStep} (f : FarG ω P N ops Q listed a w ahead act pend bag (s :: rest) E S R) (hs : s.acts = true)
    (hr : ∀ j, j ∈ deps ops s.ix → j < ops.size → isDone listed j) {K : Act → World → Prop}
    (hK : ∀ a' w' ahead' act' pend' E' S' R', FarG ω P N ops Q (listed.setIfInBounds s.ix true) a' w' ahead' act' pend' bag rest E' S' R' → K a' w') : wpOp P ops Q s.ix K a w := by
  have hok := f.ok
  have hne := planG_ne hok
  simp only [planOkG, Bool.and_eq_true] at hok
  have g := goodG_of hok.1
  have hin : s.ix < listed.size := by rw [f.size]; exact g.bound
  have hsa : ∀ i, s ≠ .a i := by intro i e; subst e; cases hs
  have hnb : s.ix ∉ bag.map (·.1) := by
    intro h
    obtain ⟨x, hx, e⟩ := List.mem_map.1 h
    obtain ⟨_, _, _, hin, _⟩ := f.bags x hx
    rcases List.mem_cons.1 hin with h | h
    · exact hsa _ h.symm
    · exact hne _ h e
  have hni : ¬ isDone listed s.ix := fun h => (f.sub _ g.bound h).elim g.fresh hnb
  have hact : actG act s = some [s.ix] := by cases s <;> first | rfl | cases hs
  have hpend : pendG pend s = [] := by cases s <;> first | rfl | cases hs
  have hcl := g.deps
  have key : ∀ o, ops[s.ix]? = some o → (∀ d, o.dst = some d → d < N) → ∀ v S' R' w', Holds ω (R' ++ (S' ++ bagRows bag)) w' → PG ω P N ops Q rest (ext o.dst v E) S' R' → (S' = S ∨ ∀ j, j ∈ ahead → isDone listed j) →
      FarG ω P N ops Q (listed.setIfInBounds s.ix true) (a.put o.dst v) w' (ahead ++ [s.ix]) (some [s.ix]) [] bag rest (ext o.dst v E) S' R' := by
    intro o ho hN v S' R' w' hw' hpw hS
    refine ⟨by have := hok.2; rwa [hact, hpend] at this, by simpa using f.size, .snoc f.ord g.deps, ?_, ?_, ?_, ?_, (fun j hj => by cases hj), ?_, ?_, ?_, ?_, ?_, f.nodup, hw', hpw⟩
    · intro j hj h
      rcases (getD_set hin).1 h with e | h
      · subst e; exact .inl (List.mem_append_right _ List.mem_cons_self)
      · exact (f.sub j hj h).imp (List.mem_append_left _) id
    · intro j hj
      rcases List.mem_append.1 hj with h | h
      · exact f.bound j h
      · rw [List.mem_singleton.1 h]; exact g.bound
    · intro j hj h k hk
      refine (getD_set hin).2 (.inr ?_)
      rcases List.mem_append.1 hj with hj | hj
      · rcases (getD_set hin).1 h with e | h
        · subst e; exact absurd hj g.fresh
        · exact f.downed j hj h k hk
      · rw [List.mem_singleton.1 hj] at hk; exact hr k hk (f.bound k (g.deps k hk))
    · intro l hl j hj
      cases hl
      exact List.mem_append_right _ hj
    · intro j hj h
      have hnd : ¬ isDone listed j := fun h' => h ((getD_set hin).2 (.inr h'))
      rcases List.mem_append.1 hj with hj | hj
      · obtain ⟨o', d', v', ho', hd', hN', hl', hq', he', hu'⟩ := f.open_ j hj hnd
        have hSS : S' = S := by
          rcases hS with h | h
          · exact h
          · exact absurd (h j hj) hnd
        subst hSS
        cases hd : o.dst with
        | none => exact ⟨o', d', v', ho', hd', hN', hl', hq', he', hu'⟩
        | some d =>
          have hdst : dstOf ops s.ix = some d := by rw [dstOf_of ho]; exact hd
          refine ⟨o', d', v', ho', hd', hN', ?_, hq'.same ho' ?_, he', hu'⟩
          · refine (look_ne _ _ ?_).trans hl'
            intro e
            subst e
            have := hu' _ g.bound hdst
            exact g.fresh (this ▸ hj)
          · intro t ht
            refine look_ne _ _ ?_
            intro e
            subst e
            exact g.fresh (f.ord.closed j hj _ (he' _ ht _ g.bound hdst))
      · rw [List.mem_singleton.1 hj] at h
        exact absurd ((getD_set hin).2 (.inl rfl)) h
    · cases hd : o.dst with
      | none => exact f.defers
      | some d => exact f.defers
    · cases hd : o.dst with
      | none => exact f.tsize
      | some d => simp [Act.put, f.tsize]
    · intro t u ht
      have old : look t E = some u → (∃ i, i ∈ ahead ++ [s.ix] ∧ ¬ isDone (listed.setIfInBounds s.ix true) i ∧ dstOf ops i = some t) ∨ (∃ x, x ∈ bag ∧ dstOf ops x.1 = some t) ∨ a.tmps[t]? = some u := by
        intro ht
        rcases f.tmps t u ht with ⟨j, h1, h2, h3⟩ | h | h
        · refine .inl ⟨j, List.mem_append_left _ h1, fun h => ?_, h3⟩
          rcases (getD_set hin).1 h with e | h
          · exact g.fresh (e ▸ h1)
          · exact h2 h
        · exact .inr (.inl h)
        · exact .inr (.inr h)
      cases hd : o.dst with
      | none =>
        rw [hd] at ht
        exact old ht
      | some d =>
        rw [hd] at ht
        by_cases e : t = d
        · subst e
          have ht : look t ((t, v) :: E) = some u := ht
          rw [look_here] at ht; cases ht
          exact .inr (.inr (put_at (by rw [f.tsize]; exact hN _ hd)))
        · have ht : look t ((d, v) :: E) = some u := ht
          rw [look_ne _ _ e] at ht
          rcases old ht with h | h | h
          · exact .inl h
          · exact .inr (.inl h)
          · exact .inr (.inr (put_ne h e))
    · intro x hx
      obtain ⟨h1, h2, h3, h4, h5, h6⟩ := f.bags x hx
      refine ⟨h1, (getD_set hin).2 (.inr h2), fun h => ?_, ?_, fun j hj => (getD_set hin).2 (.inr (h5 j hj)), ?_⟩
      · rcases List.mem_append.1 h with h | h
        · exact h3 h
        · exact hnb (List.mem_map.2 ⟨x, hx, List.mem_singleton.1 h⟩)
      · rcases List.mem_cons.1 h4 with h | h
        · exact absurd h.symm (hsa _)
        · exact h
      · cases hd : o.dst with
        | none => exact h6
        | some d =>
          have hdst : dstOf ops s.ix = some d := by rw [dstOf_of ho]; exact hd
          exact f.bagsPut g.bound hdst (g.dst d hdst) hnb x hx
  have run : ∀ o, ops[s.ix]? = some o → ∀ K', EOK ω P ops o E (R ++ (S ++ bagRows bag)) K' → (∀ v H' w', K' v H' → Holds ω H' w' → K (a.put o.dst v) w') → wpOp P ops Q s.ix K a w := by
    intro o ho K' hE hk
    unfold wpOp
    simp only [ho]
    rcases hE with ⟨hw, hoq⟩ | ⟨hw, hv⟩
    · rw [f.wanted ho hcl g.eyes hr hw]
      simp only [if_true]
      refine .inl (Upon.wp (Upon.mono P ?_ (hoq a.eval (f.eval ho hcl g.eyes hr) w f.holds)))
      rintro v' w' ⟨H', hk', hw'⟩
      exact hk _ _ _ hk' hw'
    · rw [f.wanted ho hcl g.eyes hr hw]
      simp only [Bool.false_eq_true, if_false]
      exact hk _ _ _ hv f.holds
  cases s with
  | q i => cases hs
  | a i => cases hs
  | e i =>
    obtain ⟨o, ho, hN, hE⟩ := f.pg
    refine run o ho _ (hE (bagRows bag)) ?_
    rintro v H' w' ⟨R', himp, hpw⟩ hw'
    exact hK _ _ _ _ _ _ _ _ (key o ho hN v S R' w' (hw'.imp himp) hpw (.inl rfl))
  | b i =>
    obtain ⟨o, ho, hN, hE⟩ := f.pg
    have hall := covered_spec (isDone listed) (fun j hj => hr j hj (f.bound j (g.deps j hj))) ahead (g.bar i rfl) (fun j hj => f.downed j hj)
    refine run o ho _ (hE (bagRows bag)) ?_
    rintro v H' w' ⟨S', R', himp, hpw⟩ hw'
    exact hK _ _ _ _ _ _ _ _ (key o ho hN v S' R' w' (hw'.imp himp) hpw (.inr hall))
end

/-- What a new variable in a plan is. -/
theorem planG_alloc : ∀ {rest : List GStep} {ahead : List Nat} {act : Option (List Nat)} {pend : List Nat}, planOkG ops ops.size ahead act pend rest = true → ∀ {i : Nat}, GStep.a i ∈ rest → ∃ ahead', GoodG ops ahead' none [] (.a i) := by
  intro rest
  induction rest with
  | nil => intro _ _ _ _ i h; cases h
  | cons s rest ih =>
    intro ahead act pend h i hi
    simp only [planOkG, Bool.and_eq_true] at h
    rcases List.mem_cons.1 hi with e | hi
    · subst e
      have g := goodG_of h.1
      exact ⟨ahead, g.bound, g.fresh, g.eyes, g.deps, g.dst, fun h => absurd rfl (h i), fun ⟨_, h⟩ => (by cases h), fun h => (by cases h), g.bar⟩
    · exact ih h.2 hi
theorem planG_isAlloc : ∀ {rest : List GStep} {ahead : List Nat} {act : Option (List Nat)} {pend : List Nat}, planOkG ops ops.size ahead act pend rest = true → ∀ {i : Nat}, GStep.a i ∈ rest → isAlloc ops i = true := by
  intro rest
  induction rest with
  | nil => intro _ _ _ _ i h; cases h
  | cons s rest ih =>
    intro ahead act pend h i hi
    simp only [planOkG, Bool.and_eq_true] at h
    rcases List.mem_cons.1 hi with e | hi
    · subst e
      have := h.1
      simp only [stepOkG, Bool.and_eq_true] at this
      exact this.2
    · exact ih h.2 hi

def Allocs (P : Program) (N : Nat) (ops : Array Oper) : Prop := ∀ i, isAlloc ops i = true → ∃ o d us, ops[i]? = some o ∧ o.dst = some d ∧ d < N ∧ AllocOf P o us

theorem FarG.sound (hA : Allocs P N ops) : ∀ (n : Nat) {listed : Array Bool} {a : Act} {w : World} {ahead : List Nat} {act : Option (List Nat)} {pend : List Nat} {bag : Bag} {rest : List GStep} {E : Env} {S R : List HP}, FarG ω P N ops Q listed a w ahead act pend bag rest E S R → undone listed ops.size = n →
    wpAny P .any ops Q n listed a w := by
  intro n
  induction n with
  | zero =>
    intro listed a w ahead act pend bag rest E S R f hn
    have hall : ∀ i, i < ops.size → isDone listed i := by
      intro i hi
      have := List.countP_eq_zero.1 hn i (List.mem_range.2 hi)
      unfold isDone; simpa using this
    obtain ⟨ahead', act', pend', bag', rest', E', R', f', hact⟩ := f.opened
    have hrest : rest' = [] := by
      cases rest' with
      | nil => rfl
      | cons s r =>
        exfalso
        have h := planG_fresh _ _ _ _ f'.ok s List.mem_cons_self
        rcases f'.sub _ h.2 (hall _ h.2) with h' | h'
        · exact h.1 h'
        · rcases hact s r rfl with hs | ⟨i, rfl, hb⟩
          · obtain ⟨x, hx, e⟩ := List.mem_map.1 h'
            obtain ⟨_, _, _, hin, _⟩ := f'.bags x hx
            rcases List.mem_cons.1 hin with h | h
            · subst h; cases hs
            · exact planG_ne f'.ok _ h e
          · exact hb h'
    subst hrest
    have hbag : bag' = [] := by
      cases hb : bag' with
      | nil => rfl
      | cons x r =>
        obtain ⟨_, _, _, hin, _⟩ := f'.bags x (by rw [hb]; exact List.mem_cons_self)
        cases hin
    subst hbag
    refine ⟨?_, ?_⟩
    · apply List.eq_nil_iff_forall_not_mem.2
      intro i hi
      obtain ⟨h1, h2, _⟩ := (mem_ready f.size).1 hi
      exact h2 (hall i h1)
    · have hh := f'.holds
      rw [show bagRows [] = [] from rfl, List.append_nil] at hh
      refine f'.pg a w ⟨f'.defers, f'.tsize, fun t v hv => ?_⟩ hh
      rcases f'.tmps t v hv with ⟨i, h1, h2, _⟩ | ⟨x, hx, _⟩ | h
      · exact absurd (hall i (f'.bound i h1)) h2
      · cases hx
      · exact h
  | succ n ih =>
    intro listed a w ahead act pend bag rest E S R f hn
    obtain ⟨ahead', act', pend', bag', rest', E', R', f', hact⟩ := f.opened
    have hrestnd : ∀ s, s ∈ rest' → ¬ isDone listed s.ix ∨ ∃ i, s = .a i := by
      intro s hs
      have h := planG_fresh _ _ _ _ f'.ok s hs
      by_cases hd : isDone listed s.ix
      · right
        rcases f'.sub _ h.2 hd with h' | h'
        · exact absurd h' h.1
        · obtain ⟨x, hx, e⟩ := List.mem_map.1 h'
          obtain ⟨_, _, _, hin, _⟩ := f'.bags x hx
          refine ⟨x.1, ?_⟩
          -- the two steps are of one operation: they are the same
          have : ∀ (l : List GStep) (ahead : List Nat) (act : Option (List Nat)) (pend : List Nat), planOkG ops ops.size ahead act pend l = true → s ∈ l → GStep.a x.1 ∈ l → s = .a x.1 := by
            intro l
            induction l with
            | nil => intro _ _ _ _ h; cases h
            | cons t l ihl =>
              intro ahead act pend hok h1 h2
              rcases List.mem_cons.1 h1 with e1 | h1
              · rcases List.mem_cons.1 h2 with e2 | h2
                · rw [e1, e2]
                · exact absurd (show (GStep.a x.1).ix = t.ix by rw [← e1]; exact e) (planG_ne hok _ h2)
              · rcases List.mem_cons.1 h2 with e2 | h2
                · exact absurd (show s.ix = t.ix by rw [← e2]; exact e.symm) (planG_ne hok _ h1)
                · simp only [planOkG, Bool.and_eq_true] at hok
                  exact ihl _ _ _ hok.2 h1 h2
          exact this _ _ _ _ f'.ok hs hin
      · exact .inl hd
    refine ⟨?_, ?_⟩
    · intro hnil
      exfalso
      have hex : ∃ i, i < ops.size ∧ ¬ isDone listed i := by
        refine Classical.byContradiction fun hno => ?_
        have : undone listed ops.size = 0 := List.countP_eq_zero.2 fun i hi => by
          have h : isDone listed i := Classical.byContradiction fun h => hno ⟨i, List.mem_range.1 hi, h⟩
          unfold isDone at h; simpa using h
        omega
      have hready : ∃ k, k < ops.size ∧ ¬ isDone listed k ∧ ∀ j, j ∈ deps ops k → listed.getD j false = true := by
        by_cases hin : ∃ i, i ∈ ahead' ∧ ¬ isDone listed i
        · obtain ⟨k, h1, h2, h3⟩ := f'.ord.first (isDone listed) hin
          exact ⟨k, f'.bound k h1, h2, fun j hj => of_done (by rw [f.size]; exact f'.bound j (f'.ord.closed k h1 j hj)) (h3 j hj)⟩
        · have hall : ∀ i, i ∈ ahead' → isDone listed i := fun i hi => Classical.byContradiction fun h => hin ⟨i, hi, h⟩
          obtain ⟨i, hi, hnd⟩ := hex
          rcases planG_cover _ _ _ _ f'.ok i hi with h | ⟨s, hs, _⟩
          · exact absurd (hall i h) hnd
          · cases rest' with
            | nil => cases hs
            | cons s r =>
              have hok := f'.ok
              simp only [planOkG, Bool.and_eq_true] at hok
              have g := goodG_of hok.1
              refine ⟨s.ix, g.bound, fun h => ?_, fun j hj => of_done (by rw [f.size]; exact f'.bound j (g.deps j hj)) (hall j (g.deps j hj))⟩
              rcases f'.sub _ g.bound h with h' | h'
              · exact g.fresh h'
              · rcases hact s r rfl with hs' | ⟨i, rfl, hb⟩
                · obtain ⟨x, hx, e⟩ := List.mem_map.1 h'
                  obtain ⟨_, _, _, hin2, _⟩ := f'.bags x hx
                  rcases List.mem_cons.1 hin2 with h | h
                  · subst h; cases hs'
                  · exact planG_ne f'.ok _ h e
                · exact hb h'
      obtain ⟨k, h1, h2, h3⟩ := hready
      have : k ∈ Region.ready .any ops listed := (mem_ready f.size).2 ⟨h1, h2, h3⟩
      rw [hnil] at this
      cases this
    · intro i hi
      obtain ⟨h1, h2, h3⟩ := (mem_ready f.size).1 hi
      have hcnt := undone_set f.size h1 h2
      have h3' : ∀ j, j ∈ deps ops i → j < ops.size → isDone listed j := fun j hj _ => done_of (h3 j hj)
      rcases planG_cover _ _ _ _ f'.ok i h1 with h | ⟨s, hs, hix⟩
      · exact f'.doneQ h h2 h3' fun a' w' g => ih g (by omega)
      · have hfr := planG_fresh _ _ _ _ f'.ok s hs
        by_cases hsa : ∃ k, s = .a k
        · obtain ⟨k, rfl⟩ := hsa
          have hk : k = i := hix
          subst hk
          obtain ⟨o, d, us, ho, hd, hN, hal⟩ := hA k (planG_isAlloc f'.ok hs)
          obtain ⟨ah, g⟩ := planG_alloc f'.ok hs
          have hdst : dstOf ops k = some d := by rw [dstOf_of ho]; exact hd
          refine f'.doneA hs h2 h1 hfr.1 h3' (fun j hj => ?_) ⟨o, d, us, ho, hd, hN, hal, g.dst d hdst⟩ fun a' w' bag'' g => ih g (by omega)
          have hd := done_of (h3 j hj)
          rcases Nat.lt_or_ge j listed.size with h | h
          · rwa [f.size] at h
          · have := h3 j hj
            rw [Array.getD_eq_getD_getElem?, Array.getElem?_eq_none h] at this; cases this
        · cases rest' with
          | nil => cases hs
          | cons s0 r =>
            rcases List.mem_cons.1 hs with e | hs2
            · subst e
              subst hix
              rcases hact _ _ rfl with hs' | ⟨k, hk, _⟩
              · exact f'.doneE hs' h3' fun a' w' _ _ _ _ _ _ g => ih g (by omega)
              · exact absurd ⟨k, hk⟩ hsa
            · exfalso
              have hok := f'.ok
              simp only [planOkG, Bool.and_eq_true] at hok
              have hna : ∀ k, s ≠ .a k := fun k e => hsa ⟨k, e⟩
              have hr' : ∀ s, s ∈ r → ¬ isDone listed s.ix ∨ ∃ i, s = .a i := fun x hx => hrestnd x (List.mem_cons_of_mem _ hx)
              have hlate : ∃ j, j ∈ deps ops s.ix ∧ ¬ isDone listed j := by
                rcases hact _ _ rfl with hs' | ⟨k, rfl, hb⟩
                · have h0 : ¬ isDone listed s0.ix := by
                    rcases hrestnd s0 List.mem_cons_self with h | ⟨k, hk⟩
                    · exact h
                    · subst hk; cases hs'
                  have ha : actG act' s0 = some [s0.ix] := by cases s0 <;> first | rfl | cases hs'
                  have h2' := hok.2
                  rw [ha] at h2'
                  exact planG_late (isDone listed) r _ [s0.ix] _ h2' (fun j hj => by rw [List.mem_singleton.1 hj]; exact h0) hr' s hs2 hna
                · have g := goodG_of hok.1
                  have h0 : ¬ isDone listed k := by
                    intro hd
                    rcases f'.sub k g.bound hd with h' | h'
                    · exact g.fresh h'
                    · exact hb h'
                  exact planG_pend (isDone listed) k h0 r _ _ _ hok.2 (List.mem_append_right _ List.mem_cons_self) hr' s hs2 hna
              obtain ⟨j, hj, hnj⟩ := hlate
              rw [hix] at hj
              exact hnj (done_of (h3 j hj))

/-- A region that draws its order, by such a plan. -/
theorem ct_planG {id : Nat} {E : Env} {H : List HP} (plan : List GStep) (S R : List HP) (hm : P.follows .mixedOrders = true) (hA : Allocs P N ops) (hok : planOkG ops ops.size [] none [] plan = true) (s : Sees H (R ++ S))
    (h : PG ω P N ops Q plan E S R) : CT ω P N (.region id ops true) E H Q := by
  intro a w ha hw
  refine wp_region_any hm (FarG.sound (ω := ω) (N := N) hA _ (ahead := []) (act := none) (pend := []) (bag := []) (rest := plan) (E := E) (S := S) (R := R) ?_ (undone_start _))
  have hnd : ∀ i, i < ops.size → ¬ isDone (Array.replicate ops.size false) i := by
    intro i hi h
    unfold isDone at h
    simp [hi] at h
  refine ⟨hok, by simp, .nil, fun i hi h => absurd h (hnd i hi), (fun i h => by cases h), (fun i h => by cases h), (fun l h => by cases h), (fun i h => by cases h), (fun i h => by cases h), ha.d, ha.n, fun t v hv => .inr (.inr (ha.e t v hv)), (fun x h => by cases h), List.nodup_nil, ?_, h⟩
  rw [show bagRows [] = [] from rfl, List.append_nil]
  exact (hw.sees s).same rfl

inductive AllocsL (P : Program) (N : Nat) (ops : Array Oper) : List Nat → Prop where
  | nil : AllocsL P N ops []
  | cons {i : Nat} {l : List Nat} : (∃ o d us, ops[i]? = some o ∧ o.dst = some d ∧ d < N ∧ AllocOf P o us) → AllocsL P N ops l → AllocsL P N ops (i :: l)
theorem allocsL_cons {i : Nat} {l : List Nat} {o : Oper} {d : Tmp} {T : TypeId} {z : Value} (ho : ops[i]? = some o) (hd : o.dst = some d) (hN : Nat.blt d N = true) (hop : o.op = .alloc T) (hg : o.guard = none) (hz : ∀ w, (zeroValue T).run P w = .ok z w) (h : AllocsL P N ops l) : AllocsL P N ops (i :: l) :=
  .cons ⟨o, d, z.cells.toList, ho, hd, Nat.lt_of_lt_of_le (Nat.lt_succ_self d) (Nat.le_of_ble_eq_true hN), T, z, hop, hg, hz, rfl⟩ h
theorem AllocsL.mem {l : List Nat} (h : AllocsL P N ops l) : ∀ i, i ∈ l → ∃ o d us, ops[i]? = some o ∧ o.dst = some d ∧ d < N ∧ AllocOf P o us := by
  induction h with
  | nil => intro i h; cases h
  | cons h _ ih =>
    intro i hi
    rcases List.mem_cons.1 hi with e | hi
    · subst e; exact h
    · exact ih i hi
theorem allocs_of (l : List Nat) (h : AllocsL P N ops l) (hl : ((List.range ops.size).all fun i => !(isAlloc ops i) || l.contains i) = true) : Allocs P N ops := by
  intro i hi
  have hlt : i < ops.size := by
    rcases Nat.lt_or_ge i ops.size with h | h
    · exact h
    · unfold isAlloc at hi; rw [Array.getElem?_eq_none h] at hi; cases hi
  have := List.all_eq_true.1 hl i (List.mem_range.2 hlt)
  rw [hi] at this
  exact h.mem i (by simpa using this)
theorem pg_nil {E : Env} {S R : List HP} (h : XT ω N .normal E (R ++ S) Q) : PG ω P N ops Q [] E S R := h
theorem pg_q {i : Nat} {rest : List GStep} {E : Env} {S R : List HP} {o : Oper} {d : Tmp} {v : Value} (ho : ops[i]? = some o) (hd : o.dst = some d) (hN : Nat.blt d N = true) (hg : wantedE ops o E = some true) (hq : OQ ω P o E S v)
    (h : PG ω P N ops Q rest ((d, v) :: E) S R) : PG ω P N ops Q (.q i :: rest) E S R := ⟨o, d, v, ho, hd, Nat.lt_of_lt_of_le (Nat.lt_succ_self d) (Nat.le_of_ble_eq_true hN), .inl ⟨hg, hq⟩, h⟩
theorem pg_u {i : Nat} {rest : List GStep} {E : Env} {S R : List HP} {o : Oper} {d : Tmp} (ho : ops[i]? = some o) (hd : o.dst = some d) (hN : Nat.blt d N = true) (hg : wantedE ops o E = some false)
    (h : PG ω P N ops Q rest ((d, undef) :: E) S R) : PG ω P N ops Q (.q i :: rest) E S R := ⟨o, d, undef, ho, hd, Nat.lt_of_lt_of_le (Nat.lt_succ_self d) (Nat.le_of_ble_eq_true hN), .inr ⟨hg, rfl⟩, h⟩
theorem pg_e {i : Nat} {rest : List GStep} {E : Env} {S R : List HP} {o : Oper} {d : Tmp} (ho : ops[i]? = some o) (hd : o.dst = some d) (hN : Nat.blt d N = true) (hg : wantedE ops o E = some true)
    (hq : ∀ G, OT ω P o E (R ++ (S ++ G)) fun v H' => ∃ R', Sees H' (R' ++ (S ++ G)) ∧ PG ω P N ops Q rest ((d, v) :: E) S R') : PG ω P N ops Q (.e i :: rest) E S R := by
  refine ⟨o, ho, fun d' hd' => ?_, fun G => .inl ⟨hg, OT.mono ω P (hq G) fun v H' hk => ?_⟩⟩
  · rw [hd] at hd'; cases hd'; exact Nat.lt_of_lt_of_le (Nat.lt_succ_self d) (Nat.le_of_ble_eq_true hN)
  · obtain ⟨R', s, hp⟩ := hk
    exact ⟨R', s.out, by rw [hd]; exact hp⟩
theorem pg_e0 {i : Nat} {rest : List GStep} {E : Env} {S R : List HP} {o : Oper} (ho : ops[i]? = some o) (hd : o.dst = none) (hg : wantedE ops o E = some true)
    (hq : ∀ G, OT ω P o E (R ++ (S ++ G)) fun _ H' => ∃ R', Sees H' (R' ++ (S ++ G)) ∧ PG ω P N ops Q rest E S R') : PG ω P N ops Q (.e i :: rest) E S R := by
  refine ⟨o, ho, fun d' hd' => ?_, fun G => .inl ⟨hg, OT.mono ω P (hq G) fun v H' hk => ?_⟩⟩
  · rw [hd] at hd'; cases hd'
  · obtain ⟨R', s, hp⟩ := hk
    exact ⟨R', s.out, by rw [hd]; exact hp⟩
theorem pg_b {i : Nat} {rest : List GStep} {E : Env} {S R : List HP} {o : Oper} {d : Tmp} (ho : ops[i]? = some o) (hd : o.dst = some d) (hN : Nat.blt d N = true) (hg : wantedE ops o E = some true)
    (hq : ∀ G, OT ω P o E (R ++ (S ++ G)) fun v H' => ∃ S', Sees H' (S' ++ G) ∧ PG ω P N ops Q rest ((d, v) :: E) S' []) : PG ω P N ops Q (.b i :: rest) E S R := by
  refine ⟨o, ho, fun d' hd' => ?_, fun G => .inl ⟨hg, OT.mono ω P (hq G) fun v H' hk => ?_⟩⟩
  · rw [hd] at hd'; cases hd'; exact Nat.lt_of_lt_of_le (Nat.lt_succ_self d) (Nat.le_of_ble_eq_true hN)
  · obtain ⟨S', s, hp⟩ := hk
    exact ⟨S', [], s.out, by rw [hd]; exact hp⟩
theorem pg_b0 {i : Nat} {rest : List GStep} {E : Env} {S R : List HP} {o : Oper} (ho : ops[i]? = some o) (hd : o.dst = none) (hg : wantedE ops o E = some true)
    (hq : ∀ G, OT ω P o E (R ++ (S ++ G)) fun _ H' => ∃ S', Sees H' (S' ++ G) ∧ PG ω P N ops Q rest E S' []) : PG ω P N ops Q (.b i :: rest) E S R := by
  refine ⟨o, ho, fun d' hd' => ?_, fun G => .inl ⟨hg, OT.mono ω P (hq G) fun v H' hk => ?_⟩⟩
  · rw [hd] at hd'; cases hd'
  · obtain ⟨S', s, hp⟩ := hk
    exact ⟨S', [], s.out, by rw [hd]; exact hp⟩
theorem pg_a {i : Nat} {rest : List GStep} {E : Env} {S R : List HP} {o : Oper} {d : Tmp} {T : TypeId} {z : Value} {us : List Value} (ho : ops[i]? = some o) (hd : o.dst = some d) (hN : Nat.blt d N = true) (hop : o.op = .alloc T) (hg : o.guard = none) (hz : ∀ w, (zeroValue T).run P w = .ok z w) (hu : z.cells.toList = us)
    (h : ∀ b, PG ω P N ops Q rest ((d, .pointer (some ⟨b, 0, none⟩)) :: E) S (row b 0 us :: R)) : PG ω P N ops Q (.a i :: rest) E S R :=
  ⟨o, d, us, ho, hd, Nat.lt_of_lt_of_le (Nat.lt_succ_self d) (Nat.le_of_ble_eq_true hN), ⟨T, z, hop, hg, hz, hu⟩, h⟩
theorem pg_split {rest : List GStep} {E : Env} {S R : List HP} {d : Nat} {b : Bool} (ht : b = true → PG ω P N ops Q rest ((d, .bool true) :: E) S R) (hf : b = false → PG ω P N ops Q rest ((d, .bool false) :: E) S R) : PG ω P N ops Q rest ((d, .bool b) :: E) S R := by
  cases b
  · exact hf rfl
  · exact ht rfl
theorem pg_split_d {rest : List GStep} {E : Env} {S R : List HP} {d : Nat} {p : Prop} [Decidable p] (ht : p → PG ω P N ops Q rest ((d, .bool true) :: E) S R) (hf : ¬ p → PG ω P N ops Q rest ((d, .bool false) :: E) S R) : PG ω P N ops Q rest ((d, .bool (decide p)) :: E) S R :=
  pg_split (fun e => ht (of_decide_eq_true e)) (fun e => hf (of_decide_eq_false e))
theorem pg_split_n {rest : List GStep} {E : Env} {S R : List HP} {d : Nat} {p : Prop} [Decidable p] (ht : ¬ p → PG ω P N ops Q rest ((d, .bool true) :: E) S R) (hf : p → PG ω P N ops Q rest ((d, .bool false) :: E) S R) : PG ω P N ops Q rest ((d, .bool (!decide p)) :: E) S R :=
  pg_split (fun e => ht (of_decide_eq_false (by simpa using e))) (fun e => hf (of_decide_eq_true (by simpa using e)))
theorem pg_split_b {rest : List GStep} {E : Env} {S R : List HP} {d : Nat} {b : Bool} (ht : b = false → PG ω P N ops Q rest ((d, .bool true) :: E) S R) (hf : b = true → PG ω P N ops Q rest ((d, .bool false) :: E) S R) : PG ω P N ops Q rest ((d, .bool (!b)) :: E) S R :=
  pg_split (fun e => ht (by simpa using e)) (fun e => hf (by simpa using e))
section
variable {rest : List GStep} {i : Nat} {E : Env} {S R : List HP} {o : Oper} {d : Tmp} {f : FuncId} {fn : Func} {c : Code} {x : Operand} {xs : Array Operand} {ts : Array TypeId} {vs l cp : List Value} {N' : Nat}
theorem pgb_call (hi : ops[i]? = some o) (ho : o.op = .call ⟨.value (.func f), xs, ts⟩) (hd : o.dst = some d) (hN : Nat.blt d N = true)
    (hc : ∀ args w, (callFunc f args).run P w = .ok (.enter f args) w) (hx : evs E xs.toList = some vs) (hf : P.funcs[f]? = some fn) (hb : fn.body = some c) (hn : fn.ntmps = N') (hs : Nat.ble vs.length N' = true) (hg : wantedE ops o E = some true)
    (h : ∀ G, CT ω P N' c (argEnv 0 vs) (R ++ (S ++ G)) (FinQ ω P fn fun v H' => ∃ S', Sees H' (S' ++ G) ∧ PG ω P N ops Q rest ((d, v) :: E) S' [])) : PG ω P N ops Q (.b i :: rest) E S R :=
  pg_b hi hd hN hg (fun G => ot_call ho hc hx .refl (spec_of_list hf hb hn hs (h G)))
theorem pge_call (hi : ops[i]? = some o) (ho : o.op = .call ⟨.value (.func f), xs, ts⟩) (hd : o.dst = some d) (hN : Nat.blt d N = true)
    (hc : ∀ args w, (callFunc f args).run P w = .ok (.enter f args) w) (hx : evs E xs.toList = some vs) (hf : P.funcs[f]? = some fn) (hb : fn.body = some c) (hn : fn.ntmps = N') (hs : Nat.ble vs.length N' = true) (hg : wantedE ops o E = some true)
    (h : ∀ G, CT ω P N' c (argEnv 0 vs) (R ++ (S ++ G)) (FinQ ω P fn fun v H' => ∃ R', Sees H' (R' ++ (S ++ G)) ∧ PG ω P N ops Q rest ((d, v) :: E) S R')) : PG ω P N ops Q (.e i :: rest) E S R :=
  pg_e hi hd hN hg (fun G => ot_call ho hc hx .refl (spec_of_list hf hb hn hs (h G)))
end
end
end Go.Proofs.YtnjljfjncfbinaaGreat
