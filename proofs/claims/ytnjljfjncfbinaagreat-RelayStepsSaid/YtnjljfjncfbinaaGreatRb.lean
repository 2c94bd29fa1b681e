/- Contract: all that live go on, round by round. -/
import Derived.Test.YtnjljfjncfbinaaGreatSq
import Derived.Test.YtnjljfjncfbinaaGreatSc
set_option linter.all false
namespace Go.Proofs.YtnjljfjncfbinaaGreat
open Go Go.Proofs
set_option maxRecDepth 100000
set_option linter.unusedVariables false
attribute [local irreducible] RL CT XT OQ OT PW PG PV Upon wpL

theorem MKok.next_gen {K : MK} (hk : MKok K) (ω : World) (b : Nat) (s : K.S) (F : List HP) : Spec ω Tryz.prog K.fN #[.pointer (some ⟨b, 0, none⟩)] (K.rep b s :: F) fun v' H' =>
    ∃ (a : AccD) (more : Bool) (X : HP) (p : Option Addr) (m c : Nat), v' = .tuple #[accV a p m c, .bool more] ∧ (∀ μ, X μ → K.rep b s μ) ∧ K.want s = (if more = true then some a else none) ∧ H' = X :: F := by
  refine (hk.next ω b s F).seesPost ?_
  rintro v H' ⟨ac, more, X, p, m, c, rfl, rfl, hrd, hi, hs, hW⟩
  exact ⟨_, ⟨ac, more, X, p, _, c, rfl, hi, hW, rfl⟩, hs⟩
/-- Where the rounds stand. -/
structure RQ where
  pre : List MS
  rest : List MS
  m : List Int
  n : Nat
  g : Bool
  pt : Option Addr
  tc : Nat
  ts : List Value
abbrev RGoal := List Int × List MS × Nat × Bool × Bool
structure RQok (most ex tn n0 : Nat) (abs : List Nat) (goal : RGoal) (q : RQ) : Prop where
  hg : rnd most q.pre q.rest q.m q.n q.g = some goal
  hl : q.pre.length + q.rest.length = abs.length
  hn : q.n ≤ most
  h0 : n0 ≤ q.n
  h1 : q.g = true → n0 < q.n
  hi : ∀ x, x ∈ q.pre ++ q.rest → x.K.inv (ex + (most - q.n)) x.s
  hk : ∀ x, x ∈ q.pre ++ q.rest → MKok x.K
theorem RQok.none {most ex tn n0 : Nat} {abs : List Nat} {goal : RGoal} {pre r : List MS} {x : MS} {m : List Int} {n : Nat} {g : Bool} {pt : Option Addr} {tc : Nat} {ts : List Value} (h : RQok most ex tn n0 abs goal ⟨pre, x :: r, m, n, g, pt, tc, ts⟩)
    (hw : x.K.want x.s = none ∨ x.dead = true) : RQok most ex tn n0 abs goal ⟨pre ++ [x], r, m, n, g, pt, tc, ts⟩ := by
  refine ⟨?_, by have := h.hl; simp at this ⊢; omega, h.hn, h.h0, h.h1, by have := h.hi; simpa using this, by have := h.hk; simpa using this⟩
  have hg := h.hg
  dsimp only at hg ⊢
  simp only [rnd] at hg
  rcases hw with hw | hw
  · rw [hw] at hg; exact hg
  · rw [hw] at hg
    cases e : x.K.want x.s with
    | none => rw [e] at hg; exact hg
    | some a => rw [e] at hg; exact hg
theorem RQok.full {most ex tn n0 : Nat} {abs : List Nat} {goal : RGoal} {pre r : List MS} {x : MS} {m : List Int} {n : Nat} {g : Bool} {pt : Option Addr} {tc : Nat} {ts : List Value} (h : RQok most ex tn n0 abs goal ⟨pre, x :: r, m, n, g, pt, tc, ts⟩)
    {a : AccD} (hw : x.K.want x.s = some a) (hd : x.dead = false) (hn : most ≤ n) : goal = (m, pre ++ x :: r, n, g, true) := by
  have hg := h.hg
  dsimp only at hg
  simp only [rnd, hw, hd, cond_false] at hg
  rw [Nat.ble_eq_true_of_le hn] at hg
  simpa using hg.symm
theorem RQok.step {most ex tn n0 : Nat} {abs : List Nat} {goal : RGoal} {pre r : List MS} {x : MS} {m : List Int} {n : Nat} {g : Bool} {pt : Option Addr} {tc : Nat} {ts : List Value} (h : RQok most ex tn n0 abs goal ⟨pre, x :: r, m, n, g, pt, tc, ts⟩)
    {a : AccD} (hw : x.K.want x.s = some a) (hd : x.dead = false) (hn : n < most) : ∃ m' y k, mdo m a = some (m', y) ∧ a.data.length ≤ 8 ∧ ex + (most - n) = k + 1 ∧ x.K.inv (k + 1) x.s ∧ inK .u64 y.v ∧ y.data.length ≤ 8 ∧
      ∀ pt' tc' ts', RQok most ex tn n0 abs goal ⟨pre ++ [⟨x.K, x.mb, x.K.take x.s y, false⟩], r, m', n + 1, true, pt', tc', ts'⟩ := by
  have hg := h.hg
  dsimp only at hg
  simp only [rnd, hw, hd, cond_false] at hg
  have hb : Nat.ble most n = false := by
    cases e : Nat.ble most n with
    | false => rfl
    | true => have := Nat.le_of_ble_eq_true e; omega
  rw [hb] at hg
  simp only [cond_false] at hg
  cases e : mdoc m a with
  | none => rw [e] at hg; cases hg
  | some z =>
    obtain ⟨m', y⟩ := z
    rw [e] at hg
    obtain ⟨e1, e2⟩ := mdoc_some e
    obtain ⟨e3, e4⟩ := mdo_ans e2
    have hix := h.hi x (by simp)
    dsimp only at hix
    refine ⟨m', y, ex + (most - n) - 1, e2, e1, by omega, by rw [show ex + (most - n) - 1 + 1 = ex + (most - n) from by omega]; exact hix, e3, e4, fun pt' tc' ts' => ?_⟩
    have hkx := h.hk x (by simp)
    refine ⟨hg, by have := h.hl; simp at this ⊢; omega, by dsimp only; omega, by have := h.h0; dsimp only at this ⊢; omega, fun _ => by have := h.h0; dsimp only at this ⊢; omega, ?_, ?_⟩
    · intro z hz
      have hi := h.hi
      dsimp only at hi hz ⊢
      have hmono : ∀ z : MS, MKok z.K → z.K.inv (ex + (most - n)) z.s → z.K.inv (ex + (most - (n + 1))) z.s := by
        intro z hz h
        rw [show ex + (most - n) = ex + (most - (n + 1)) + 1 from by omega] at h
        exact hz.inv_mono _ _ h
      rw [List.append_assoc] at hz
      rcases List.mem_append.1 hz with hz | hz
      · exact hmono z (h.hk z (by simp [hz])) (hi z (by simp [hz]))
      · rcases List.mem_cons.1 hz with e | hz
        · subst e
          have := hkx.inv_take (ex + (most - (n + 1))) x.s y (by rw [show ex + (most - (n + 1)) + 1 = ex + (most - n) from by omega]; exact hix) (by rw [hw]; exact Option.some_ne_none _) e3 e4
          exact this
        · replace hz : z ∈ r := hz
          exact hmono z (h.hk z (by simp [hz])) (hi z (by simp [hz]))
    · intro z hz
      have hk := h.hk
      dsimp only at hk hz
      rw [List.append_assoc] at hz
      rcases List.mem_append.1 hz with hz | hz
      · exact hk z (by simp [hz])
      · rcases List.mem_cons.1 hz with e | hz
        · subst e; exact hkx
        · replace hz : z ∈ r := hz
          exact hk z (by simp [hz])
theorem RQok.end_ {most ex tn n0 : Nat} {abs : List Nat} {goal : RGoal} {pre : List MS} {m : List Int} {n : Nat} {g : Bool} {pt : Option Addr} {tc : Nat} {ts : List Value} (h : RQok most ex tn n0 abs goal ⟨pre, [], m, n, g, pt, tc, ts⟩) : goal = (m, pre, n, g, false) := by
  have hg := h.hg
  simp only [rnd] at hg
  simpa using hg.symm
structure OQ2 where
  f : Nat
  l : List MS
  m : List Int
  n : Nat
  g : Bool
  pt : Option Addr
  tc : Nat
  ts : List Value
structure OQok2 (most ex : Nat) (abs : List Nat) (goal : List Int × List MS × Nat) (q : OQ2) : Prop where
  hg : q.g = true → robin most q.f q.l q.m q.n = some goal
  hx : q.g = false → goal = (q.m, q.l, q.n)
  hl : q.l.length = abs.length
  hn : q.n ≤ most
  hi : ∀ x, x ∈ q.l → x.K.inv (ex + (most - q.n)) x.s
  hk : ∀ x, x ∈ q.l → MKok x.K
theorem OQok2.start {most ex tn : Nat} {abs : List Nat} {goal : List Int × List MS × Nat} {f : Nat} {l : List MS} {m : List Int} {n : Nat} {pt : Option Addr} {tc : Nat} {ts : List Value} (h : OQok2 most ex abs goal ⟨f, l, m, n, true, pt, tc, ts⟩) :
    ∃ (f' : Nat) (r : RGoal), f = f' + 1 ∧ RQok most ex tn n abs r ⟨[], l, m, n, false, pt, tc, ts⟩ ∧ (r.2.2.2.2 = true → goal = (r.1, r.2.1, r.2.2.1)) ∧ (r.2.2.2.2 = false → r.2.2.2.1 = true → robin most f' r.2.1 r.1 r.2.2.1 = some goal) ∧ (r.2.2.2.2 = false → r.2.2.2.1 = false → goal = (r.1, r.2.1, r.2.2.1)) := by
  have hg := h.hg rfl
  dsimp only at hg
  cases f with
  | zero => cases hg
  | succ f' =>
    simp only [robin] at hg
    cases e : rnd most [] l m n false with
    | none => rw [e] at hg; cases hg
    | some r =>
      rw [e] at hg
      refine ⟨f', r, rfl, ⟨e, by have := h.hl; simpa using this, h.hn, Nat.le_refl _, fun h => (by cases h), by have := h.hi; simpa using this, by have := h.hk; simpa using this⟩, ?_, ?_, ?_⟩
      all_goals obtain ⟨m', l', n', g', st⟩ := r
      · intro hs; dsimp only at hs; subst hs
        simpa using hg.symm
      · intro hs hg'; dsimp only at hs hg'; subst hs; subst hg'; exact hg
      · intro hs hg'; dsimp only at hs hg'; subst hs; subst hg'
        simpa using hg.symm
theorem abs_split {abs : List Nat} {k : Nat} (h : k < abs.length) : ∃ a1 ab a2, abs = a1 ++ ab :: a2 ∧ a1.length = k ∧ abs[k]? = some ab := by
  refine ⟨abs.take k, abs[k], abs.drop (k + 1), by simp, by simp; omega, List.getElem?_eq_getElem h⟩
theorem aptrs_get {abs : List Nat} {k ab : Nat} (h : abs[k]? = some ab) : (aptrs abs)[k]? = some (.pointer (some ⟨ab, 0, none⟩)) := by simp [aptrs, h]

theorem RQok.outer {most ex tn n0 : Nat} {abs : List Nat} {pre : List MS} {m : List Int} {n : Nat} {g : Bool} {pt : Option Addr} {tc : Nat} {ts : List Value} {f : Nat} {goal : List Int × List MS × Nat} (h : RQok most ex tn n0 abs (m, pre, n, g, false) ⟨pre, [], m, n, g, pt, tc, ts⟩)
    (hgo : (m, pre, n, g, false).2.2.2.2 = false → (m, pre, n, g, false).2.2.2.1 = true → robin most f (m, pre, n, g, false).2.1 (m, pre, n, g, false).1 (m, pre, n, g, false).2.2.1 = some goal) (hen : (m, pre, n, g, false).2.2.2.2 = false → (m, pre, n, g, false).2.2.2.1 = false → goal = ((m, pre, n, g, false).1, (m, pre, n, g, false).2.1, (m, pre, n, g, false).2.2.1)) :
    OQok2 most ex abs goal ⟨f, pre, m, n, g, pt, tc, ts⟩ :=
  ⟨fun h => hgo rfl h, fun h => hen rfl h, by have := h.hl; simpa using this, h.hn, by have := h.hi; simpa using this, by have := h.hk; simpa using this⟩
theorem inv_down {K : MK} (hk : MKok K) {s : K.S} {ex : Nat} : ∀ k, K.inv (ex + k) s → K.inv ex s := by
  intro k
  induction k with
  | zero => exact id
  | succ k ih => intro h; exact ih (hk.inv_mono _ _ h)
theorem RQok.hi1 {most ex tn n0 : Nat} {abs : List Nat} {goal : RGoal} {q : RQ} (h : RQok most ex tn n0 abs goal q) : ∀ x, x ∈ q.pre ++ q.rest → x.K.inv ex x.s := fun x hx => inv_down (h.hk x hx) _ (h.hi x hx)
theorem OQok2.hi1 {most ex : Nat} {abs : List Nat} {goal : List Int × List MS × Nat} {q : OQ2} (h : OQok2 most ex abs goal q) : ∀ x, x ∈ q.l → x.K.inv ex x.s := fun x hx => inv_down (h.hk x hx) _ (h.hi x hx)
theorem ct_ownsome {ω : World} {P : Program} {N : Nat} {E : Env} {H L : List HP} {Q : Post} {cd : Code} {es n c : Nat} {p : Option Addr} {xs : List Value} (s : Sel H (own es p n c xs) L) (hn : 0 < n) (h : ∀ b o, p = some ⟨b, o, none⟩ → CT ω P N cd E H Q) : CT ω P N cd E H Q := by
  refine ct_own s fun _ _ h3 => ?_
  rcases h3 with h3 | ⟨b, o, e⟩
  · omega
  · exact h b o e
set_option maxHeartbeats 1000000 in
theorem robin_spec (ω : World) (wd bb most ex tn : Nat) (abs : List Nat) (l0 : List MS) (m0 : List Int) (f0 : Nat) (goal : List Int × List MS × Nat) (hgoal : robin most f0 l0 m0 0 = some goal) (hlen : l0.length = abs.length) (hks : ∀ x, x ∈ l0 → MKok x.K) (hinv : ∀ x, x ∈ l0 → x.K.inv (ex + (most - 0)) x.s) (hal : abs.length ≤ 1000000) (hmost : most ≤ 100000000) (htn : tn ≤ 100000000) (pa pt0 : Option Addr) (ca tc0 : Nat) (ts0 : List Value) (W2 : Value) (F : List HP) : Spec ω Tryz.prog 21 #[.pointer (some ⟨wd, 0, none⟩), .int .i64 (most : Int)] (row wd 0 [.pointer (some ⟨bb, 0, none⟩), .slice pa abs.length ca, W2, .slice pt0 (tn + 0) tc0] :: own 12 pt0 (tn + 0) tc0 ts0 :: own 1 pa abs.length ca (aptrs abs) :: pack (arows abs (l0)) :: pack (mreps (l0)) :: bufRep bb m0 :: F) fun v' H' => ∃ pt' tc' ts', v' = .int .i64 (goal.2.2 : Int) ∧ (∀ x, x ∈ goal.2.1 → x.K.inv ex x.s) ∧ H' = row wd 0 [.pointer (some ⟨bb, 0, none⟩), .slice pa abs.length ca, W2, .slice pt' (tn + goal.2.2) tc'] :: own 12 pt' (tn + goal.2.2) tc' ts' :: own 1 pa abs.length ca (aptrs abs) :: pack (arows abs (goal.2.1)) :: pack (mreps (goal.2.1)) :: bufRep bb goal.1 :: F := by
  refine spec_of_body Tryz.func21 rfl Tryz.ntmps21 rfl ?_
  refine Cr ?_
  refine Rp rfl (pv_assign rfl) ?_
  refine Kn2 0 1 rfl ?_
  refine Cr ?_
  refine Rp rfl (pv_assign rfl) ?_
  refine Kn3 0 1 5 rfl ?_
  refine ct_seq ?_
  refine Cr ?_
  refine Rp rfl (pv_move rfl) ?_
  refine Rp rfl (pv_neq rfl rfl Tryz.runUnderlying57 rfl) ?_
  refine Rp rfl (pv_assign rfl) ?_
  refine Kn4 0 1 5 6 rfl ?_
  refine ct_block ?_
  refine ct_loop (α := { q : OQ2 // OQok2 most ex abs goal q }) (fun q => [(0, .pointer (some ⟨wd, 0, none⟩)), (1, .int .i64 (most : Int)), (5, .int .i64 (q.1.n : Int)), (6, .bool (q.1.g))]) (fun q => row wd 0 [.pointer (some ⟨bb, 0, none⟩), .slice pa abs.length ca, W2, .slice q.1.pt (tn + q.1.n) q.1.tc] :: own 12 q.1.pt (tn + q.1.n) q.1.tc q.1.ts :: own 1 pa abs.length ca (aptrs abs) :: pack (arows abs (q.1.l)) :: pack (mreps (q.1.l)) :: bufRep bb q.1.m :: F) (fun q => most - q.1.n + (bif q.1.g then 1 else 0)) ⟨⟨f0, l0, m0, 0, true, pt0, tc0, ts0⟩, ⟨fun _ => hgoal, fun h => (by cases h), hlen, Nat.zero_le _, hinv, hks⟩⟩ (Knows.cons rfl (Knows.cons rfl (Knows.cons rfl (Knows.cons rfl (Knows.nil))))) (Sees.refl) ?_
  intro ⟨⟨f, l, m, n, g, pt, tc, ts⟩, hq⟩
  dsimp only at hq ⊢
  refine ct_seq ?_
  refine Cr ?_
  refine Rp rfl (pv_move rfl) ?_
  refine Kn4 0 1 5 13 rfl ?_
  refine ct_cond rfl (fun hz1 => ?_) (fun hz1 => ?_)
  · skip
    subst hz1
    obtain ⟨f, rg, rfl, hr0, hst, hgo, hen⟩ := hq.start (tn := tn)
    refine ct_skip ?_
    refine Kx3 0 1 5 rfl ?_
    refine ct_block ?_
    refine Cr ?_
    refine Rp rfl (pv_assign rfl) ?_
    refine Kn4 0 1 5 6 rfl ?_
    refine Cr ?_
    refine Rp rfl (pv_move rfl) ?_
    refine Rp rfl (pv_nilCheck rfl) ?_
    refine Rp rfl (pv_fieldAddr (k := 1) rfl Tryz.runUnderlying114 rfl Tryz.sizeOf111 rfl rfl) ?_
    refine Rq rfl (oq_load rfl rfl Tryz.isAgg111 Z0 (by rfl) (by rfl)) ?_
    refine Rp rfl (pv_len_slice rfl rfl Tryz.runUnderlying111) ?_
    refine Rp rfl (pv_move rfl) ?_
    refine Kn7 0 1 5 6 17 18 19 rfl ?_
    refine ct_block ?_
    refine ct_loop (α := { q : RQ // RQok most ex tn n abs rg q }) (fun q => [(0, .pointer (some ⟨wd, 0, none⟩)), (1, .int .i64 (most : Int)), (5, .int .i64 (q.1.n : Int)), (6, .bool (q.1.g)), (17, .slice pa abs.length ca), (18, .int .i64 (abs.length : Int)), (19, .int .i64 (q.1.pre.length : Int))]) (fun q => row wd 0 [.pointer (some ⟨bb, 0, none⟩), .slice pa abs.length ca, W2, .slice q.1.pt (tn + q.1.n) q.1.tc] :: own 12 q.1.pt (tn + q.1.n) q.1.tc q.1.ts :: own 1 pa abs.length ca (aptrs abs) :: pack (arows abs (q.1.pre ++ q.1.rest)) :: pack (mreps (q.1.pre ++ q.1.rest)) :: bufRep bb q.1.m :: F) (fun q => q.1.rest.length) ⟨⟨[], l, m, n, false, pt, tc, ts⟩, hr0⟩ (Knows.cons rfl (Knows.cons rfl (Knows.cons rfl (Knows.cons rfl (Knows.cons rfl (Knows.cons rfl (Knows.cons rfl (Knows.nil)))))))) (Sees.refl) ?_
    intro ⟨⟨pre, rest, m1, n1, g1, pt1, tc1, ts1⟩, hr⟩
    dsimp only
    have hlen1 := hr.hl
    dsimp only at hlen1
    have hnm := hr.hn
    dsimp only at hnm
    refine Cr ?_
    refine Rp rfl (pv_bin rfl rfl rfl) ?_
    refine Kn8 0 1 5 6 17 18 19 20 rfl ?_
    refine ct_seq ?_
    refine ct_cond_d rfl (fun hz2 => ?_) (fun hz2 => ?_)
    · skip
      obtain ⟨⟨K, mb, s, dead⟩, r, rfl⟩ : ∃ x r, rest = x :: r := by rcases rest with _ | ⟨x, r⟩; (simp at hlen1; omega); exact ⟨x, r, rfl⟩
      have hk : MKok K := hr.hk ⟨K, mb, s, dead⟩ (by simp)
      obtain ⟨a1, ab, a2, eabs, ea1, hab⟩ := abs_split (abs := abs) (k := pre.length) (by omega)
      have hai := aptrs_get hab
      refine ct_imp (fun μ h => openPack Z3 (by rw [eabs]; exact arows_split ea1) h) ?_
      refine ct_imp (fun μ h => openPack Z6 mreps_split h) ?_
      refine ct_ownsome Z8 (by omega) (fun ba oa hpa => ?_)
      subst hpa
      refine ct_skip ?_
      refine Kx7 0 1 5 6 17 18 19 rfl ?_
      refine ct_seq ?_
      refine ct_block ?_
      refine Cr ?_
      refine Rp rfl (pv_move rfl) ?_
      refine Rp rfl (pv_indexAddrN (j := pre.length) rfl rfl Tryz.runUnderlying111 Tryz.sizeOf117 rfl (by omega)) ?_
      refine Rq rfl (oq_loadOwn rfl rfl Tryz.isAgg117 Z8 (j := pre.length) (by omega) hai) ?_
      refine Rp rfl (pv_assign rfl) ?_
      refine Rp rfl (pv_assign rfl) ?_
      refine Kn9 0 1 5 6 7 8 17 18 19 rfl ?_
      refine ct_seq ?_
      refine Cr ?_
      refine Rp rfl (pv_move rfl) ?_
      refine rl_call rfl rfl (by decide) Tryz.call38 (vs := [_]) rfl Tryz.func38 rfl Tryz.ntmps38 rfl rfl ?_
      refine Cr ?_
      refine Ro rfl (ot_alloc rfl Tryz.zeroValue36 (rfl : _ = [_, _, _, _, _, _])) ?_
      rintro _ _ ⟨b3, rfl, rfl⟩
      refine Rp rfl (pv_assign rfl) ?_
      refine Kn2 0 2 rfl ?_
      refine ct_seq ?_
      refine Cr ?_
      refine Rp rfl (pv_move rfl) ?_
      refine Rp rfl (pv_nilCheck rfl) ?_
      refine Rp rfl (pv_fieldAddr (k := 0) rfl Tryz.runUnderlying119 rfl Tryz.sizeOf116 rfl rfl) ?_
      refine Rq rfl (oq_load rfl rfl Tryz.isAgg116 Z4 (by rfl) (by rfl)) ?_
      refine Rp rfl (pv_eql rfl rfl Tryz.runUnderlying116 rfl) ?_
      refine Kn3 0 2 8 rfl ?_
      refine ct_false rfl ?_
      refine ct_skip ?_
      refine Kx2 0 2 rfl ?_
      refine Cr ?_
      refine Rp rfl (pv_move rfl) ?_
      refine Rp rfl (pv_nilCheck rfl) ?_
      refine Rp rfl (pv_fieldAddr (k := 0) rfl Tryz.runUnderlying119 rfl Tryz.sizeOf116 rfl rfl) ?_
      refine Rq rfl (oq_load rfl rfl Tryz.isAgg116 Z4 (by rfl) (by rfl)) ?_
      refine Ro rfl (ot_invoke rfl rfl hk.mN hk.cN (vs := []) rfl (Sees.cons Z1 Sees.refl) (hk.next_gen _ mb s _)) ?_
      rintro _ _ ⟨a, more, Xm, pm, mm, cm, rfl, hrep, hW, rfl⟩
      refine Rp rfl (pv_extract rfl rfl) ?_
      refine Rp rfl (pv_extract rfl rfl) ?_
      refine rl_op0 rfl rfl (ot_store rfl rfl rfl Tryz.sizeOf36 Z1 (rfl : _ = [_, _, _, _, _, _]) rfl (by rfl) (by rfl) (by first | rfl | assumption) (by exact (rfl : _ = [_, _, _, _, _, _]))) ?_
      rintro _ _ rfl
      refine Rp rfl (pv_assign rfl) ?_
      refine Kn2 2 3 rfl ?_
      refine ct_ret ?_
      refine fin_ret (RVs.agg (us := [_, _, _, _, _, _]) rfl Tryz.isAgg36 Tryz.sizeOf36 Z0 (by rfl) (by rfl) (by rfl) (RVs.tmp rfl (RVs.nil))) Tryz.results38 ?_ Sees.refl
      refine Rp rfl (pv_move rfl) ?_
      refine Rp rfl (pv_extract rfl rfl) ?_
      refine Rp rfl (pv_extract rfl rfl) ?_
      refine Ro rfl (ot_alloc rfl Tryz.zeroValue36 (rfl : _ = [_, _, _, _, _, _])) ?_
      rintro _ _ ⟨b4, rfl, rfl⟩
      refine rl_op0 rfl rfl (ot_store rfl rfl rfl Tryz.sizeOf36 Z0 (rfl : _ = [_, _, _, _, _, _]) rfl (by rfl) (by rfl) (by first | rfl | assumption) (by exact (rfl : _ = [_, _, _, _, _, _]))) ?_
      rintro _ _ rfl
      refine Rp rfl (pv_assign rfl) ?_
      refine Kn10 0 1 5 6 7 8 10 17 18 19 rfl ?_
      refine Cr ?_
      refine Rp rfl (pv_move rfl) ?_
      refine Rp rfl (pv_not rfl) ?_
      refine Rp rfl (pv_move rfl) ?_
      refine rl_split_b (fun hz5 => ?_) (fun hz5 => ?_)
      · skip
        subst hz5
        have hWn : K.want s = none := hW
        refine rl_u rfl rfl (by decide) ?_
        refine rl_u rfl rfl (by decide) ?_
        refine rl_u rfl rfl (by decide) ?_
        refine rl_u rfl rfl (by decide) ?_
        refine Rp rfl (pv_pick1 rfl rfl) ?_
        refine Kn9 0 1 5 6 7 17 18 19 36 rfl ?_
        refine ct_true rfl ?_
        refine ct_exit ?_
        refine xt_exit_then ?_
        refine xt_exit_block ?_
        refine Kx7 0 1 5 6 17 18 19 rfl ?_
        refine ct_region ?_
        refine Rp rfl (pv_bin rfl rfl rfl) ?_
        refine Rp rfl (pv_move rfl) ?_
        refine rl_nil ?_
        exact xt_round (α := { q : RQ // RQok most ex tn n abs rg q }) (E' := fun q => [(0, .pointer (some ⟨wd, 0, none⟩)), (1, .int .i64 (most : Int)), (5, .int .i64 (q.1.n : Int)), (6, .bool (q.1.g)), (17, .slice (some ⟨ba, oa, none⟩) abs.length ca), (18, .int .i64 (abs.length : Int)), (19, .int .i64 (q.1.pre.length : Int))]) (H' := fun q => row wd 0 [.pointer (some ⟨bb, 0, none⟩), .slice (some ⟨ba, oa, none⟩) abs.length ca, W2, .slice q.1.pt (tn + q.1.n) q.1.tc] :: own 12 q.1.pt (tn + q.1.n) q.1.tc q.1.ts :: own 1 (some ⟨ba, oa, none⟩) abs.length ca (aptrs abs) :: pack (arows abs (q.1.pre ++ q.1.rest)) :: pack (mreps (q.1.pre ++ q.1.rest)) :: bufRep bb q.1.m :: F) (μ := fun q => q.1.rest.length) (p := ⟨⟨pre, _ :: r, m1, n1, g1, pt1, tc1, ts1⟩, hr⟩) (⟨⟨pre ++ [⟨K, mb, s, dead⟩], r, m1, n1, g1, pt1, tc1, ts1⟩, hr.none (.inl hWn)⟩) (by show r.length < (_ :: r).length; simp) (Knows.cons rfl (Knows.cons rfl (Knows.cons rfl (Knows.cons rfl (Knows.cons rfl (Knows.cons rfl (Knows.cons (look_int rfl (by simp only [List.length_append, List.length_cons, List.length_nil]; exact cnt_wrap (by omega))) (Knows.nil)))))))) (Sees.cons Z8 (Sees.cons Z8 (Sees.cons Z8 (Sees.closePack Z5 (fun _ h => h) Z5 Z5 (by dsimp only; rw [eabs, List.append_assoc]; exact arows_split ea1) (Sees.closePack Z2 (hrep) Z2 Z2 (by dsimp only; rw [List.append_assoc]; exact mreps_split) (Sees.cons Z2 (Sees.skip (Sees.skip (Sees.refl)))))))))
      · skip
        subst hz5
        have hw : K.want s = some a := hW
        refine Ru rfl (pv_move rfl) ?_
        refine Ru rfl (pv_nilCheck rfl) ?_
        refine Ru rfl (pv_fieldAddr (k := 1) rfl Tryz.runUnderlying119 rfl Tryz.sizeOf4 rfl rfl) ?_
        refine Rv rfl (oq_load rfl rfl Tryz.isAgg4 Z5 (by rfl) (by rfl)) ?_
        refine Rp rfl (pv_pick0 rfl rfl) ?_
        refine Kn9 0 1 5 6 7 17 18 19 36 rfl ?_
        refine ct_cond rfl (fun hz6 => ?_) (fun hz6 => ?_)
        · skip
          subst hz6
          refine ct_exit ?_
          refine xt_exit_then ?_
          refine xt_exit_block ?_
          refine Kx7 0 1 5 6 17 18 19 rfl ?_
          refine ct_region ?_
          refine Rp rfl (pv_bin rfl rfl rfl) ?_
          refine Rp rfl (pv_move rfl) ?_
          refine rl_nil ?_
          exact xt_round (α := { q : RQ // RQok most ex tn n abs rg q }) (E' := fun q => [(0, .pointer (some ⟨wd, 0, none⟩)), (1, .int .i64 (most : Int)), (5, .int .i64 (q.1.n : Int)), (6, .bool (q.1.g)), (17, .slice (some ⟨ba, oa, none⟩) abs.length ca), (18, .int .i64 (abs.length : Int)), (19, .int .i64 (q.1.pre.length : Int))]) (H' := fun q => row wd 0 [.pointer (some ⟨bb, 0, none⟩), .slice (some ⟨ba, oa, none⟩) abs.length ca, W2, .slice q.1.pt (tn + q.1.n) q.1.tc] :: own 12 q.1.pt (tn + q.1.n) q.1.tc q.1.ts :: own 1 (some ⟨ba, oa, none⟩) abs.length ca (aptrs abs) :: pack (arows abs (q.1.pre ++ q.1.rest)) :: pack (mreps (q.1.pre ++ q.1.rest)) :: bufRep bb q.1.m :: F) (μ := fun q => q.1.rest.length) (p := ⟨⟨pre, _ :: r, m1, n1, g1, pt1, tc1, ts1⟩, hr⟩) (⟨⟨pre ++ [⟨K, mb, s, true⟩], r, m1, n1, g1, pt1, tc1, ts1⟩, hr.none (.inr rfl)⟩) (by show r.length < (_ :: r).length; simp) (Knows.cons rfl (Knows.cons rfl (Knows.cons rfl (Knows.cons rfl (Knows.cons rfl (Knows.cons rfl (Knows.cons (look_int rfl (by simp only [List.length_append, List.length_cons, List.length_nil]; exact cnt_wrap (by omega))) (Knows.nil)))))))) (Sees.cons Z8 (Sees.cons Z8 (Sees.cons Z8 (Sees.closePack Z5 (fun _ h => h) Z5 Z5 (by dsimp only; rw [eabs, List.append_assoc]; exact arows_split ea1) (Sees.closePack Z2 (hrep) Z2 Z2 (by dsimp only; rw [List.append_assoc]; exact mreps_split) (Sees.cons Z2 (Sees.skip (Sees.skip (Sees.refl)))))))))
        · skip
          subst hz6
          refine ct_skip ?_
          refine Kx7 0 1 5 7 17 18 19 rfl ?_
          refine ct_seq ?_
          refine Cr ?_
          refine Rp rfl (pv_move rfl) ?_
          refine Rp rfl (pv_move rfl) ?_
          refine Rp rfl (pv_bin rfl rfl rfl) ?_
          refine Kn8 0 1 5 7 17 18 19 39 rfl ?_
          refine ct_cond_d rfl (fun hz7 => ?_) (fun hz7 => ?_)
          · skip
            have egoal := hr.full hw rfl (by omega)
            subst egoal
            have hgf := hst rfl
            subst hgf
            refine Cr ?_
            refine Rp rfl (pv_move rfl) ?_
            refine Rp rfl (pv_assign rfl) ?_
            refine Kn1 4 rfl ?_
            refine ct_ret ?_
            refine xt_ret_then ?_
            refine xt_ret_block ?_
            refine xt_ret_then ?_
            refine xt_ret_then ?_
            refine xt_ret_block ?_
            refine xt_ret_block ?_
            refine xt_ret_then ?_
            refine xt_ret_block ?_
            refine xt_ret_then ?_
            exact fin_ret (RVs.tmp rfl (RVs.nil)) Tryz.results21 ⟨_, _, _, rfl, hr.hi1, rfl⟩ (Sees.cons Z8 (Sees.cons Z8 (Sees.cons Z8 (Sees.closePack Z5 (fun _ h => h) Z5 Z5 (by rw [eabs]; exact arows_split ea1) (Sees.closePack Z2 hrep Z2 Z2 mreps_split (Sees.cons Z2 (Sees.skip (Sees.skip (Sees.refl)))))))))
          · skip
            obtain ⟨m', y, k, hy, had, hk1, hinv1, hyv, hyd, hnext⟩ := hr.step hw rfl (by omega)
            refine ct_skip ?_
            refine Kx7 0 1 5 7 17 18 19 rfl ?_
            refine Cr ?_
            refine Rp rfl (pv_move rfl) ?_
            refine Rp rfl (pv_move rfl) ?_
            refine Rp rfl (pv_build (ps := [(0, _), (1, _)]) (cs := [_, _, _]) rfl Tryz.zeroValue66 Tryz.runUnderlying66 (.cons Tryz.sizeOf3 (.cons Tryz.sizeOf3 (.cons Tryz.sizeOf2 (.nil)))) rfl) ?_
            refine Ro rfl (ot_call rfl Tryz.call22 (vs := [_, _]) rfl (Sees.cons Z8 (Sees.cons Z8 (Sees.cons Z8 (Sees.cons Z5 (Sees.cons Z7 (Sees.consI Z2 hrep (Sees.refl))))))) (pick_spec _ K hk wd bb ab mb s a hw m1 m' y hy k hinv1 hyv hyd had W2 ba oa abs.length ca pre.length (aptrs abs) (by omega) (by omega) hai pt1 (tn + n1) tc1 ts1 (by omega) _)) ?_
            rintro _ _ ⟨ev, p11, c12, ts13, rfl, _, rfl⟩
            refine Kn6 0 1 5 17 18 19 rfl ?_
            refine Cr ?_
            refine Rp rfl (pv_assign rfl) ?_
            refine Kn7 0 1 5 6 17 18 19 rfl ?_
            refine ct_region ?_
            refine Rp rfl (pv_move rfl) ?_
            refine Rp rfl (pv_bin rfl rfl rfl) ?_
            refine Rp rfl (pv_assign rfl) ?_
            refine rl_nil ?_
            refine xt_normal_block ?_
            refine Kx7 0 1 5 6 17 18 19 rfl ?_
            refine ct_region ?_
            refine Rp rfl (pv_bin rfl rfl rfl) ?_
            refine Rp rfl (pv_move rfl) ?_
            refine rl_nil ?_
            exact xt_round (α := { q : RQ // RQok most ex tn n abs rg q }) (E' := fun q => [(0, .pointer (some ⟨wd, 0, none⟩)), (1, .int .i64 (most : Int)), (5, .int .i64 (q.1.n : Int)), (6, .bool (q.1.g)), (17, .slice (some ⟨ba, oa, none⟩) abs.length ca), (18, .int .i64 (abs.length : Int)), (19, .int .i64 (q.1.pre.length : Int))]) (H' := fun q => row wd 0 [.pointer (some ⟨bb, 0, none⟩), .slice (some ⟨ba, oa, none⟩) abs.length ca, W2, .slice q.1.pt (tn + q.1.n) q.1.tc] :: own 12 q.1.pt (tn + q.1.n) q.1.tc q.1.ts :: own 1 (some ⟨ba, oa, none⟩) abs.length ca (aptrs abs) :: pack (arows abs (q.1.pre ++ q.1.rest)) :: pack (mreps (q.1.pre ++ q.1.rest)) :: bufRep bb q.1.m :: F) (μ := fun q => q.1.rest.length) (p := ⟨⟨pre, _ :: r, m1, n1, g1, pt1, tc1, ts1⟩, hr⟩) (⟨⟨pre ++ [⟨K, mb, K.take s y, false⟩], r, m', n1 + 1, true, p11, c12, ts13⟩, hnext _ _ _⟩) (by show r.length < (_ :: r).length; simp) (Knows.cons rfl (Knows.cons rfl (Knows.cons (look_int rfl (cnt_wrap (by omega))) (Knows.cons rfl (Knows.cons rfl (Knows.cons rfl (Knows.cons (look_int rfl (by simp only [List.length_append, List.length_cons, List.length_nil]; exact cnt_wrap (by omega))) (Knows.nil)))))))) (Sees.cons Z0 (Sees.cons Z0 (Sees.cons Z0 (Sees.closePack Z0 (fun _ h => h) Z6 Z6 (by dsimp only; rw [eabs, List.append_assoc]; exact arows_split ea1) (Sees.closePack Z1 (fun _ h => h) Z3 Z3 (by dsimp only; rw [List.append_assoc]; exact mreps_split) (Sees.cons Z0 (Sees.skip (Sees.skip (Sees.refl)))))))))
    · skip
      have er : rest = [] := List.eq_nil_of_length_eq_zero (by omega)
      subst er
      have egoal := hr.end_
      subst egoal
      rw [List.append_nil]
      refine ct_exit ?_
      refine xt_exit_then ?_
      refine xt_exit_then ?_
      refine xt_exit_block ?_
      refine xt_normal_block ?_
      exact xt_round (α := { q : OQ2 // OQok2 most ex abs goal q }) (E' := fun q => [(0, .pointer (some ⟨wd, 0, none⟩)), (1, .int .i64 (most : Int)), (5, .int .i64 (q.1.n : Int)), (6, .bool (q.1.g))]) (H' := fun q => row wd 0 [.pointer (some ⟨bb, 0, none⟩), .slice pa abs.length ca, W2, .slice q.1.pt (tn + q.1.n) q.1.tc] :: own 12 q.1.pt (tn + q.1.n) q.1.tc q.1.ts :: own 1 pa abs.length ca (aptrs abs) :: pack (arows abs (q.1.l)) :: pack (mreps (q.1.l)) :: bufRep bb q.1.m :: F) (μ := fun q => most - q.1.n + (bif q.1.g then 1 else 0)) (p := ⟨⟨_, l, m, n, true, pt, tc, ts⟩, hq⟩) (⟨⟨f, pre, m1, n1, g1, pt1, tc1, ts1⟩, hr.outer hgo hen⟩) (by have := hr.h0; have h1 := hr.h1; dsimp only at this h1; show most - n1 + (bif g1 then 1 else 0) < most - n + 1; cases g1 with
    | false => (simp only [cond_false]; omega)
    | true => (have := h1 rfl; simp only [cond_true]; omega)) (Knows.cons rfl (Knows.cons rfl (Knows.cons rfl (Knows.cons rfl (Knows.nil))))) (Sees.cons Z0 (Sees.cons Z0 (Sees.cons Z0 (Sees.cons Z0 (Sees.cons Z0 (Sees.cons Z0 (Sees.refl)))))))
  · skip
    subst hz1
    have hgf := hq.hx rfl
    dsimp only at hgf
    subst hgf
    refine ct_exit ?_
    refine xt_exit_then ?_
    refine xt_exit_then ?_
    refine xt_exit_block ?_
    refine Kx1 5 rfl ?_
    refine Cr ?_
    refine Rp rfl (pv_move rfl) ?_
    refine Rp rfl (pv_assign rfl) ?_
    refine Kn1 4 rfl ?_
    refine ct_ret ?_
    exact fin_ret (RVs.tmp rfl (RVs.nil)) Tryz.results21 ⟨_, _, _, rfl, hq.hi1, rfl⟩ (Sees.cons Z0 (Sees.cons Z0 (Sees.cons Z0 (Sees.cons Z0 (Sees.cons Z0 (Sees.cons Z0 (Sees.refl)))))))
end Go.Proofs.YtnjljfjncfbinaaGreat
