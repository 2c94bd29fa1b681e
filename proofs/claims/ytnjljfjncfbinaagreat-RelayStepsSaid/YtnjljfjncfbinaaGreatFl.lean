/- Contracts: the document's relay. -/
import Derived.Test.YtnjljfjncfbinaaGreatSq
import Derived.Test.YtnjljfjncfbinaaGreatFk
set_option linter.all false
namespace Go.Proofs.YtnjljfjncfbinaaGreat
open Go Go.Proofs
set_option maxRecDepth 100000
set_option linter.unusedVariables false

def rloop : Nat → RM → TS → TS × RM
  | 0, r, t => (t, r)
  | n + 1, r, t =>
    if r.left < 1 then (t, r)
    else if (hrunT t (hnew r.base r.size r.cur r.nxt r.lap).1 (hnew r.base r.size r.cur r.nxt r.lap).2).2.2.ends = true then
      rloop n (r.begin.note (hrunT t (hnew r.base r.size r.cur r.nxt r.lap).1 (hnew r.base r.size r.cur r.nxt r.lap).2).2.1) (hrunT t (hnew r.base r.size r.cur r.nxt r.lap).1 (hnew r.base r.size r.cur r.nxt r.lap).2).1
    else ((hrunT t (hnew r.base r.size r.cur r.nxt r.lap).1 (hnew r.base r.size r.cur r.nxt r.lap).2).1, { r.begin with now := some (hrunT t (hnew r.base r.size r.cur r.nxt r.lap).1 (hnew r.base r.size r.cur r.nxt r.lap).2).2 })
/-- How a listener's state and its error go together. -/
def EOk (s : HS) (ph : HPh) : Prop := (ph.ends = false → s.e = 10) ∧ (ph.ends = true → s.e ≠ 10)
theorem hstep_e {s : HS} {ph : HPh} {a : Ans} (h : EOk s ph) (hp : ph.ends = false) : EOk (hstep s ph a).1 (hstep s ph a).2 := by
  have h1 := h.1 hp
  cases ph <;> simp only [hstep, tailStep, recStep] <;> (repeat' split) <;> simp_all [EOk, HPh.ends, HS.lose, HS.skip, HS.hears]
theorem hgo_e {want : Acc} {ends : Bool} : ∀ (l : List Ans) (k : Nat) (s : HS) (ph : HPh), EOk s ph → EOk (hgo want ends l k s ph).2.1 (hgo want ends l k s ph).2.2 := by
  intro l
  induction l with
  | nil => intro k s ph h; simp only [hgo]; split <;> exact h
  | cons a l ih =>
    intro k s ph h
    simp only [hgo]
    split
    · exact h
    · rename_i hp
      exact ih _ _ _ (hstep_e h (by simpa using hp))
theorem hnew_e (base size cur nxt lap : Int) : EOk (hnew base size cur nxt lap).1 (hnew base size cur nxt lap).2 := by
  unfold hnew; split <;> simp [EOk, HPh.ends, HS.start]
theorem hrun_e {t : TS} {base size cur nxt lap : Int} : EOk (hrunT t (hnew base size cur nxt lap).1 (hnew base size cur nxt lap).2).2.1 (hrunT t (hnew base size cur nxt lap).1 (hnew base size cur nxt lap).2).2.2 := hgo_e _ _ _ _ (hnew_e _ _ _ _ _)
theorem hgo_tok {L : TL} : ∀ (l : List Ans) (t : TS) (s : HS) (ph : HPh), t.rest = l → TOk L t → (hrunT t s ph).2.2.ends = true → TOk L (hrunT t s ph).1 := by
  intro l
  induction l with
  | nil =>
    intro t s ph hl h he
    cases hp : ph.ends with
    | true => have : ph = .fin := by cases ph <;> first | rfl | cases hp
              subst this; rw [hrun_fin]; exact h
    | false =>
      rw [hrun_stop hp (by unfold TS.ok; rw [hl])] at he
      exact absurd he (by simp [hp])
  | cons a l ih =>
    intro t s ph hl h he
    cases hp : ph.ends with
    | true => have : ph = .fin := by cases ph <;> first | rfl | cases hp
              subst this; rw [hrun_fin]; exact h
    | false =>
      have ho : t.ok = true := by unfold TS.ok; rw [hl]
      rw [hrun_more hp ho (hwant s ph)] at he ⊢
      exact ih _ _ _ (by unfold TS.do; rw [hl]) (h.next ho _) he
theorem rloop_stop {n : Nat} {r : RM} {t : TS} (h : r.left < 1) : rloop n r t = (t, r) := by
  cases n with
  | zero => rfl
  | succ n => simp only [rloop]; rw [if_pos h]
structure RLq where
  t : TS
  r : RM
  n : Nat
  i : Nat
  p : Option Addr
  c : Nat
  l : HL
structure RLok (L : TL) (base size times : Int) (goal : TS × RM) (q : RLq) : Prop where
  hg : rloop q.n q.r q.t = goal
  hn : q.r.left.toNat < q.n
  hnow : q.r.now = none
  hb : q.r.base = base
  hs : q.r.size = size
  hl : q.r.left = (if 64 < times then 64 else times) - (q.i : Int)
  ht : TOk L q.t
  hh : heards q.l = q.r.heard
  hi : q.r.heard.length ≤ q.i
  hi2 : q.i ≤ 64
theorem RLok.next {L : TL} {base size times : Int} {goal : TS × RM} {q : RLq} (h : RLok L base size times goal q) (hl : ¬ q.r.left < 1) {z : TS × HS × HPh} (hz : hrunT q.t (hnew base size q.r.cur q.r.nxt q.r.lap).1 (hnew base size q.r.cur q.r.nxt q.r.lap).2 = z) (he : ¬ z.2.1.e = 10)
    (p : Option Addr) (c : Nat) (l : HL) (hh : heards l = (q.r.begin.note z.2.1).heard) : RLok L base size times goal ⟨z.1, q.r.begin.note z.2.1, q.n - 1, q.i + 1, p, c, l⟩ := by
  have hE : EOk z.2.1 z.2.2 := by rw [← hz]; exact hrun_e
  have hends : z.2.2.ends = true := by
    cases e : z.2.2.ends with
    | true => rfl
    | false => exact absurd (hE.1 e) he
  obtain ⟨n, hn⟩ : ∃ n, q.n = n + 1 := ⟨q.n - 1, by have := h.hn; omega⟩
  have hln : (q.r.begin.note z.2.1).left = q.r.left - 1 := rfl
  refine ⟨?_, ?_, rfl, h.hb, h.hs, ?_, ?_, hh, ?_, ?_⟩
  · have hg := h.hg
    rw [hn] at hg ⊢
    simp only [rloop] at hg
    rw [if_neg hl, h.hb, h.hs, hz, if_pos hends] at hg
    exact hg
  · have := h.hn; dsimp only; rw [hln]; omega
  · have := h.hl; dsimp only; rw [hln]; omega
  · rw [← hz]; exact hgo_tok _ _ _ _ rfl h.ht (by rw [hz]; exact hends)
  · have := h.hi
    dsimp only
    simp only [RM.note, RM.begin]
    split <;> simp <;> omega
  · have := h.hi2
    have h2 := h.hl
    dsimp only
    split at h2 <;> omega
theorem RLok.stop {L : TL} {base size times : Int} {goal : TS × RM} {q : RLq} (h : RLok L base size times goal q) (hl : q.r.left < 1) : goal = (q.t, q.r) := by rw [← h.hg, rloop_stop hl]
theorem RLok.busy {L : TL} {base size times : Int} {goal : TS × RM} {q : RLq} (h : RLok L base size times goal q) (hl : ¬ q.r.left < 1) {z : TS × HS × HPh} (hz : hrunT q.t (hnew base size q.r.cur q.r.nxt q.r.lap).1 (hnew base size q.r.cur q.r.nxt q.r.lap).2 = z) (he : z.2.1.e = 10) : goal = (z.1, { q.r.begin with now := some z.2 }) := by
  have hE : EOk z.2.1 z.2.2 := by rw [← hz]; exact hrun_e
  have hends : ¬ z.2.2.ends = true := fun e => hE.2 e he
  obtain ⟨n, hn⟩ : ∃ n, q.n = n + 1 := ⟨q.n - 1, by have := h.hn; omega⟩
  have hg := h.hg
  rw [hn] at hg
  simp only [rloop] at hg
  rw [if_neg hl, h.hb, h.hs, hz, if_neg hends] at hg
  exact hg.symm
theorem heards_snoc (l : HL) (v : HeardV) (p : Option Addr) (c : Nat) : heards (l ++ [(v, p, c)]) = heards l ++ [v] := by simp [heards]
theorem hcells_snoc (l : HL) (v : HeardV) (p : Option Addr) (c : Nat) : hcells (l ++ [(v, p, c)]) = hcells l ++ [.int .i64 v.at_, .int .i32 v.typ, .slice p v.data.length c] := by simp [hcells]
attribute [local irreducible] pack hcells hinner hnew hrunT heards
set_option maxHeartbeats 2000000 in
theorem rrelay_spec (ω : World) (tb : Nat) (tp : Option Addr) (tc : Nat) (L : TL) (X : HP) (ht : Told ω X tp L) (t : TS) (htk : TOk L t) (base size cur nxt lap times : Int) (hb0 : inK .i64 base) (hs0 : inK .i64 size) (goal : TS × RM) (hg : rloop 65 ⟨base, size, cur, nxt, lap, if 64 < times then 64 else times, none, [], 0⟩ t = goal) (F : List HP)  : Spec ω Tryz.prog 9 #[.pointer (some ⟨tb, 0, none⟩), .agg #[.int .i64 base, .int .i64 size], .agg #[.int .i64 cur, .int .i64 nxt, .int .i64 lap], .int .i64 times] (row tb 0 [.slice tp L.length tc, .int .i64 (t.k : Int), .int .i64 t.want.k, .int .i64 t.want.at_, .int .i64 t.want.n, .int .u64 t.want.v, .int .u64 t.want.w, .slice t.want.p t.want.m t.want.c, .bool t.ends] :: X :: F) fun v' H' => ∃ p c l, v' = .tuple #[.slice p goal.2.heard.length c, .agg #[.int .i64 goal.2.cur, .int .i64 goal.2.nxt, .int .i64 goal.2.lap], .int .i64 goal.2.losses] ∧ heards l = goal.2.heard ∧ H' = own 3 p goal.2.heard.length c (hcells l) :: pack (hinner l) :: row tb 0 [.slice tp L.length tc, .int .i64 (goal.1.k : Int), .int .i64 goal.1.want.k, .int .i64 goal.1.want.at_, .int .i64 goal.1.want.n, .int .u64 goal.1.want.v, .int .u64 goal.1.want.w, .slice goal.1.want.p goal.1.want.m goal.1.want.c, .bool goal.1.ends] :: X :: F := by
  refine spec_of_body Tryz.func9 rfl Tryz.ntmps9 rfl ?_
  refine Cr ?_
  refine Ro rfl (ot_box rfl rfl (rfl : _ = [_, _])) ?_
  rintro _ _ ⟨b5, rfl, rfl⟩
  refine Ro rfl (ot_box rfl rfl (rfl : _ = [_, _, _])) ?_
  rintro _ _ ⟨b6, rfl, rfl⟩
  refine Rp rfl (pv_assign rfl) ?_
  refine Ro rfl (ot_alloc rfl Tryz.zeroValue25 (rfl : _ = [_, _, _])) ?_
  rintro _ _ ⟨b9, rfl, rfl⟩
  refine Rp rfl (pv_assign rfl) ?_
  refine Kn5 0 3 5 6 9 rfl ?_
  refine Cr ?_
  refine Rp rfl (pv_assign rfl) ?_
  refine Kn6 0 3 5 6 9 11 rfl ?_
  refine Cr ?_
  refine Rp rfl (pv_assign rfl) ?_
  refine Kn7 0 3 5 6 9 11 12 rfl ?_
  refine ct_seq ?_
  refine Cr ?_
  refine Rp rfl (pv_assign rfl) ?_
  refine Kn8 0 3 5 6 9 11 12 13 rfl ?_
  refine ct_block ?_
  refine ct_loop (α := { q : RLq // RLok L base size times goal q }) (fun q => [(0, .pointer (some ⟨tb, 0, none⟩)), (3, .int .i64 times), (5, .pointer (some ⟨b5, 0, none⟩)), (6, .pointer (some ⟨b6, 0, none⟩)), (9, .pointer (some ⟨b9, 0, none⟩)), (11, .slice q.1.p q.1.r.heard.length q.1.c), (12, .int .i64 q.1.r.losses), (13, .int .i64 (q.1.i : Int))]) (fun q => row b5 0 [.int .i64 base, .int .i64 size] :: row b6 0 [.int .i64 q.1.r.cur, .int .i64 q.1.r.nxt, .int .i64 q.1.r.lap] :: row b9 0 [.int .i64 0, .int .i64 0, .int .i64 0] :: own 3 q.1.p q.1.r.heard.length q.1.c (hcells q.1.l) :: pack (hinner q.1.l) :: row tb 0 [.slice tp L.length tc, .int .i64 (q.1.t.k : Int), .int .i64 q.1.t.want.k, .int .i64 q.1.t.want.at_, .int .i64 q.1.t.want.n, .int .u64 q.1.t.want.v, .int .u64 q.1.t.want.w, .slice q.1.t.want.p q.1.t.want.m q.1.t.want.c, .bool q.1.t.ends] :: X :: F) (fun q => q.1.r.left.toNat) ⟨⟨t, ⟨base, size, cur, nxt, lap, if 64 < times then 64 else times, none, [], 0⟩, 65, 0, none, 0, []⟩, ⟨hg, by dsimp only; split <;> omega, rfl, rfl, rfl, by simp, htk, by unfold heards; rfl, Nat.le_refl _, Nat.zero_le _⟩⟩ (Knows.cons rfl (Knows.cons rfl (Knows.cons rfl (Knows.cons rfl (Knows.cons rfl (Knows.cons rfl (Knows.cons rfl (Knows.cons rfl (Knows.nil))))))))) (by dsimp only; unfold hcells; exact Sees.cons (by repeat (first | exact Z0 | apply Sel.there)) (Sees.cons (by repeat (first | exact Z0 | apply Sel.there)) (Sees.cons (by repeat (first | exact Z0 | apply Sel.there)) (Sees.nilOwn (Sees.packNilH (by repeat (first | exact Sees.refl | (apply Sees.cons; (focus ((repeat (first | exact Z0 | apply Sel.there)); done))) | apply Sees.skip))))))) ?_
  intro ⟨q, hq⟩
  dsimp only
  refine ct_seq ?_
  refine Cr ?_
  refine Rp rfl (pv_move rfl) ?_
  refine Rp rfl (pv_move rfl) ?_
  refine Rp rfl (pv_min rfl rfl) ?_
  refine Rp rfl (pv_bin rfl rfl rfl) ?_
  refine Kn9 0 3 5 6 9 11 12 13 21 rfl ?_
  first | refine ct_cond_d rfl (fun h21 => ?_) (fun h21 => ?_) | refine ct_cond_n rfl (fun h21 => ?_) (fun h21 => ?_) | refine ct_cond_b rfl (fun h21 => ?_) (fun h21 => ?_) | refine ct_cond rfl (fun h21 => ?_) (fun h21 => ?_)
  · have hleft : ¬ q.r.left < 1 := by have := hq.hl; omega
    obtain ⟨z, hzz⟩ : ∃ z, (hrunT q.t (hnew base size q.r.cur q.r.nxt q.r.lap).1 (hnew base size q.r.cur q.r.nxt q.r.lap).2) = z := ⟨_, rfl⟩
    have hb64 := hq.hi
    have hb65 := hq.hi2
    refine ct_skip ?_
    refine Kx8 0 3 5 6 9 11 12 13 rfl ?_
    refine ct_seq ?_
    refine ct_block ?_
    refine Cr ?_
    refine Rp rfl (pv_move rfl) ?_
    refine Rq rfl (oq_loadAgg (us := [_, _]) rfl rfl Tryz.isAgg23 Tryz.sizeOf23 (by repeat (first | exact Z0 | apply Sel.there)) (by rfl) (by rfl) (by rfl)) ?_
    refine Rq rfl (oq_loadAgg (us := [_, _, _]) rfl rfl Tryz.isAgg25 Tryz.sizeOf25 (by repeat (first | exact Z0 | apply Sel.there)) (by rfl) (by rfl) (by rfl)) ?_
    refine Ro rfl (ot_call rfl Tryz.call32 (vs := [_, _, _]) rfl (by repeat (first | exact Sees.refl | (apply Sees.cons; (focus ((repeat (first | exact Z0 | apply Sel.there)); done))) | apply Sees.skip)) (rhear_spec _ _ _ _ L X ht q.t hq.ht base size q.r.cur q.r.nxt q.r.lap hb0 hs0 z hzz _)) ?_
    rintro _ _ ⟨p28, c28, cur', nxt', lap', rfl, hcur, rfl⟩
    refine Rp rfl (pv_move rfl) ?_
    refine Rp rfl (pv_extract rfl rfl) ?_
    refine Rp rfl (pv_extract rfl rfl) ?_
    refine Rp rfl (pv_extract rfl rfl) ?_
    refine Rp rfl (pv_extract rfl rfl) ?_
    refine Ro rfl (ot_alloc rfl Tryz.zeroValue74 (rfl : _ = [_, _])) ?_
    rintro _ _ ⟨b14, rfl, rfl⟩
    refine Ro rfl (ot_alloc rfl Tryz.zeroValue25 (rfl : _ = [_, _, _])) ?_
    rintro _ _ ⟨b16, rfl, rfl⟩
    refine rl_op0 rfl rfl (ot_store rfl rfl rfl Tryz.sizeOf74 (by repeat (first | exact Z0 | apply Sel.there)) (rfl : _ = [_, _]) rfl (by rfl) (by rfl) (by first | rfl | assumption) (by exact (rfl : _ = _ :: _ :: _))) ?_
    rintro _ _ rfl
    refine Rp rfl (pv_assign rfl) ?_
    refine rl_op0 rfl rfl (ot_store rfl rfl rfl Tryz.sizeOf25 (by repeat (first | exact Z0 | apply Sel.there)) (rfl : _ = [_, _, _]) rfl (by rfl) (by rfl) (by first | rfl | assumption) (by exact (rfl : _ = _ :: _ :: _ :: _))) ?_
    rintro _ _ rfl
    refine Rp rfl (pv_assign rfl) ?_
    refine Kn12 0 3 5 6 9 11 12 13 14 15 16 17 rfl ?_
    refine ct_seq ?_
    refine Cr ?_
    refine Rp rfl (pv_move rfl) ?_
    refine Rp rfl (pv_bin rfl rfl rfl) ?_
    refine Kn13 0 3 5 6 9 11 12 13 14 15 16 17 34 rfl ?_
    first | refine ct_cond_d rfl (fun h34 => ?_) (fun h34 => ?_) | refine ct_cond_n rfl (fun h34 => ?_) (fun h34 => ?_) | refine ct_cond_b rfl (fun h34 => ?_) (fun h34 => ?_) | refine ct_cond rfl (fun h34 => ?_) (fun h34 => ?_)
    · have hgo := hq.busy hleft hzz h34
      refine ct_seq ?_
      refine ct_plan1 [.q 0, .q 1, .q 2, .q 3, .e 4, .q 5] (row b9 0 _) (by repeat (first | exact Sees.refl | (apply Sees.cons; (focus ((repeat (first | exact Z0 | apply Sel.there)); done))) | apply Sees.skip)) mixed (by decide +kernel) ?_
      refine pw_q rfl rfl rfl rfl (oq_pv (pv_move rfl)) ?_
      refine pw_q rfl rfl rfl rfl (oq_loadAgg (us := [_, _, _]) rfl rfl Tryz.isAgg25 Tryz.sizeOf25 (by repeat (first | exact Z0 | apply Sel.there)) (by rfl) (by rfl) (by rfl)) ?_
      refine pw_q rfl rfl rfl rfl (oq_pv (pv_move rfl)) ?_
      refine pw_q rfl rfl rfl rfl (oq_pv (pv_assign rfl)) ?_
      refine pw_e0 rfl rfl rfl (ot_store rfl rfl rfl Tryz.sizeOf25 (by repeat (first | exact Z0 | apply Sel.there)) (rfl : _ = [_, _, _]) rfl (by rfl) (by rfl) (by first | rfl | assumption) (by exact (rfl : _ = _ :: _ :: _ :: _))) ?_
      rintro _ _ rfl
      refine ⟨[_], .refl, ?_⟩
      refine pw_q rfl rfl rfl rfl (oq_pv (pv_assign rfl)) ?_
      refine pw_nil ?_
      refine Kx3 8 9 10 rfl ?_
      refine ct_ret ?_
      refine xt_ret_then ?_
      refine xt_ret_block ?_
      refine xt_ret_then ?_
      refine xt_ret_then ?_
      refine xt_ret_block ?_
      refine xt_ret_then ?_
      refine fin_ret (H' := own 3 q.p q.r.heard.length q.c (hcells q.l) :: pack (hinner q.l) :: row tb 0 [.slice tp L.length tc, .int .i64 (z.1.k : Int), .int .i64 z.1.want.k, .int .i64 z.1.want.at_, .int .i64 z.1.want.n, .int .u64 z.1.want.v, .int .u64 z.1.want.w, .slice z.1.want.p z.1.want.m z.1.want.c, .bool z.1.ends] :: X :: F) (RVs.tmp rfl (RVs.agg (us := [_, _, _]) rfl Tryz.isAgg25 Tryz.sizeOf25 (by repeat (first | exact Z0 | apply Sel.there)) (by rfl) (by rfl) (by rfl) (RVs.tmp rfl (RVs.nil)))) Tryz.results9 (?_) ?_
      · rw [hgo]; exact ⟨_, _, q.l, rfl, hq.hh, rfl⟩
      · exact (by repeat (first | exact Sees.refl | (apply Sees.cons; (focus ((repeat (first | exact Z0 | apply Sel.there)); done))) | apply Sees.skip))
    · have hee := hrun_e (t := q.t) (base := base) (size := size) (cur := q.r.cur) (nxt := q.r.nxt) (lap := q.r.lap)
      rw [hzz] at hee
      have hend : z.2.2.ends = true := by cases e : z.2.2.ends with | true => rfl | false => exact absurd (hee.1 e) h34
      obtain ⟨rfl, rfl, rfl⟩ := hcur hend
      refine ct_skip ?_
      refine Kx12 0 3 5 6 9 11 12 13 14 15 16 17 rfl ?_
      refine ct_seq ?_
      refine Cr ?_
      refine Rp rfl (pv_move rfl) ?_
      refine Rp rfl (pv_bin rfl rfl rfl) ?_
      refine Kn12 0 3 5 6 9 11 12 13 14 15 16 39 rfl ?_
      first | refine ct_cond_d rfl (fun h39 => ?_) (fun h39 => ?_) | refine ct_cond_n rfl (fun h39 => ?_) (fun h39 => ?_) | refine ct_cond_b rfl (fun h39 => ?_) (fun h39 => ?_) | refine ct_cond rfl (fun h39 => ?_) (fun h39 => ?_)
      · skip
        refine ct_region ?_
        refine Rp rfl (pv_move rfl) ?_
        refine Rp rfl (pv_bin rfl rfl rfl) ?_
        refine Rp rfl (pv_assign rfl) ?_
        refine Kn11 0 3 5 6 9 11 12 13 14 15 16 rfl ?_
        refine ct_seq ?_
        refine Cr ?_
        refine Rp rfl (pv_move rfl) ?_
        refine Kn11 0 3 5 6 9 11 12 13 14 16 42 rfl ?_
        first | refine ct_cond_d rfl (fun h42 => ?_) (fun h42 => ?_) | refine ct_cond_n rfl (fun h42 => ?_) (fun h42 => ?_) | refine ct_cond_b rfl (fun h42 => ?_) (fun h42 => ?_) | refine ct_cond rfl (fun h42 => ?_) (fun h42 => ?_)
        · skip
          refine ct_region ?_
          refine Rp rfl (pv_move rfl) ?_
          refine Rp rfl (pv_fieldAddr (k := 0) rfl Tryz.runUnderlying25 rfl Tryz.sizeOf2 rfl rfl) ?_
          refine Rq rfl (oq_load rfl rfl Tryz.isAgg2 (by repeat (first | exact Z0 | apply Sel.there)) (by rfl) (by rfl)) ?_
          refine Rq rfl (oq_loadAgg (us := [_, _]) rfl rfl Tryz.isAgg74 Tryz.sizeOf74 (by repeat (first | exact Z0 | apply Sel.there)) (by rfl) (by rfl) (by rfl)) ?_
          refine Rp rfl (pv_build (ps := [(0, _), (1, _)]) (cs := [_, _, _]) rfl Tryz.zeroValue76 Tryz.runUnderlying76 (.cons Tryz.sizeOf2 (.cons Tryz.sizeOf74 (.nil))) rfl) ?_
          refine Ro rfl (ot_buildSlice (ps := [(0, _)]) (cs := #[_, _, _]) rfl rfl Tryz.runUnderlying39 Tryz.sizeOf76 Tryz.zeroValue76 rfl rfl rfl rfl) ?_
          rintro _ _ ⟨b48, rfl, rfl⟩
          refine Ro rfl (ot_append (by_ := 40) rfl rfl rfl Tryz.runUnderlying39 Tryz.runUnderlying39 Tryz.sizeOf76 Tryz.typeInfo76 rfl Tryz.zeroValue76 rfl (by decide) (by repeat (first | exact Z0 | apply Sel.there)) (by repeat (first | exact Z0 | apply Sel.there)) rd_own (by rfl) (by omega)) ?_
          rintro _ _ ⟨p49, c49, rfl, rfl⟩
          refine Rp rfl (pv_assign rfl) ?_
          refine Kn9 0 3 5 6 9 11 12 13 16 rfl ?_
          refine ct_region ?_
          refine Rq rfl (oq_loadAgg (us := [_, _, _]) rfl rfl Tryz.isAgg25 Tryz.sizeOf25 (by repeat (first | exact Z0 | apply Sel.there)) (by rfl) (by rfl) (by rfl)) ?_
          refine rl_op0 rfl rfl (ot_store rfl rfl rfl Tryz.sizeOf25 (by repeat (first | exact Z0 | apply Sel.there)) (rfl : _ = [_, _, _]) rfl (by rfl) (by rfl) (by first | rfl | assumption) (by exact (rfl : _ = _ :: _ :: _ :: _))) ?_
          rintro _ _ rfl
          refine rl_nil ?_
          refine xt_normal_block ?_
          refine Kx8 0 3 5 6 9 11 12 13 rfl ?_
          refine ct_region ?_
          refine Rp rfl (pv_move rfl) ?_
          refine Rp rfl (pv_add rfl rfl ⟨by omega, by omega⟩) ?_
          refine Rp rfl (pv_assign rfl) ?_
          refine rl_nil ?_
          exact xt_round (α := { q : RLq // RLok L base size times goal q }) (E' := fun q => [(0, .pointer (some ⟨tb, 0, none⟩)), (3, .int .i64 times), (5, .pointer (some ⟨b5, 0, none⟩)), (6, .pointer (some ⟨b6, 0, none⟩)), (9, .pointer (some ⟨b9, 0, none⟩)), (11, .slice q.1.p q.1.r.heard.length q.1.c), (12, .int .i64 q.1.r.losses), (13, .int .i64 (q.1.i : Int))]) (H' := fun q => row b5 0 [.int .i64 base, .int .i64 size] :: row b6 0 [.int .i64 q.1.r.cur, .int .i64 q.1.r.nxt, .int .i64 q.1.r.lap] :: row b9 0 [.int .i64 0, .int .i64 0, .int .i64 0] :: own 3 q.1.p q.1.r.heard.length q.1.c (hcells q.1.l) :: pack (hinner q.1.l) :: row tb 0 [.slice tp L.length tc, .int .i64 (q.1.t.k : Int), .int .i64 q.1.t.want.k, .int .i64 q.1.t.want.at_, .int .i64 q.1.t.want.n, .int .u64 q.1.t.want.v, .int .u64 q.1.t.want.w, .slice q.1.t.want.p q.1.t.want.m q.1.t.want.c, .bool q.1.t.ends] :: X :: F) (μ := fun q => q.1.r.left.toNat) (p := ⟨q, hq⟩) (⟨⟨z.1, q.r.begin.note z.2.1, q.n - 1, q.i + 1, p49, c49, q.l ++ [(⟨z.2.1.cur, z.2.1.mt, z.2.1.data⟩, p28, c28)]⟩, hq.next hleft hzz h34 _ _ _ (by rw [heards_snoc, hq.hh]; exact (if_pos h42).symm)⟩) (by show (q.r.left - 1).toNat < q.r.left.toNat; omega) (Knows.cons rfl (Knows.cons rfl (Knows.cons rfl (Knows.cons rfl (Knows.cons rfl (Knows.cons (look_eq rfl (by dsimp only; rw [show (q.r.begin.note z.2.1).heard = q.r.heard ++ [⟨z.2.1.cur, z.2.1.mt, z.2.1.data⟩] from if_pos h42]; rw [List.length_append]; rfl)) (Knows.cons (look_eq rfl (by dsimp only; rw [show (q.r.begin.note z.2.1).losses = IntKind.i64.wrap (q.r.losses + 1) from if_pos h39])) (Knows.cons rfl (Knows.nil))))))))) (by dsimp only; rw [show (q.r.begin.note z.2.1).heard = q.r.heard ++ [⟨z.2.1.cur, z.2.1.mt, z.2.1.data⟩] from if_pos h42, hcells_snoc, hinner_snoc, List.length_append]; exact Sees.cons (by repeat (first | exact Z0 | apply Sel.there)) (Sees.cons (by repeat (first | exact Z0 | apply Sel.there)) (Sees.cons (by repeat (first | exact Z0 | apply Sel.there)) (Sees.cons (by repeat (first | exact Z0 | apply Sel.there)) (.of fun m h => (Sees.packSnoc).out m ((Sees.cons (c := pack (hinner q.l)) (by repeat (first | exact Z0 | apply Sel.there)) (Sees.cons (c := own 1 p28 _ c28 _) (by repeat (first | exact Z0 | apply Sel.there)) (by repeat (first | exact Sees.refl | (apply Sees.cons; (focus ((repeat (first | exact Z0 | apply Sel.there)); done))) | apply Sees.skip)))).out m h))))))
        · skip
          refine ct_skip ?_
          refine Kx9 0 3 5 6 9 11 12 13 16 rfl ?_
          refine ct_region ?_
          refine Rq rfl (oq_loadAgg (us := [_, _, _]) rfl rfl Tryz.isAgg25 Tryz.sizeOf25 (by repeat (first | exact Z0 | apply Sel.there)) (by rfl) (by rfl) (by rfl)) ?_
          refine rl_op0 rfl rfl (ot_store rfl rfl rfl Tryz.sizeOf25 (by repeat (first | exact Z0 | apply Sel.there)) (rfl : _ = [_, _, _]) rfl (by rfl) (by rfl) (by first | rfl | assumption) (by exact (rfl : _ = _ :: _ :: _ :: _))) ?_
          rintro _ _ rfl
          refine rl_nil ?_
          refine xt_normal_block ?_
          refine Kx8 0 3 5 6 9 11 12 13 rfl ?_
          refine ct_region ?_
          refine Rp rfl (pv_move rfl) ?_
          refine Rp rfl (pv_add rfl rfl ⟨by omega, by omega⟩) ?_
          refine Rp rfl (pv_assign rfl) ?_
          refine rl_nil ?_
          exact xt_round (α := { q : RLq // RLok L base size times goal q }) (E' := fun q => [(0, .pointer (some ⟨tb, 0, none⟩)), (3, .int .i64 times), (5, .pointer (some ⟨b5, 0, none⟩)), (6, .pointer (some ⟨b6, 0, none⟩)), (9, .pointer (some ⟨b9, 0, none⟩)), (11, .slice q.1.p q.1.r.heard.length q.1.c), (12, .int .i64 q.1.r.losses), (13, .int .i64 (q.1.i : Int))]) (H' := fun q => row b5 0 [.int .i64 base, .int .i64 size] :: row b6 0 [.int .i64 q.1.r.cur, .int .i64 q.1.r.nxt, .int .i64 q.1.r.lap] :: row b9 0 [.int .i64 0, .int .i64 0, .int .i64 0] :: own 3 q.1.p q.1.r.heard.length q.1.c (hcells q.1.l) :: pack (hinner q.1.l) :: row tb 0 [.slice tp L.length tc, .int .i64 (q.1.t.k : Int), .int .i64 q.1.t.want.k, .int .i64 q.1.t.want.at_, .int .i64 q.1.t.want.n, .int .u64 q.1.t.want.v, .int .u64 q.1.t.want.w, .slice q.1.t.want.p q.1.t.want.m q.1.t.want.c, .bool q.1.t.ends] :: X :: F) (μ := fun q => q.1.r.left.toNat) (p := ⟨q, hq⟩) (⟨⟨z.1, q.r.begin.note z.2.1, q.n - 1, q.i + 1, q.p, q.c, q.l⟩, hq.next hleft hzz h34 _ _ _ (by rw [hq.hh]; exact (if_neg (Bool.eq_false_iff.1 h42)).symm)⟩) (by show (q.r.left - 1).toNat < q.r.left.toNat; omega) (Knows.cons rfl (Knows.cons rfl (Knows.cons rfl (Knows.cons rfl (Knows.cons rfl (Knows.cons (look_eq rfl (by dsimp only; rw [show (q.r.begin.note z.2.1).heard = q.r.heard from if_neg (Bool.eq_false_iff.1 h42)])) (Knows.cons (look_eq rfl (by dsimp only; rw [show (q.r.begin.note z.2.1).losses = IntKind.i64.wrap (q.r.losses + 1) from if_pos h39])) (Knows.cons rfl (Knows.nil))))))))) (by dsimp only; rw [show (q.r.begin.note z.2.1).heard = q.r.heard from if_neg (Bool.eq_false_iff.1 h42)]; exact (by repeat (first | exact Sees.refl | (apply Sees.cons; (focus ((repeat (first | exact Z0 | apply Sel.there)); done))) | apply Sees.skip)))
      · skip
        refine ct_skip ?_
        refine Kx11 0 3 5 6 9 11 12 13 14 15 16 rfl ?_
        refine ct_seq ?_
        refine Cr ?_
        refine Rp rfl (pv_move rfl) ?_
        refine Kn11 0 3 5 6 9 11 12 13 14 16 42 rfl ?_
        first | refine ct_cond_d rfl (fun h42 => ?_) (fun h42 => ?_) | refine ct_cond_n rfl (fun h42 => ?_) (fun h42 => ?_) | refine ct_cond_b rfl (fun h42 => ?_) (fun h42 => ?_) | refine ct_cond rfl (fun h42 => ?_) (fun h42 => ?_)
        · skip
          refine ct_region ?_
          refine Rp rfl (pv_move rfl) ?_
          refine Rp rfl (pv_fieldAddr (k := 0) rfl Tryz.runUnderlying25 rfl Tryz.sizeOf2 rfl rfl) ?_
          refine Rq rfl (oq_load rfl rfl Tryz.isAgg2 (by repeat (first | exact Z0 | apply Sel.there)) (by rfl) (by rfl)) ?_
          refine Rq rfl (oq_loadAgg (us := [_, _]) rfl rfl Tryz.isAgg74 Tryz.sizeOf74 (by repeat (first | exact Z0 | apply Sel.there)) (by rfl) (by rfl) (by rfl)) ?_
          refine Rp rfl (pv_build (ps := [(0, _), (1, _)]) (cs := [_, _, _]) rfl Tryz.zeroValue76 Tryz.runUnderlying76 (.cons Tryz.sizeOf2 (.cons Tryz.sizeOf74 (.nil))) rfl) ?_
          refine Ro rfl (ot_buildSlice (ps := [(0, _)]) (cs := #[_, _, _]) rfl rfl Tryz.runUnderlying39 Tryz.sizeOf76 Tryz.zeroValue76 rfl rfl rfl rfl) ?_
          rintro _ _ ⟨b48, rfl, rfl⟩
          refine Ro rfl (ot_append (by_ := 40) rfl rfl rfl Tryz.runUnderlying39 Tryz.runUnderlying39 Tryz.sizeOf76 Tryz.typeInfo76 rfl Tryz.zeroValue76 rfl (by decide) (by repeat (first | exact Z0 | apply Sel.there)) (by repeat (first | exact Z0 | apply Sel.there)) rd_own (by rfl) (by omega)) ?_
          rintro _ _ ⟨p49, c49, rfl, rfl⟩
          refine Rp rfl (pv_assign rfl) ?_
          refine Kn9 0 3 5 6 9 11 12 13 16 rfl ?_
          refine ct_region ?_
          refine Rq rfl (oq_loadAgg (us := [_, _, _]) rfl rfl Tryz.isAgg25 Tryz.sizeOf25 (by repeat (first | exact Z0 | apply Sel.there)) (by rfl) (by rfl) (by rfl)) ?_
          refine rl_op0 rfl rfl (ot_store rfl rfl rfl Tryz.sizeOf25 (by repeat (first | exact Z0 | apply Sel.there)) (rfl : _ = [_, _, _]) rfl (by rfl) (by rfl) (by first | rfl | assumption) (by exact (rfl : _ = _ :: _ :: _ :: _))) ?_
          rintro _ _ rfl
          refine rl_nil ?_
          refine xt_normal_block ?_
          refine Kx8 0 3 5 6 9 11 12 13 rfl ?_
          refine ct_region ?_
          refine Rp rfl (pv_move rfl) ?_
          refine Rp rfl (pv_add rfl rfl ⟨by omega, by omega⟩) ?_
          refine Rp rfl (pv_assign rfl) ?_
          refine rl_nil ?_
          exact xt_round (α := { q : RLq // RLok L base size times goal q }) (E' := fun q => [(0, .pointer (some ⟨tb, 0, none⟩)), (3, .int .i64 times), (5, .pointer (some ⟨b5, 0, none⟩)), (6, .pointer (some ⟨b6, 0, none⟩)), (9, .pointer (some ⟨b9, 0, none⟩)), (11, .slice q.1.p q.1.r.heard.length q.1.c), (12, .int .i64 q.1.r.losses), (13, .int .i64 (q.1.i : Int))]) (H' := fun q => row b5 0 [.int .i64 base, .int .i64 size] :: row b6 0 [.int .i64 q.1.r.cur, .int .i64 q.1.r.nxt, .int .i64 q.1.r.lap] :: row b9 0 [.int .i64 0, .int .i64 0, .int .i64 0] :: own 3 q.1.p q.1.r.heard.length q.1.c (hcells q.1.l) :: pack (hinner q.1.l) :: row tb 0 [.slice tp L.length tc, .int .i64 (q.1.t.k : Int), .int .i64 q.1.t.want.k, .int .i64 q.1.t.want.at_, .int .i64 q.1.t.want.n, .int .u64 q.1.t.want.v, .int .u64 q.1.t.want.w, .slice q.1.t.want.p q.1.t.want.m q.1.t.want.c, .bool q.1.t.ends] :: X :: F) (μ := fun q => q.1.r.left.toNat) (p := ⟨q, hq⟩) (⟨⟨z.1, q.r.begin.note z.2.1, q.n - 1, q.i + 1, p49, c49, q.l ++ [(⟨z.2.1.cur, z.2.1.mt, z.2.1.data⟩, p28, c28)]⟩, hq.next hleft hzz h34 _ _ _ (by rw [heards_snoc, hq.hh]; exact (if_pos h42).symm)⟩) (by show (q.r.left - 1).toNat < q.r.left.toNat; omega) (Knows.cons rfl (Knows.cons rfl (Knows.cons rfl (Knows.cons rfl (Knows.cons rfl (Knows.cons (look_eq rfl (by dsimp only; rw [show (q.r.begin.note z.2.1).heard = q.r.heard ++ [⟨z.2.1.cur, z.2.1.mt, z.2.1.data⟩] from if_pos h42]; rw [List.length_append]; rfl)) (Knows.cons (look_eq rfl (by dsimp only; rw [show (q.r.begin.note z.2.1).losses = q.r.losses from if_neg h39])) (Knows.cons rfl (Knows.nil))))))))) (by dsimp only; rw [show (q.r.begin.note z.2.1).heard = q.r.heard ++ [⟨z.2.1.cur, z.2.1.mt, z.2.1.data⟩] from if_pos h42, hcells_snoc, hinner_snoc, List.length_append]; exact Sees.cons (by repeat (first | exact Z0 | apply Sel.there)) (Sees.cons (by repeat (first | exact Z0 | apply Sel.there)) (Sees.cons (by repeat (first | exact Z0 | apply Sel.there)) (Sees.cons (by repeat (first | exact Z0 | apply Sel.there)) (.of fun m h => (Sees.packSnoc).out m ((Sees.cons (c := pack (hinner q.l)) (by repeat (first | exact Z0 | apply Sel.there)) (Sees.cons (c := own 1 p28 _ c28 _) (by repeat (first | exact Z0 | apply Sel.there)) (by repeat (first | exact Sees.refl | (apply Sees.cons; (focus ((repeat (first | exact Z0 | apply Sel.there)); done))) | apply Sees.skip)))).out m h))))))
        · skip
          refine ct_skip ?_
          refine Kx9 0 3 5 6 9 11 12 13 16 rfl ?_
          refine ct_region ?_
          refine Rq rfl (oq_loadAgg (us := [_, _, _]) rfl rfl Tryz.isAgg25 Tryz.sizeOf25 (by repeat (first | exact Z0 | apply Sel.there)) (by rfl) (by rfl) (by rfl)) ?_
          refine rl_op0 rfl rfl (ot_store rfl rfl rfl Tryz.sizeOf25 (by repeat (first | exact Z0 | apply Sel.there)) (rfl : _ = [_, _, _]) rfl (by rfl) (by rfl) (by first | rfl | assumption) (by exact (rfl : _ = _ :: _ :: _ :: _))) ?_
          rintro _ _ rfl
          refine rl_nil ?_
          refine xt_normal_block ?_
          refine Kx8 0 3 5 6 9 11 12 13 rfl ?_
          refine ct_region ?_
          refine Rp rfl (pv_move rfl) ?_
          refine Rp rfl (pv_add rfl rfl ⟨by omega, by omega⟩) ?_
          refine Rp rfl (pv_assign rfl) ?_
          refine rl_nil ?_
          exact xt_round (α := { q : RLq // RLok L base size times goal q }) (E' := fun q => [(0, .pointer (some ⟨tb, 0, none⟩)), (3, .int .i64 times), (5, .pointer (some ⟨b5, 0, none⟩)), (6, .pointer (some ⟨b6, 0, none⟩)), (9, .pointer (some ⟨b9, 0, none⟩)), (11, .slice q.1.p q.1.r.heard.length q.1.c), (12, .int .i64 q.1.r.losses), (13, .int .i64 (q.1.i : Int))]) (H' := fun q => row b5 0 [.int .i64 base, .int .i64 size] :: row b6 0 [.int .i64 q.1.r.cur, .int .i64 q.1.r.nxt, .int .i64 q.1.r.lap] :: row b9 0 [.int .i64 0, .int .i64 0, .int .i64 0] :: own 3 q.1.p q.1.r.heard.length q.1.c (hcells q.1.l) :: pack (hinner q.1.l) :: row tb 0 [.slice tp L.length tc, .int .i64 (q.1.t.k : Int), .int .i64 q.1.t.want.k, .int .i64 q.1.t.want.at_, .int .i64 q.1.t.want.n, .int .u64 q.1.t.want.v, .int .u64 q.1.t.want.w, .slice q.1.t.want.p q.1.t.want.m q.1.t.want.c, .bool q.1.t.ends] :: X :: F) (μ := fun q => q.1.r.left.toNat) (p := ⟨q, hq⟩) (⟨⟨z.1, q.r.begin.note z.2.1, q.n - 1, q.i + 1, q.p, q.c, q.l⟩, hq.next hleft hzz h34 _ _ _ (by rw [hq.hh]; exact (if_neg (Bool.eq_false_iff.1 h42)).symm)⟩) (by show (q.r.left - 1).toNat < q.r.left.toNat; omega) (Knows.cons rfl (Knows.cons rfl (Knows.cons rfl (Knows.cons rfl (Knows.cons rfl (Knows.cons (look_eq rfl (by dsimp only; rw [show (q.r.begin.note z.2.1).heard = q.r.heard from if_neg (Bool.eq_false_iff.1 h42)])) (Knows.cons (look_eq rfl (by dsimp only; rw [show (q.r.begin.note z.2.1).losses = q.r.losses from if_neg h39])) (Knows.cons rfl (Knows.nil))))))))) (by dsimp only; rw [show (q.r.begin.note z.2.1).heard = q.r.heard from if_neg (Bool.eq_false_iff.1 h42)]; exact (by repeat (first | exact Sees.refl | (apply Sees.cons; (focus ((repeat (first | exact Z0 | apply Sel.there)); done))) | apply Sees.skip)))
  · have hleft : q.r.left < 1 := by have := hq.hl; omega
    refine ct_exit ?_
    refine xt_exit_then ?_
    refine xt_exit_then ?_
    refine xt_exit_block ?_
    refine Kx4 6 9 11 12 rfl ?_
    refine ct_seq ?_
    refine ct_plan1 [.q 0, .q 1, .q 2, .q 3, .e 4, .q 5] (row b9 0 _) (by repeat (first | exact Sees.refl | (apply Sees.cons; (focus ((repeat (first | exact Z0 | apply Sel.there)); done))) | apply Sees.skip)) mixed (by decide +kernel) ?_
    refine pw_q rfl rfl rfl rfl (oq_pv (pv_move rfl)) ?_
    refine pw_q rfl rfl rfl rfl (oq_loadAgg (us := [_, _, _]) rfl rfl Tryz.isAgg25 Tryz.sizeOf25 (by repeat (first | exact Z0 | apply Sel.there)) (by rfl) (by rfl) (by rfl)) ?_
    refine pw_q rfl rfl rfl rfl (oq_pv (pv_move rfl)) ?_
    refine pw_q rfl rfl rfl rfl (oq_pv (pv_assign rfl)) ?_
    refine pw_e0 rfl rfl rfl (ot_store rfl rfl rfl Tryz.sizeOf25 (by repeat (first | exact Z0 | apply Sel.there)) (rfl : _ = [_, _, _]) rfl (by rfl) (by rfl) (by first | rfl | assumption) (by exact (rfl : _ = _ :: _ :: _ :: _))) ?_
    rintro _ _ rfl
    refine ⟨[_], .refl, ?_⟩
    refine pw_q rfl rfl rfl rfl (oq_pv (pv_assign rfl)) ?_
    refine pw_nil ?_
    refine Kx3 8 9 10 rfl ?_
    refine ct_ret ?_
    refine fin_ret (H' := own 3 q.p q.r.heard.length q.c (hcells q.l) :: pack (hinner q.l) :: row tb 0 [.slice tp L.length tc, .int .i64 (q.t.k : Int), .int .i64 q.t.want.k, .int .i64 q.t.want.at_, .int .i64 q.t.want.n, .int .u64 q.t.want.v, .int .u64 q.t.want.w, .slice q.t.want.p q.t.want.m q.t.want.c, .bool q.t.ends] :: X :: F) (RVs.tmp rfl (RVs.agg (us := [_, _, _]) rfl Tryz.isAgg25 Tryz.sizeOf25 (by repeat (first | exact Z0 | apply Sel.there)) (by rfl) (by rfl) (by rfl) (RVs.tmp rfl (RVs.nil)))) Tryz.results9 (?_) ?_
    · rw [hq.stop hleft]; exact ⟨_, _, q.l, rfl, hq.hh, rfl⟩
    · exact (by repeat (first | exact Sees.refl | (apply Sees.cons; (focus ((repeat (first | exact Z0 | apply Sel.there)); done))) | apply Sees.skip))
end Go.Proofs.YtnjljfjncfbinaaGreat
