/- Contracts: bytes handed in, in parts. -/
import Derived.Test.YtnjljfjncfbinaaGreatSq
import Derived.Test.YtnjljfjncfbinaaGreatFm
import Derived.Test.YtnjljfjncfbinaaGreatSlA
set_option linter.all false
namespace Go.Proofs.YtnjljfjncfbinaaGreat
open Go Go.Proofs
set_option maxRecDepth 100000
set_option linter.unusedVariables false

attribute [local irreducible] RL CT XT OQ OT PW PV Upon wpL
theorem tmod_small {a : Int} (h : 0 ≤ a) : a.tmod 8 = a % 8 := Int.tmod_eq_emod_of_nonneg h
/-- The parts of a copy. -/
def chk (n : Nat) : Nat := if 8 < n then 8 else n
theorem chk_le (n : Nat) : chk n ≤ n ∧ chk n ≤ 8 := by unfold chk; split <;> omega
theorem chk_pos {n : Nat} (h : 1 ≤ n) : 1 ≤ chk n := by unfold chk; split <;> omega
theorem chl_round {m : Int} (h : 1 ≤ m) : chl m = (if 8 < m then 8 else m) :: chl (m - 8) := by
  split
  · rename_i h8; exact chl_many h8
  · rw [chl_one h (by omega), chl_nil (by omega)]
theorem pv_pre {P : Program} {E : Env} {T e : TypeId} {x hi mx : Operand} {p : Option Addr} {n c es h : Nat} {k1 k2 : IntKind} (hx : ev E x = some (.slice p n c)) (hhi : ev E hi = some (.int k1 (h : Int))) (hmx : ev E mx = some (.int k2 (h : Int)))
    (hT : ∀ w, (underlying T).run P w = .ok (.slice e) w) (hs : ∀ w, (sizeOf e).run P w = .ok es w) (h1 : h ≤ c) : PV P (.slice T x none (some hi) (some mx)) E (.slice p h h) := by
  have := pv_slice (P := P) (E := E) (l := 0) (h := h) (m := h) (lo := none) (hi := some hi) (mx := some mx) hx rfl ⟨_, _, hhi, rfl⟩ ⟨_, _, hmx, rfl⟩ hT hs (by omega) (by omega) h1 (by intro h; cases h)
  rwa [cutp_zero, Nat.sub_zero] at this
theorem pv_suf {P : Program} {E : Env} {T e : TypeId} {x lo : Operand} {p : Option Addr} {n c es k : Nat} {k1 : IntKind} (hx : ev E x = some (.slice p n c)) (hlo : ev E lo = some (.int k1 (k : Int)))
    (hT : ∀ w, (underlying T).run P w = .ok (.slice e) w) (hs : ∀ w, (sizeOf e).run P w = .ok es w) (h1 : k ≤ n) (h2 : n ≤ c) : PV P (.slice T x (some lo) none none) E (.slice (cutp p k c es) (n - k) (c - k)) :=
  pv_slice (P := P) (E := E) (l := k) (h := n) (m := c) (lo := some lo) (hi := none) (mx := none) hx ⟨_, _, hlo, rfl⟩ rfl rfl hT hs (by omega) (by omega) (by omega) (fun _ => rfl)
theorem chunk_nat (n : Nat) : chunk (n : Int) = (chk n : Int) := by unfold chunk chk; split <;> split <;> omega
theorem chunks_spec (ω : World) (n : Int) (h1 : 1 ≤ n) (h2 : n ≤ 131072) (F : List HP)  : Spec ω Tryz.prog 157 #[.int .i64 n] (F) fun v' H' => ∃ p c, v' = .slice p (chl n).length c ∧ H' = own 1 p (chl n).length c (intC (chl n)) :: F := by
  refine spec_of_body Tryz.func157 rfl Tryz.ntmps157 rfl ?_
  refine Cr ?_
  refine Rp rfl (pv_assign rfl) ?_
  refine Kn1 0 rfl ?_
  refine ct_seq ?_
  refine Cr ?_
  refine Rp rfl (pv_move rfl) ?_
  refine Rp rfl (pv_bin rfl rfl rfl) ?_
  refine Rp rfl (pv_move rfl) ?_
  first | refine rl_split_d (fun h6 => ?_) (fun h6 => ?_) | refine rl_split_n (fun h6 => ?_) (fun h6 => ?_) | refine rl_split_b (fun h6 => ?_) (fun h6 => ?_) | refine rl_split (fun h6 => ?_) (fun h6 => ?_)
  · exfalso; omega
  · skip
    refine Ru rfl (pv_move rfl) ?_
    refine Ru rfl (pv_bin rfl rfl rfl) ?_
    refine Rp rfl (pv_pick0 rfl rfl) ?_
    refine Kn2 0 9 rfl ?_
    first | refine ct_cond_d rfl (fun h9 => ?_) (fun h9 => ?_) | refine ct_cond_n rfl (fun h9 => ?_) (fun h9 => ?_) | refine ct_cond_b rfl (fun h9 => ?_) (fun h9 => ?_) | refine ct_cond rfl (fun h9 => ?_) (fun h9 => ?_)
    · exfalso; first | omega | (simp_all; done) | (simp_all; omega)
    · skip
      refine ct_skip ?_
      refine Kx1 0 rfl ?_
      refine Cr ?_
      refine Rp rfl (pv_assign rfl) ?_
      refine Kn2 0 3 rfl ?_
      refine ct_seq ?_
      refine ct_block ?_
      refine ct_loop (α := { q : Int × List Int × Option Addr × Nat // q.2.1 ++ chl q.1 = chl n ∧ q.1 ≤ 131072 ∧ -8 ≤ q.1 ∧ (q.2.1.length : Int) * 8 + q.1 ≤ n + 8 ∧ q.2.1.length ≤ 131072 }) (fun q => [(0, .int .i64 q.1.1), (3, .slice q.1.2.2.1 q.1.2.1.length q.1.2.2.2)]) (fun q => own 1 q.1.2.2.1 q.1.2.1.length q.1.2.2.2 (intC q.1.2.1) :: F) (fun q => (q.1.1 + 8).toNat) ⟨(n, [], none, 0), rfl, h2, by dsimp only; omega, by simp; omega, by simp⟩ (Knows.cons rfl (Knows.cons rfl (Knows.nil))) (Sees.nilOwn .refl) ?_
      intro ⟨⟨m, l, p, c⟩, he, h3, h4, h5, h6⟩
      dsimp only at he h3 h4 h5 h6 ⊢
      refine ct_seq ?_
      refine Cr ?_
      refine Rp rfl (pv_move rfl) ?_
      refine Rp rfl (pv_bin rfl rfl rfl) ?_
      refine Kn3 0 3 11 rfl ?_
      first | refine ct_cond_d rfl (fun h11 => ?_) (fun h11 => ?_) | refine ct_cond_n rfl (fun h11 => ?_) (fun h11 => ?_) | refine ct_cond_b rfl (fun h11 => ?_) (fun h11 => ?_) | refine ct_cond rfl (fun h11 => ?_) (fun h11 => ?_)
      · skip
        refine ct_skip ?_
        refine Kx2 0 3 rfl ?_
        refine ct_seq ?_
        refine ct_block ?_
        refine ct_region ?_
        refine Rp rfl (pv_move rfl) ?_
        refine Rp rfl (pv_move rfl) ?_
        refine Rp rfl (pv_min rfl rfl) ?_
        refine Ro rfl (ot_buildSlice (ps := [(0, _)]) (cs := #[_]) rfl rfl Tryz.runUnderlying134 Tryz.sizeOf3 Tryz.zeroValue3 rfl rfl rfl rfl) ?_
        rintro _ _ ⟨b17, rfl, rfl⟩
        refine Ro rfl (ot_append (by_ := 8) rfl rfl rfl Tryz.runUnderlying134 Tryz.runUnderlying134 Tryz.sizeOf3 Tryz.typeInfo3 rfl Tryz.zeroValue3 rfl (by decide) (by repeat (first | exact Z0 | apply Sel.there)) (by repeat (first | exact Z0 | apply Sel.there)) rd_own (by rfl) (by omega)) ?_
        rintro _ _ ⟨p18, c18, rfl, rfl⟩
        refine Rp rfl (pv_assign rfl) ?_
        refine rl_nil ?_
        refine xt_normal_block ?_
        refine Kx2 0 3 rfl ?_
        refine ct_region ?_
        refine Rp rfl (pv_move rfl) ?_
        refine Rp rfl (pv_sub rfl rfl ⟨by omega, by omega⟩) ?_
        refine Rp rfl (pv_assign rfl) ?_
        refine rl_nil ?_
        exact xt_round (α := { q : Int × List Int × Option Addr × Nat // q.2.1 ++ chl q.1 = chl n ∧ q.1 ≤ 131072 ∧ -8 ≤ q.1 ∧ (q.2.1.length : Int) * 8 + q.1 ≤ n + 8 ∧ q.2.1.length ≤ 131072 }) (E' := fun q => [(0, .int .i64 q.1.1), (3, .slice q.1.2.2.1 q.1.2.1.length q.1.2.2.2)]) (H' := fun q => own 1 q.1.2.2.1 q.1.2.1.length q.1.2.2.2 (intC q.1.2.1) :: F) (μ := fun q => (q.1.1 + 8).toNat) (p := ⟨(m, l, p, c), he, h3, h4, h5, h6⟩) (⟨(m - 8, l ++ [if 8 < m then 8 else m], p18, c18), by show (l ++ [if 8 < m then 8 else m]) ++ chl (m - 8) = _; rw [← he, chl_round (m := m) (by omega)]; simp, by dsimp only; omega, by dsimp only; omega, by simp; omega, by simp; omega⟩) (by show (m - 8 + 8).toNat < (m + 8).toNat; omega) (Knows.cons rfl (Knows.cons (look_eq rfl (by dsimp only; simp)) Knows.nil)) (by dsimp only; rw [intC_append, List.length_append]; exact (by repeat (first | exact Sees.refl | (apply Sees.cons; (focus ((repeat (first | exact Z0 | apply Sel.there)); done))) | apply Sees.skip)))
      · skip
        refine ct_exit ?_
        refine xt_exit_then ?_
        refine xt_exit_then ?_
        refine xt_exit_block ?_
        refine Kx1 3 rfl ?_
        refine Cr ?_
        refine Rp rfl (pv_move rfl) ?_
        refine Rp rfl (pv_assign rfl) ?_
        refine Kn1 2 rfl ?_
        refine ct_ret ?_
        skip
        refine fin_ret (H' := own 1 p l.length c (intC l) :: F) (RVs.tmp rfl (RVs.nil)) Tryz.results157 (?_) ?_
        · have e : chl n = l := (by rw [← he, chl_nil (by omega)]; simp); rw [e]; exact ⟨_, _, rfl, rfl⟩
        · exact (by repeat (first | exact Sees.refl | (apply Sees.cons; (focus ((repeat (first | exact Z0 | apply Sel.there)); done))) | apply Sees.skip))
theorem in_done (ω : World) (b : Nat) (x0 x1 x2 x3 x4 x5 : Value) (x6 : Value) (xs : List Value) (at_ : Int) (hp : Option Addr) (hc : Nat) (f : FuncId) (l c : List Value) (R : List HP → Prop) (F : List HP) (hcf : ∀ args w, (callFunc f args).run Tryz.prog w = .ok (.enter f args) w) (hf : Spec ω Tryz.prog f (l ++ [] ++ c).toArray (row b 0 (x0 :: x1 :: x2 :: x3 :: x4 :: x5 :: x6 :: xs) :: F) fun v H => v = .tuple #[] ∧ R H) : Spec ω Tryz.prog 125 #[.pointer (some ⟨b, 0, none⟩), .int .i64 at_, .slice hp 0 hc, .func (.func f) l.toArray c.toArray] (row b 0 (x0 :: x1 :: x2 :: x3 :: x4 :: x5 :: x6 :: xs) :: F) fun v' H' => v' = .tuple #[] ∧ R H' := by
  refine spec_of_body Tryz.func125 rfl Tryz.ntmps125 rfl ?_
  refine Cr ?_
  refine Ro rfl (ot_box rfl rfl (rfl : _ = [_])) ?_
  rintro _ _ ⟨b4, rfl, rfl⟩
  refine Ro rfl (ot_box rfl rfl (rfl : _ = [_])) ?_
  rintro _ _ ⟨b5, rfl, rfl⟩
  refine Ro rfl (ot_box rfl rfl (rfl : _ = [_])) ?_
  rintro _ _ ⟨b6, rfl, rfl⟩
  refine Ro rfl (ot_box rfl rfl (rfl : _ = [_])) ?_
  rintro _ _ ⟨b7, rfl, rfl⟩
  refine Kn4 4 5 6 7 rfl ?_
  refine ct_seq ?_
  refine Cr ?_
  refine Rq rfl (oq_load rfl rfl Tryz.isAgg29 (by repeat (first | exact Z0 | apply Sel.there)) (by rfl) (by rfl)) ?_
  refine Rp rfl (pv_len_slice rfl rfl Tryz.runUnderlying29) ?_
  refine Rp rfl (pv_bin rfl rfl rfl) ?_
  refine Kn5 4 5 6 7 11 rfl ?_
  first | refine ct_cond_d rfl (fun h11 => ?_) (fun h11 => ?_) | refine ct_cond_n rfl (fun h11 => ?_) (fun h11 => ?_) | refine ct_cond_b rfl (fun h11 => ?_) (fun h11 => ?_) | refine ct_cond rfl (fun h11 => ?_) (fun h11 => ?_)
  · skip
    refine Cr ?_
    refine Rq rfl (oq_load rfl rfl Tryz.isAgg1 (by repeat (first | exact Z0 | apply Sel.there)) (by rfl) (by rfl)) ?_
    refine Ro rfl (ot_callv (l := l) (c := c) (vs := []) rfl rfl hcf rfl (by repeat (first | exact Sees.refl | (apply Sees.cons; (focus ((repeat (first | exact Z0 | apply Sel.there)); done))) | apply Sees.skip)) hf) ?_
    rintro _ _ ⟨rfl, hR⟩
    refine rl_nil ?_
    refine xt_then ?_
    refine CT.weaken (E' := []) (Knows.nil) Sees.refl ?_
    refine ct_ret ?_
    refine xt_ret_then ?_
    exact fin_ret (RVs.nil) Tryz.results125 (⟨rfl, hR⟩) (.refl)
  · exfalso; first | omega | (simp_all; done) | (simp_all; omega)
theorem in_more (ω : World) (b : Nat) (x0 x1 x2 x3 x4 x5 : Value) (x6 : Value) (xs : List Value) (at_ : Int) (hp : Option Addr) (n hc : Nat) (fn : Fn) (l c : Array Value) (h1 : 1 ≤ n) (h2 : n ≤ 131072) (h3 : n ≤ hc) (F : List HP)  : Spec ω Tryz.prog 125 #[.pointer (some ⟨b, 0, none⟩), .int .i64 at_, .slice hp n hc, .func fn l c] (row b 0 (x0 :: x1 :: x2 :: x3 :: x4 :: x5 :: x6 :: xs) :: F) fun v' H' => ∃ b4 b5 b6 b7 b8, v' = .tuple #[] ∧ H' = row b 0 (.int .i64 6 :: .int .i64 (at_) :: .int .i64 (chk (n) : Int) :: .int .u64 0 :: .int .u64 0 :: .slice hp (chk (n)) (chk (n)) :: .func (.func 158) #[] #[.pointer (some ⟨b4, 0, none⟩), .pointer (some ⟨b5, 0, none⟩), .pointer (some ⟨b8, 0, none⟩), .pointer (some ⟨b6, 0, none⟩), .pointer (some ⟨b7, 0, none⟩)] :: xs) :: row b8 0 [.int .i64 (chk (n) : Int)] :: row b7 0 [.func fn l c] :: row b6 0 [.slice hp (n) (hc)] :: row b5 0 [.int .i64 (at_)] :: row b4 0 [.pointer (some ⟨b, 0, none⟩)] :: F := by
  refine spec_of_body Tryz.func125 rfl Tryz.ntmps125 rfl ?_
  refine Cr ?_
  refine Ro rfl (ot_box rfl rfl (rfl : _ = [_])) ?_
  rintro _ _ ⟨b4, rfl, rfl⟩
  refine Ro rfl (ot_box rfl rfl (rfl : _ = [_])) ?_
  rintro _ _ ⟨b5, rfl, rfl⟩
  refine Ro rfl (ot_box rfl rfl (rfl : _ = [_])) ?_
  rintro _ _ ⟨b6, rfl, rfl⟩
  refine Ro rfl (ot_box rfl rfl (rfl : _ = [_])) ?_
  rintro _ _ ⟨b7, rfl, rfl⟩
  refine Kn4 4 5 6 7 rfl ?_
  refine ct_seq ?_
  refine Cr ?_
  refine Rq rfl (oq_load rfl rfl Tryz.isAgg29 (by repeat (first | exact Z0 | apply Sel.there)) (by rfl) (by rfl)) ?_
  refine Rp rfl (pv_len_slice rfl rfl Tryz.runUnderlying29) ?_
  refine Rp rfl (pv_bin rfl rfl rfl) ?_
  refine Kn5 4 5 6 7 11 rfl ?_
  first | refine ct_cond_d rfl (fun h11 => ?_) (fun h11 => ?_) | refine ct_cond_n rfl (fun h11 => ?_) (fun h11 => ?_) | refine ct_cond_b rfl (fun h11 => ?_) (fun h11 => ?_) | refine ct_cond rfl (fun h11 => ?_) (fun h11 => ?_)
  · exfalso; first | omega | (simp_all; done) | (simp_all; omega)
  · have hn0 : 1 ≤ n := h1
    refine ct_skip ?_
    refine Kx4 4 5 6 7 rfl ?_
    refine Cr ?_
    refine Rq rfl (oq_load rfl rfl Tryz.isAgg29 (by repeat (first | exact Z0 | apply Sel.there)) (by rfl) (by rfl)) ?_
    refine Rp rfl (pv_len_slice rfl rfl Tryz.runUnderlying29) ?_
    refine Ro rfl (ot_call rfl Tryz.call157 (vs := [_]) rfl (by repeat (first | exact Sees.refl | (apply Sees.cons; (focus ((repeat (first | exact Z0 | apply Sel.there)); done))) | apply Sees.skip)) (chunks_spec _ _ (by omega) (by omega) _)) ?_
    rintro _ _ ⟨p16, c16, rfl, rfl⟩
    have hch : (chl (n : Int))[0]? = some ((chk n : Nat) : Int) := by rw [chl_cons (by omega), chunk_nat]; rfl
    refine rl_own (by repeat (first | exact Z0 | apply Sel.there)) fun _ _ hp16 => ?_
    have hlen : 0 < (chl (n : Int)).length := by rw [chl_cons (by omega)]; simp
    rcases hp16 with ⟨rfl, hz, _⟩ | ⟨b16, o16, rfl⟩; omega
    refine Rp rfl (pv_indexAddrN (j := 0) rfl rfl Tryz.runUnderlying134 Tryz.sizeOf3 rfl (by omega)) ?_
    refine Rq rfl (oq_loadOwn (j := 0) rfl rfl Tryz.isAgg3 (by repeat (first | exact Z0 | apply Sel.there)) (by omega) (intC_get hch)) ?_
    refine Ro rfl (ot_alloc rfl Tryz.zeroValue3 (rfl : _ = [_])) ?_
    rintro _ _ ⟨b8, rfl, rfl⟩
    refine rl_op0 rfl rfl (ot_store rfl rfl rfl Tryz.sizeOf3 (by repeat (first | exact Z0 | apply Sel.there)) (rfl : _ = [_]) rfl (by rfl) (by rfl) (by first | rfl | assumption) (by exact (rfl : _ = _ :: _))) ?_
    rintro _ _ rfl
    refine Kn5 4 5 6 7 8 rfl ?_
    refine ct_planH [.q 0, .q 1, .q 2, .q 3, .q 4, .q 5, .q 6, .q 7, .q 8, .b 9] mixed (by decide +kernel) ?_
    refine pw_q rfl rfl rfl rfl (oq_load rfl rfl Tryz.isAgg189 (by repeat (first | exact Z0 | apply Sel.there)) (by rfl) (by rfl)) ?_
    refine pw_q rfl rfl rfl rfl (oq_load rfl rfl Tryz.isAgg3 (by repeat (first | exact Z0 | apply Sel.there)) (by rfl) (by rfl)) ?_
    refine pw_q rfl rfl rfl rfl (oq_load rfl rfl Tryz.isAgg3 (by repeat (first | exact Z0 | apply Sel.there)) (by rfl) (by rfl)) ?_
    refine pw_q rfl rfl rfl rfl (oq_load rfl rfl Tryz.isAgg29 (by repeat (first | exact Z0 | apply Sel.there)) (by rfl) (by rfl)) ?_
    refine pw_q rfl rfl rfl rfl (oq_load rfl rfl Tryz.isAgg3 (by repeat (first | exact Z0 | apply Sel.there)) (by rfl) (by rfl)) ?_
    refine pw_q rfl rfl rfl rfl (oq_load rfl rfl Tryz.isAgg3 (by repeat (first | exact Z0 | apply Sel.there)) (by rfl) (by rfl)) ?_
    refine pw_q rfl rfl rfl rfl (oq_pv (pv_pre rfl rfl rfl Tryz.runUnderlying29 Tryz.sizeOf5 (by have := (chk_le n).1; omega))) ?_
    refine pw_q rfl rfl rfl rfl (oq_pv (pv_build (ps := [(0, _), (1, _), (2, _), (5, _)]) (cs := [_, _, _, _, _, _]) rfl Tryz.zeroValue36 Tryz.runUnderlying36 (.cons Tryz.sizeOf3 (.cons Tryz.sizeOf3 (.cons Tryz.sizeOf3 (.cons Tryz.sizeOf28 (.cons Tryz.sizeOf28 (.cons Tryz.sizeOf29 (.nil))))))) rfl)) ?_
    refine pw_q rfl rfl rfl rfl (oq_pv (pv_makeFunc (l := []) (c := [_, _, _, _, _]) rfl rfl)) ?_
    refine pw_b rfl rfl rfl rfl (ot_call rfl Tryz.call86 (vs := [_, _, _]) rfl (by repeat (first | exact Sees.refl | (apply Sees.cons; (focus ((repeat (first | exact Z0 | apply Sel.there)); done))) | apply Sees.skip)) (do_spec _ _ _ _ _ _ _ _ _ _ _ _ _ _ _ _ _ _ _ _ _ _)) ?_
    rintro _ _ ⟨rfl, rfl⟩
    refine pw_done ?_
    exact fin_end (RVs.nil) Tryz.results125 (⟨_, _, _, _, _, rfl, rfl⟩) (by repeat (first | exact Sees.refl | (apply Sees.cons; (focus ((repeat (first | exact Z0 | apply Sel.there)); done))) | apply Sees.skip))
theorem in1_more (ω : World) (av : Int) (ad : Bool) (ap : Option Addr) (an ac : Nat) (b q4 q5 q6 q7 q8 : Nat) (x0 x1 x2 x3 x4 x5 : Value) (x6 : Value) (xs : List Value) (at_ : Int) (hp : Option Addr) (n hc : Nat) (h3 : n ≤ hc) (h2 : n ≤ 131072) (fn : Fn) (l c : Array Value) (h1 : 1 ≤ n - chk n) (F : List HP)  : Spec ω Tryz.prog 158 #[.agg #[.int .u64 av, .bool ad, .slice ap an ac], .pointer (some ⟨q4, 0, none⟩), .pointer (some ⟨q5, 0, none⟩), .pointer (some ⟨q8, 0, none⟩), .pointer (some ⟨q6, 0, none⟩), .pointer (some ⟨q7, 0, none⟩)] (row b 0 (x0 :: x1 :: x2 :: x3 :: x4 :: x5 :: x6 :: xs) :: row q8 0 [.int .i64 (chk (n) : Int)] :: row q7 0 [.func fn l c] :: row q6 0 [.slice hp (n) (hc)] :: row q5 0 [.int .i64 (at_)] :: row q4 0 [.pointer (some ⟨b, 0, none⟩)] :: F) fun v' H' => ∃ b4 b5 b6 b7 b8, v' = .tuple #[] ∧ H' = row b 0 (.int .i64 6 :: .int .i64 (IntKind.i64.wrap (at_ + (chk n : Int))) :: .int .i64 (chk (n - chk n) : Int) :: .int .u64 0 :: .int .u64 0 :: .slice (cutp hp (chk n) hc 1) (chk (n - chk n)) (chk (n - chk n)) :: .func (.func 158) #[] #[.pointer (some ⟨b4, 0, none⟩), .pointer (some ⟨b5, 0, none⟩), .pointer (some ⟨b8, 0, none⟩), .pointer (some ⟨b6, 0, none⟩), .pointer (some ⟨b7, 0, none⟩)] :: xs) :: row b8 0 [.int .i64 (chk (n - chk n) : Int)] :: row b7 0 [.func fn l c] :: row b6 0 [.slice (cutp hp (chk n) hc 1) (n - chk n) (hc - chk n)] :: row b5 0 [.int .i64 (IntKind.i64.wrap (at_ + (chk n : Int)))] :: row b4 0 [.pointer (some ⟨b, 0, none⟩)] :: F := by
  refine spec_of_body Tryz.func158 rfl Tryz.ntmps158 rfl ?_
  refine Cr ?_
  refine Ro rfl (ot_box rfl rfl (rfl : _ = [_, _, _])) ?_
  rintro _ _ ⟨b6, rfl, rfl⟩
  refine Kn5 1 2 3 4 5 rfl ?_
  refine ct_planH [.q 0, .q 1, .q 2, .q 3, .q 4, .q 5, .q 6, .q 7, .b 8] mixed (by decide +kernel) ?_
  refine pw_q rfl rfl rfl rfl (oq_load rfl rfl Tryz.isAgg189 (by repeat (first | exact Z0 | apply Sel.there)) (by rfl) (by rfl)) ?_
  refine pw_q rfl rfl rfl rfl (oq_load rfl rfl Tryz.isAgg3 (by repeat (first | exact Z0 | apply Sel.there)) (by rfl) (by rfl)) ?_
  refine pw_q rfl rfl rfl rfl (oq_load rfl rfl Tryz.isAgg3 (by repeat (first | exact Z0 | apply Sel.there)) (by rfl) (by rfl)) ?_
  refine pw_q rfl rfl rfl rfl (oq_pv (pv_bin rfl rfl rfl)) ?_
  refine pw_q rfl rfl rfl rfl (oq_load rfl rfl Tryz.isAgg29 (by repeat (first | exact Z0 | apply Sel.there)) (by rfl) (by rfl)) ?_
  refine pw_q rfl rfl rfl rfl (oq_load rfl rfl Tryz.isAgg3 (by repeat (first | exact Z0 | apply Sel.there)) (by rfl) (by rfl)) ?_
  refine pw_q rfl rfl rfl rfl (oq_pv (pv_suf (k := chk n) rfl rfl Tryz.runUnderlying29 Tryz.sizeOf5 (chk_le n).1 h3)) ?_
  refine pw_q rfl rfl rfl rfl (oq_load rfl rfl Tryz.isAgg1 (by repeat (first | exact Z0 | apply Sel.there)) (by rfl) (by rfl)) ?_
  refine pw_b rfl rfl rfl rfl (ot_call rfl Tryz.call125 (vs := [_, _, _, _]) rfl (by repeat (first | exact Sees.refl | (apply Sees.cons; (focus ((repeat (first | exact Z0 | apply Sel.there)); done))) | apply Sees.skip)) (in_more _ _ _ _ _ _ _ _ _ _ _ _ _ _ _ _ _ h1 (by omega) (by omega) _)) ?_
  rintro _ _ ⟨b4, b5, b6, b7, b8, rfl, rfl⟩
  refine pw_done ?_
  exact fin_end (RVs.nil) Tryz.results158 (⟨_, _, _, _, _, rfl, rfl⟩) (by repeat (first | exact Sees.refl | (apply Sees.cons; (focus ((repeat (first | exact Z0 | apply Sel.there)); done))) | apply Sees.skip))
theorem in1_done (ω : World) (av : Int) (ad : Bool) (ap : Option Addr) (an ac : Nat) (b q4 q5 q6 q7 q8 : Nat) (x0 x1 x2 x3 x4 x5 : Value) (x6 : Value) (xs : List Value) (at_ : Int) (hp : Option Addr) (n hc : Nat) (h3 : n ≤ hc) (h2 : n ≤ 131072) (f : FuncId) (l c : List Value) (h1 : n - chk n = 0) (R : List HP → Prop) (F : List HP) (hcf : ∀ args w, (callFunc f args).run Tryz.prog w = .ok (.enter f args) w) (hf : Spec ω Tryz.prog f (l ++ [] ++ c).toArray (row b 0 (x0 :: x1 :: x2 :: x3 :: x4 :: x5 :: x6 :: xs) :: F) fun v H => v = .tuple #[] ∧ R H) : Spec ω Tryz.prog 158 #[.agg #[.int .u64 av, .bool ad, .slice ap an ac], .pointer (some ⟨q4, 0, none⟩), .pointer (some ⟨q5, 0, none⟩), .pointer (some ⟨q8, 0, none⟩), .pointer (some ⟨q6, 0, none⟩), .pointer (some ⟨q7, 0, none⟩)] (row b 0 (x0 :: x1 :: x2 :: x3 :: x4 :: x5 :: x6 :: xs) :: row q8 0 [.int .i64 (chk (n) : Int)] :: row q7 0 [.func (.func f) l.toArray c.toArray] :: row q6 0 [.slice hp (n) (hc)] :: row q5 0 [.int .i64 (at_)] :: row q4 0 [.pointer (some ⟨b, 0, none⟩)] :: F) fun v' H' => v' = .tuple #[] ∧ R H' := by
  refine spec_of_body Tryz.func158 rfl Tryz.ntmps158 rfl ?_
  refine Cr ?_
  refine Ro rfl (ot_box rfl rfl (rfl : _ = [_, _, _])) ?_
  rintro _ _ ⟨b6, rfl, rfl⟩
  refine Kn5 1 2 3 4 5 rfl ?_
  refine ct_planH [.q 0, .q 1, .q 2, .q 3, .q 4, .q 5, .q 6, .q 7, .b 8] mixed (by decide +kernel) ?_
  refine pw_q rfl rfl rfl rfl (oq_load rfl rfl Tryz.isAgg189 (by repeat (first | exact Z0 | apply Sel.there)) (by rfl) (by rfl)) ?_
  refine pw_q rfl rfl rfl rfl (oq_load rfl rfl Tryz.isAgg3 (by repeat (first | exact Z0 | apply Sel.there)) (by rfl) (by rfl)) ?_
  refine pw_q rfl rfl rfl rfl (oq_load rfl rfl Tryz.isAgg3 (by repeat (first | exact Z0 | apply Sel.there)) (by rfl) (by rfl)) ?_
  refine pw_q rfl rfl rfl rfl (oq_pv (pv_bin rfl rfl rfl)) ?_
  refine pw_q rfl rfl rfl rfl (oq_load rfl rfl Tryz.isAgg29 (by repeat (first | exact Z0 | apply Sel.there)) (by rfl) (by rfl)) ?_
  refine pw_q rfl rfl rfl rfl (oq_load rfl rfl Tryz.isAgg3 (by repeat (first | exact Z0 | apply Sel.there)) (by rfl) (by rfl)) ?_
  refine pw_q rfl rfl rfl rfl (oq_pv (pv_suf (k := chk n) rfl rfl Tryz.runUnderlying29 Tryz.sizeOf5 (chk_le n).1 h3)) ?_
  rw [h1]
  refine pw_q rfl rfl rfl rfl (oq_load rfl rfl Tryz.isAgg1 (by repeat (first | exact Z0 | apply Sel.there)) (by rfl) (by rfl)) ?_
  refine pw_b rfl rfl rfl rfl (ot_call rfl Tryz.call125 (vs := [_, _, _, _]) rfl (by repeat (first | exact Sees.refl | (apply Sees.cons; (focus ((repeat (first | exact Z0 | apply Sel.there)); done))) | apply Sees.skip)) (in_done _ _ _ _ _ _ _ _ _ _ _ _ _ _ _ _ _ _ hcf hf)) ?_
  rintro _ _ ⟨rfl, hR⟩
  refine pw_done ?_
  exact fin_end (RVs.nil) Tryz.results158 (⟨rfl, hR⟩) (.refl)
section
variable {ω : World} {av : Int} {ad : Bool} {ap : Option Addr} {an ac b q4 q5 q6 q7 q8 : Nat} {x0 x1 x2 x3 x4 x5 x6 : Value} {xs : List Value} {at_ : Int} {hp : Option Addr} {n hc : Nat} {f : FuncId} {fn : Fn} {l0 c0 : Array Value} {l cp : List Value} {F : List HP} {R : Value → List HP → Prop}
theorem in_doneR (hn : n = 0) (hcf : ∀ args w, (callFunc f args).run Tryz.prog w = .ok (.enter f args) w)
    (hf : Spec ω Tryz.prog f (l ++ cp).toArray (row b 0 (x0 :: x1 :: x2 :: x3 :: x4 :: x5 :: x6 :: xs) :: F) fun v H => v = .tuple #[] ∧ R (.tuple #[]) H) :
    Spec ω Tryz.prog 125 #[.pointer (some ⟨b, 0, none⟩), .int .i64 at_, .slice hp n hc, .func (.func f) l.toArray cp.toArray] (row b 0 (x0 :: x1 :: x2 :: x3 :: x4 :: x5 :: x6 :: xs) :: F) R := by
  subst hn
  refine (in_done ω b x0 x1 x2 x3 x4 x5 x6 xs at_ hp hc f l cp (fun H => R (.tuple #[]) H) F hcf (by rw [List.append_nil]; exact hf)).mono ?_
  rintro v H ⟨rfl, h⟩; exact h
theorem in_moreR (h1 : 1 ≤ n) (h2 : n ≤ 131072) (h3 : n ≤ hc) : Spec ω Tryz.prog 125 #[.pointer (some ⟨b, 0, none⟩), .int .i64 at_, .slice hp n hc, .func fn l0 c0] (row b 0 (x0 :: x1 :: x2 :: x3 :: x4 :: x5 :: x6 :: xs) :: F) fun v' H' =>
    ∃ b4 b5 b6 b7 b8, v' = .tuple #[] ∧ H' = row b 0 (.int .i64 6 :: .int .i64 (at_) :: .int .i64 (chk (n) : Int) :: .int .u64 0 :: .int .u64 0 :: .slice hp (chk (n)) (chk (n)) :: .func (.func 158) #[] #[.pointer (some ⟨b4, 0, none⟩), .pointer (some ⟨b5, 0, none⟩), .pointer (some ⟨b8, 0, none⟩), .pointer (some ⟨b6, 0, none⟩), .pointer (some ⟨b7, 0, none⟩)] :: xs) :: row b8 0 [.int .i64 (chk (n) : Int)] :: row b7 0 [.func fn l0 c0] :: row b6 0 [.slice hp (n) (hc)] :: row b5 0 [.int .i64 (at_)] :: row b4 0 [.pointer (some ⟨b, 0, none⟩)] :: F := in_more ω b x0 x1 x2 x3 x4 x5 x6 xs at_ hp n hc fn l0 c0 h1 h2 h3 F
theorem in1_doneR (h2 : n ≤ 131072) (h3 : n ≤ hc) (hn : n - chk n = 0) (hcf : ∀ args w, (callFunc f args).run Tryz.prog w = .ok (.enter f args) w)
    (hf : Spec ω Tryz.prog f (l ++ cp).toArray (row b 0 (x0 :: x1 :: x2 :: x3 :: x4 :: x5 :: x6 :: xs) :: F) fun v H => v = .tuple #[] ∧ R (.tuple #[]) H) :
    Spec ω Tryz.prog 158 #[.agg #[.int .u64 av, .bool ad, .slice ap an ac], .pointer (some ⟨q4, 0, none⟩), .pointer (some ⟨q5, 0, none⟩), .pointer (some ⟨q8, 0, none⟩), .pointer (some ⟨q6, 0, none⟩), .pointer (some ⟨q7, 0, none⟩)] (row b 0 (x0 :: x1 :: x2 :: x3 :: x4 :: x5 :: x6 :: xs) :: row q8 0 [.int .i64 (chk (n) : Int)] :: row q7 0 [.func (.func f) l.toArray cp.toArray] :: row q6 0 [.slice hp (n) (hc)] :: row q5 0 [.int .i64 (at_)] :: row q4 0 [.pointer (some ⟨b, 0, none⟩)] :: F) R := by
  refine (in1_done ω av ad ap an ac b q4 q5 q6 q7 q8 x0 x1 x2 x3 x4 x5 x6 xs at_ hp n hc h3 h2 f l cp hn (fun H => R (.tuple #[]) H) F hcf (by rw [List.append_nil]; exact hf)).mono ?_
  rintro v H ⟨rfl, h⟩; exact h
theorem in1_moreR {lb : List UInt8} (hn : 1 ≤ lb.length - chk lb.length) (h2 : lb.length ≤ 131072) (h3 : lb.length ≤ hc) : Spec ω Tryz.prog 158 #[.agg #[.int .u64 av, .bool ad, .slice ap an ac], .pointer (some ⟨q4, 0, none⟩), .pointer (some ⟨q5, 0, none⟩), .pointer (some ⟨q8, 0, none⟩), .pointer (some ⟨q6, 0, none⟩), .pointer (some ⟨q7, 0, none⟩)] (row b 0 (x0 :: x1 :: x2 :: x3 :: x4 :: x5 :: x6 :: xs) :: row q8 0 [.int .i64 (chk (lb.length) : Int)] :: row q7 0 [.func fn l0 c0] :: row q6 0 [.slice hp (lb.length) (hc)] :: row q5 0 [.int .i64 (at_)] :: row q4 0 [.pointer (some ⟨b, 0, none⟩)] :: F) fun v' H' =>
    ∃ b4 b5 b6 b7 b8, v' = .tuple #[] ∧ H' = row b 0 (.int .i64 6 :: .int .i64 (IntKind.i64.wrap (at_ + (chk lb.length : Int))) :: .int .i64 (chk ((lb.drop (chk lb.length)).length) : Int) :: .int .u64 0 :: .int .u64 0 :: .slice (cutp hp (chk lb.length) hc 1) (chk ((lb.drop (chk lb.length)).length)) (chk ((lb.drop (chk lb.length)).length)) :: .func (.func 158) #[] #[.pointer (some ⟨b4, 0, none⟩), .pointer (some ⟨b5, 0, none⟩), .pointer (some ⟨b8, 0, none⟩), .pointer (some ⟨b6, 0, none⟩), .pointer (some ⟨b7, 0, none⟩)] :: xs) :: row b8 0 [.int .i64 (chk ((lb.drop (chk lb.length)).length) : Int)] :: row b7 0 [.func fn l0 c0] :: row b6 0 [.slice (cutp hp (chk lb.length) hc 1) ((lb.drop (chk lb.length)).length) (hc - chk lb.length)] :: row b5 0 [.int .i64 (IntKind.i64.wrap (at_ + (chk lb.length : Int)))] :: row b4 0 [.pointer (some ⟨b, 0, none⟩)] :: F := by
  have := in1_more ω av ad ap an ac b q4 q5 q6 q7 q8 x0 x1 x2 x3 x4 x5 x6 xs at_ hp lb.length hc h3 h2 fn l0 c0 hn F
  rw [← List.length_drop] at this
  exact this
end
end Go.Proofs.YtnjljfjncfbinaaGreat
