/- Contracts: machines that share a buffer, step by step. -/
import Derived.Test.YtnjljfjncfbinaaGreatSq
import Derived.Test.YtnjljfjncfbinaaGreatFp
set_option linter.all false
namespace Go.Proofs.YtnjljfjncfbinaaGreat
open Go Go.Proofs
set_option maxRecDepth 100000
set_option linter.unusedVariables false
attribute [local irreducible] RL CT XT OQ OT PW PG PV Upon wpL
theorem step_spec (ω : World) (K : MK) (hk : MKok K) (wd bb ab mb : Nat) (s : K.S) (a : AccD) (hw : K.want s = some a) (m m' : List Int) (y : Ans) (hy : mdo m a = some (m', y)) (n : Nat) (hinv : K.inv (n + 1) s) (hyv : inK .u64 y.v) (hyd : y.data.length ≤ 8) (had : a.data.length ≤ 8) (xb : Nat) (W1 W2 W3 x0 x1 x2 x3 x4 x5 x6 x7 x8 x9 x10 x11 : Value) (hpl : plainCells [x0, x1, x2, x3, x4, x5, x6, x7, x8, x9, x10, x11] = true) (F : List HP) : Spec ω Tryz.prog 73 #[.pointer (some ⟨wd, 0, none⟩), .pointer (some ⟨ab, 0, none⟩), .pointer (some ⟨xb, 0, none⟩)] (row wd 0 [.pointer (some ⟨bb, 0, none⟩), W1, W2, W3] :: row ab 0 [.iface K.tid (.pointer (some ⟨mb, 0, none⟩)), .bool false] :: row xb 0 [x0, x1, x2, x3, x4, x5, x6, x7, x8, x9, x10, x11] :: bufRep bb m :: K.rep mb s :: F) fun v' H' => ∃ pa ca py cy, v' = .int .i64 0 ∧ H' = row wd 0 [.pointer (some ⟨bb, 0, none⟩), W1, W2, W3] :: row ab 0 [.iface K.tid (.pointer (some ⟨mb, 0, none⟩)), .bool false] :: row xb 0 [x0, x1, x2, .int .i64 a.k, .int .i64 a.at_, .int .i64 a.n, .int .u64 a.v, .int .u64 a.w, .slice pa a.data.length ca, .int .u64 y.v, .bool y.d, .slice py y.data.length cy] :: bufRep bb m' :: K.rep mb (K.take s y) :: own 1 pa a.data.length ca (byteC a.data) :: own 1 py y.data.length cy (byteC y.data) :: F := by
  refine spec_of_body Tryz.func73 rfl Tryz.ntmps73 rfl ?_
  refine Cr ?_
  refine Rp rfl (pv_assign rfl) ?_
  refine Kn3 0 1 2 rfl ?_
  refine Cr ?_
  refine Rp rfl (pv_move rfl) ?_
  refine rl_call rfl rfl (by decide) Tryz.call38 (vs := [_]) rfl Tryz.func38 rfl Tryz.ntmps38 rfl rfl ?_
  refine Cr ?_
  refine Ro rfl (ot_alloc rfl Tryz.zeroValue36 (rfl : _ = [_, _, _, _, _, _])) ?_
  rintro _ _ ⟨b1, rfl, rfl⟩
  refine Rp rfl (pv_assign rfl) ?_
  refine Kn2 0 2 rfl ?_
  refine ct_seq ?_
  refine Cr ?_
  refine Rp rfl (pv_move rfl) ?_
  refine Rp rfl (pv_nilCheck rfl) ?_
  refine Rp rfl (pv_fieldAddr (k := 0) rfl Tryz.runUnderlying119 rfl Tryz.sizeOf116 rfl rfl) ?_
  refine Rq rfl (oq_load rfl rfl Tryz.isAgg116 Z2 (by rfl) (by rfl)) ?_
  refine Rp rfl (pv_eql rfl rfl Tryz.runUnderlying116 rfl) ?_
  refine Kn3 0 2 8 rfl ?_
  refine ct_false rfl ?_
  refine ct_skip ?_
  refine Kx2 0 2 rfl ?_
  refine Cr ?_
  refine Rp rfl (pv_move rfl) ?_
  refine Rp rfl (pv_nilCheck rfl) ?_
  refine Rp rfl (pv_fieldAddr (k := 0) rfl Tryz.runUnderlying119 rfl Tryz.sizeOf116 rfl rfl) ?_
  refine Rq rfl (oq_load rfl rfl Tryz.isAgg116 Z2 (by rfl) (by rfl)) ?_
  refine Ro rfl (ot_invoke rfl rfl hk.mN hk.cN (vs := []) rfl (Sees.cons Z5 Sees.refl) (hk.next_some _ mb s a hw _)) ?_
  rintro _ _ ⟨Xm, pm, cm, rfl, hrd, hrep, rfl⟩
  refine Rp rfl (pv_extract rfl rfl) ?_
  refine Rp rfl (pv_extract rfl rfl) ?_
  refine rl_op0 rfl rfl (ot_store rfl rfl rfl Tryz.sizeOf36 Z1 (rfl : _ = [_, _, _, _, _, _]) rfl (by rfl) (by rfl) (by first | rfl | assumption) (by exact (rfl : _ = [_, _, _, _, _, _]))) ?_
  rintro _ _ rfl
  refine Rp rfl (pv_assign rfl) ?_
  refine Kn2 2 3 rfl ?_
  refine ct_ret ?_
  refine fin_ret (RVs.agg (us := [_, _, _, _, _, _]) rfl Tryz.isAgg36 Tryz.sizeOf36 Z0 (by rfl) (by rfl) (by rfl) (RVs.tmp rfl (RVs.nil))) Tryz.results38 ?_ Sees.refl
  refine Rp rfl (pv_move rfl) ?_
  refine Rp rfl (pv_extract rfl rfl) ?_
  refine Rp rfl (pv_extract rfl rfl) ?_
  refine Ro rfl (ot_alloc rfl Tryz.zeroValue36 (rfl : _ = [_, _, _, _, _, _])) ?_
  rintro _ _ ⟨b2, rfl, rfl⟩
  refine rl_op0 rfl rfl (ot_store rfl rfl rfl Tryz.sizeOf36 Z0 (rfl : _ = [_, _, _, _, _, _]) rfl (by rfl) (by rfl) (by first | rfl | assumption) (by exact (rfl : _ = [_, _, _, _, _, _]))) ?_
  rintro _ _ rfl
  refine Rp rfl (pv_assign rfl) ?_
  refine Kn5 0 1 2 7 8 rfl ?_
  refine ct_seq ?_
  refine Cr ?_
  refine Rp rfl (pv_move rfl) ?_
  refine Rp rfl (pv_not rfl) ?_
  refine Kn5 0 1 2 7 17 rfl ?_
  refine ct_false rfl ?_
  refine ct_skip ?_
  refine Kx4 0 1 2 7 rfl ?_
  refine Cr ?_
  refine Rp rfl (pv_fieldAddr (k := 5) rfl Tryz.runUnderlying36 rfl Tryz.sizeOf29 rfl rfl) ?_
  refine Rq rfl (oq_load rfl rfl Tryz.isAgg29 Z0 (by rfl) (by rfl)) ?_
  refine Ro rfl (ot_call rfl Tryz.call35 (vs := [_]) rfl (Sees.cons Z2 (Sees.refl)) (cloneBytes _ Xm pm a.data.length cm (byteC a.data) (hrd) (plain_byteC _) (by omega) _)) ?_
  rintro _ _ ⟨p5, c6, rfl, rfl⟩
  refine Rp rfl (pv_fieldAddr (k := 5) rfl Tryz.runUnderlying36 rfl Tryz.sizeOf29 rfl rfl) ?_
  refine rl_op0 rfl rfl (ot_store rfl rfl rfl Tryz.sizeOf29 Z2 (rfl : _ = [_]) rfl (by rfl) (by rfl) (by first | rfl | assumption) (by exact (rfl : _ = [_, _, _, _, _, _]))) ?_
  rintro _ _ rfl
  refine Kn4 0 1 2 7 rfl ?_
  refine ct_seq ?_
  refine ct_planG [.q 0, .q 1, .q 2, .q 3, .q 4, .b 5, .q 6, .q 7, .q 8, .a 9, .e 10, .q 11] (_ :: _ :: _ :: _ :: _ :: _ :: _ :: _ :: F) [] mixed (allocs_of [9] (allocsL_cons rfl rfl rfl rfl rfl Tryz.zeroValue31 (AllocsL.nil)) (by decide +kernel)) (by decide +kernel) (Sees.cons Z0 (Sees.cons Z0 (Sees.cons Z0 (Sees.cons Z0 (Sees.cons Z0 (Sees.cons Z0 (Sees.cons Z0 (Sees.cons Z0 (Sees.refl))))))))) ?_
  refine pg_q rfl rfl rfl rfl (oq_pv (pv_move rfl)) ?_
  refine pg_q rfl rfl rfl rfl (oq_pv (pv_nilCheck rfl)) ?_
  refine pg_q rfl rfl rfl rfl (oq_pv (pv_fieldAddr (k := 0) rfl Tryz.runUnderlying114 rfl Tryz.sizeOf53 rfl rfl)) ?_
  refine pg_q rfl rfl rfl rfl (oq_load rfl rfl Tryz.isAgg53 Z4 (by rfl) (by rfl)) ?_
  refine pg_q rfl rfl rfl rfl (oq_loadAgg (us := [_, _, _, _, _, _]) rfl rfl Tryz.isAgg36 Tryz.sizeOf36 Z0 (by rfl) (by rfl) (by rfl)) ?_
  refine pg_b rfl rfl rfl rfl (fun G9 => ?_)
  refine OT.mono ω _ (ot_call rfl Tryz.call113 (vs := [_, _]) rfl (Sees.cons Z7 (Sees.cons Z1 (Sees.refl))) (bdo_eq _ bb m m' a y hy _ _ _ (rd_own) _)) ?_
  rintro _ _ ⟨q7, d8, rfl, rfl⟩
  refine ⟨_ :: _ :: _ :: _ :: _ :: _ :: _ :: _ :: _ :: F, Sees.refl, ?_⟩
  refine pg_q rfl rfl rfl rfl (oq_pv (pv_move rfl)) ?_
  refine pg_q rfl rfl rfl rfl (oq_pv (pv_extract rfl rfl)) ?_
  refine pg_q rfl rfl rfl rfl (oq_pv (pv_extract rfl rfl)) ?_
  refine pg_a rfl rfl rfl rfl rfl Tryz.zeroValue31 (rfl : _ = [_, _, _]) ?_
  intro b10
  refine pg_e0 rfl rfl rfl (fun G11 => ?_)
  refine OT.mono ω _ (ot_store rfl rfl rfl Tryz.sizeOf31 Z0 (rfl : _ = [_, _, _]) rfl (by rfl) (by rfl) (by first | rfl | assumption) (by exact (rfl : _ = [_, _, _]))) ?_
  rintro _ _ rfl
  refine ⟨[_], Sees.cons Z0 (Sees.cons Z0 (Sees.cons Z0 (Sees.cons Z0 (Sees.cons Z0 (Sees.cons Z0 (Sees.cons Z0 (Sees.cons Z0 (Sees.cons Z0 (Sees.cons Z0 (Sees.refl)))))))))), ?_⟩
  refine pg_q rfl rfl rfl rfl (oq_pv (pv_assign rfl)) ?_
  refine pg_nil ?_
  refine Kx5 1 2 7 9 10 rfl ?_
  refine ct_seq ?_
  refine Cr ?_
  refine Rp rfl (pv_move rfl) ?_
  refine Rp rfl (pv_bin (v := .bool false) rfl rfl (by rfl)) ?_
  refine Kn6 1 2 7 9 10 32 rfl ?_
  refine ct_false rfl ?_
  refine ct_skip ?_
  refine Kx4 1 2 7 9 rfl ?_
  refine ct_seq ?_
  refine ct_plan [.q 0, .q 1, .q 2, .q 3, .q 4, .q 5, .e 6, .q 7, .q 8, .b 9] _ [_] mixed (by decide +kernel) (Sees.cons Z9 (Sees.cons Z0 (Sees.cons Z0 (Sees.cons Z0 (Sees.cons Z0 (Sees.cons Z0 (Sees.cons Z0 (Sees.cons Z0 (Sees.cons Z0 (Sees.cons Z0 (Sees.refl))))))))))) ?_
  refine pw_q rfl rfl rfl rfl (oq_pv (pv_move rfl)) ?_
  refine pw_q rfl rfl rfl rfl (oq_pv (pv_move rfl)) ?_
  refine pw_q rfl rfl rfl rfl (oq_loadAgg (us := [_, _, _, _, _, _]) rfl rfl Tryz.isAgg36 Tryz.sizeOf36 Z4 (by rfl) (by rfl) (by rfl)) ?_
  refine pw_q rfl rfl rfl rfl (oq_loadAgg (us := [_, _, _]) rfl rfl Tryz.isAgg31 Tryz.sizeOf31 Z0 (by rfl) (by rfl) (by rfl)) ?_
  refine pw_q rfl rfl rfl rfl (oq_pv (pv_nilCheck rfl)) ?_
  refine pw_q rfl rfl rfl rfl (oq_pv (pv_fieldAddr (k := 3) rfl Tryz.runUnderlying68 rfl Tryz.sizeOf36 rfl rfl)) ?_
  refine pw_e0 rfl rfl rfl (ot_store rfl rfl rfl Tryz.sizeOf36 Z0 (rfl : _ = [_, _, _, _, _, _]) rfl (by rfl) (by rfl) (by first | rfl | assumption) (by exact (rfl : _ = [_, _, _, _, _, _, _, _, _, _, _, _]))) ?_
  rintro _ _ rfl
  refine ⟨[_], Sees.cons Z0 (Sees.cons Z0 (Sees.cons Z0 (Sees.cons Z0 (Sees.cons Z0 (Sees.cons Z0 (Sees.cons Z0 (Sees.cons Z0 (Sees.cons Z0 (Sees.cons Z0 (Sees.refl)))))))))), ?_⟩
  refine pw_q rfl rfl rfl rfl (oq_pv (pv_nilCheck rfl)) ?_
  refine pw_q rfl rfl rfl rfl (oq_pv (pv_fieldAddr (k := 9) rfl Tryz.runUnderlying68 rfl Tryz.sizeOf31 rfl rfl)) ?_
  refine pw_b0 rfl rfl rfl (ot_store rfl rfl rfl Tryz.sizeOf31 Z0 (rfl : _ = [_, _, _]) rfl (by rfl) (by rfl) (by first | rfl | assumption) (by exact (rfl : _ = [_, _, _, _, _, _, _, _, _, _, _, _]))) ?_
  rintro _ _ rfl
  refine pw_done ?_
  refine Kx2 1 9 rfl ?_
  refine Cr ?_
  refine Rp rfl (pv_fieldAddr (k := 2) rfl Tryz.runUnderlying31 rfl Tryz.sizeOf29 rfl rfl) ?_
  refine Rq rfl (oq_load rfl rfl Tryz.isAgg29 Z1 (by rfl) (by rfl)) ?_
  refine Ro rfl (ot_call rfl Tryz.call35 (vs := [_]) rfl (Sees.cons Z3 (Sees.refl)) (cloneBytes _ (own 1 q7 y.data.length d8 (byteC y.data)) q7 y.data.length d8 (byteC y.data) (rd_own) (plain_byteC _) (by omega) _)) ?_
  rintro _ _ ⟨p14, c15, rfl, rfl⟩
  refine Rp rfl (pv_fieldAddr (k := 2) rfl Tryz.runUnderlying31 rfl Tryz.sizeOf29 rfl rfl) ?_
  refine rl_op0 rfl rfl (ot_store rfl rfl rfl Tryz.sizeOf29 Z3 (rfl : _ = [_]) rfl (by rfl) (by rfl) (by first | rfl | assumption) (by exact (rfl : _ = [_, _, _]))) ?_
  rintro _ _ rfl
  refine Kn2 1 9 rfl ?_
  refine ct_seq ?_
  refine ct_planH [.q 0, .q 1, .q 2, .q 3, .q 4, .b 5] mixed (by decide +kernel) ?_
  refine pw_q rfl rfl rfl rfl (oq_pv (pv_move rfl)) ?_
  refine pw_q rfl rfl rfl rfl (oq_pv (pv_nilCheck rfl)) ?_
  refine pw_q rfl rfl rfl rfl (oq_pv (pv_fieldAddr (k := 0) rfl Tryz.runUnderlying119 rfl Tryz.sizeOf116 rfl rfl)) ?_
  refine pw_q rfl rfl rfl rfl (oq_load rfl rfl Tryz.isAgg116 Z10 (by rfl) (by rfl)) ?_
  refine pw_q rfl rfl rfl rfl (oq_loadAgg (us := [_, _, _]) rfl rfl Tryz.isAgg31 Tryz.sizeOf31 Z0 (by rfl) (by rfl) (by rfl)) ?_
  refine pw_b rfl rfl rfl rfl (ot_invoke rfl rfl hk.mT hk.cT (vs := [_]) rfl (Sees.consI Z7 hrep (Sees.cons Z1 Sees.refl)) (hk.take_eq _ mb s n y hinv (by rw [hw]; exact Option.some_ne_none _) hyv hyd _ _ _ rd_own _)) ?_
  rintro _ _ ⟨rfl, rfl⟩
  refine pw_done ?_
  refine xt_then ?_
  refine CT.weaken (E' := []) (Knows.nil) Sees.refl ?_
  refine Cr ?_
  refine Rp rfl (pv_assign rfl) ?_
  refine Kn1 6 rfl ?_
  refine ct_ret ?_
  exact fin_ret (RVs.tmp rfl (RVs.nil)) Tryz.results73 ⟨_, _, _, _, rfl, rfl⟩ (Sees.cons Z9 (Sees.cons Z9 (Sees.cons Z4 (Sees.cons Z4 (Sees.cons Z0 (Sees.cons Z3 (Sees.cons Z2 (Sees.skip (Sees.skip (Sees.skip (Sees.skip (Sees.refl))))))))))))
set_option maxHeartbeats 2000000 in
theorem pick_spec (ω : World) (K : MK) (hk : MKok K) (wd bb ab mb : Nat) (s : K.S) (a : AccD) (hw : K.want s = some a) (m m' : List Int) (y : Ans) (hy : mdo m a = some (m', y)) (n : Nat) (hinv : K.inv (n + 1) s) (hyv : inK .u64 y.v) (hyd : y.data.length ≤ 8) (had : a.data.length ≤ 8) (W2 : Value) (ba oa na ca i : Nat) (al : List Value) (hi : i < na) (hna : na ≤ 1000000) (hai : al[i]? = some (.pointer (some ⟨ab, 0, none⟩))) (pt : Option Addr) (tn tc : Nat) (ts : List Value) (htn : tn ≤ 1000000000) (F : List HP) : Spec ω Tryz.prog 22 #[.pointer (some ⟨wd, 0, none⟩), .agg #[.int .i64 0, .int .i64 (i : Int), .int .i64 0]] (row wd 0 [.pointer (some ⟨bb, 0, none⟩), .slice (some ⟨ba, oa, none⟩) na ca, W2, .slice pt tn tc] :: own 12 pt tn tc ts :: own 1 (some ⟨ba, oa, none⟩) na ca al :: row ab 0 [.iface K.tid (.pointer (some ⟨mb, 0, none⟩)), .bool false] :: bufRep bb m :: K.rep mb s :: F) fun v' H' => ∃ ev pt' tc' ts', v' = .tuple #[ev, .int .i64 0] ∧ True ∧ H' = row wd 0 [.pointer (some ⟨bb, 0, none⟩), .slice (some ⟨ba, oa, none⟩) na ca, W2, .slice pt' (tn + 1) tc'] :: own 12 pt' (tn + 1) tc' ts' :: own 1 (some ⟨ba, oa, none⟩) na ca al :: row ab 0 [.iface K.tid (.pointer (some ⟨mb, 0, none⟩)), .bool false] :: bufRep bb m' :: K.rep mb (K.take s y) :: F := by
  have hts : True := trivial
  refine spec_of_body Tryz.func22 rfl Tryz.ntmps22 rfl ?_
  refine Cr ?_
  refine Ro rfl (ot_box rfl rfl (rfl : _ = [_, _, _])) ?_
  rintro _ _ ⟨b1, rfl, rfl⟩
  refine Ro rfl (ot_alloc rfl Tryz.zeroValue68 (rfl : _ = [_, _, _, _, _, _, _, _, _, _, _, _])) ?_
  rintro _ _ ⟨b2, rfl, rfl⟩
  refine Rp rfl (pv_assign rfl) ?_
  refine Kn3 0 3 4 rfl ?_
  refine Cr ?_
  refine Rq rfl (oq_loadAgg (us := [_, _, _]) rfl rfl Tryz.isAgg66 Tryz.sizeOf66 Z1 (by rfl) (by rfl) (by rfl)) ?_
  refine Rp rfl (pv_build (ps := [(0, _)]) (cs := [_, _, _, _, _, _, _, _, _, _, _, _]) rfl Tryz.zeroValue68 Tryz.runUnderlying68 (.cons Tryz.sizeOf66 (.cons Tryz.sizeOf36 (.cons Tryz.sizeOf31 (.nil)))) rfl) ?_
  refine Ro rfl (ot_alloc rfl Tryz.zeroValue68 (rfl : _ = [_, _, _, _, _, _, _, _, _, _, _, _])) ?_
  rintro _ _ ⟨b3, rfl, rfl⟩
  refine rl_op0 rfl rfl (ot_store rfl rfl rfl Tryz.sizeOf68 Z0 (rfl : _ = [_, _, _, _, _, _, _, _, _, _, _, _]) rfl (by rfl) (by rfl) (by first | rfl | assumption) (by exact (rfl : _ = [_, _, _, _, _, _, _, _, _, _, _, _]))) ?_
  rintro _ _ rfl
  refine Kn4 0 3 4 6 rfl ?_
  refine Cr ?_
  refine Rp rfl (pv_assign rfl) ?_
  refine Kn5 0 3 4 6 7 rfl ?_
  refine ct_seq ?_
  refine Cr ?_
  refine Rp rfl (pv_fieldAddr (k := 0) rfl Tryz.runUnderlying66 rfl Tryz.sizeOf3 rfl rfl) ?_
  refine Rq rfl (oq_load rfl rfl Tryz.isAgg3 Z2 (by rfl) (by rfl)) ?_
  refine Kn6 0 3 4 6 7 11 rfl ?_
  refine ct_block ?_
  refine Cr ?_
  refine Rp rfl (pv_bin (v := .bool false) rfl rfl (by rfl)) ?_
  refine Rp rfl (pv_assign rfl) ?_
  refine Kn7 0 3 4 6 7 11 12 rfl ?_
  refine ct_false rfl ?_
  refine ct_seq ?_
  refine Cr ?_
  refine Rp rfl (pv_bin (v := .bool true) rfl rfl (by rfl)) ?_
  refine Rp rfl (pv_assign rfl) ?_
  refine Kn7 0 3 4 6 7 11 18 rfl ?_
  refine ct_true rfl ?_
  refine ct_skip ?_
  refine Kx6 0 3 4 6 7 18 rfl ?_
  refine ct_true rfl ?_
  refine ct_region ?_
  refine Rp rfl (pv_move rfl) ?_
  refine Rq rfl (oq_loadAgg (us := [_, _, _]) rfl rfl Tryz.isAgg66 Tryz.sizeOf66 Z2 (by rfl) (by rfl) (by rfl)) ?_
  refine rl_call rfl rfl (by decide) Tryz.call40 (vs := [_, _, _]) rfl Tryz.func40 rfl Tryz.ntmps40 rfl rfl ?_
  refine Cr ?_
  refine Ro rfl (ot_box rfl rfl (rfl : _ = [_, _, _])) ?_
  rintro _ _ ⟨b4, rfl, rfl⟩
  refine Rp rfl (pv_assign rfl) ?_
  refine Kn3 0 2 4 rfl ?_
  refine Cr ?_
  refine Rp rfl (pv_move rfl) ?_
  refine Rp rfl (pv_fieldAddr (k := 1) rfl Tryz.runUnderlying66 rfl Tryz.sizeOf3 rfl rfl) ?_
  refine Rq rfl (oq_load rfl rfl Tryz.isAgg3 Z0 (by rfl) (by rfl)) ?_
  refine rl_call rfl rfl (by decide) Tryz.call72 (vs := [_, _]) rfl Tryz.func72 rfl Tryz.ntmps72 rfl rfl ?_
  refine Cr ?_
  refine Rp rfl (pv_assign rfl) ?_
  refine Kn2 0 1 rfl ?_
  refine ct_seq ?_
  refine Cr ?_
  refine Rp rfl (pv_move rfl) ?_
  refine Rp rfl (pv_eql rfl rfl Tryz.runUnderlying57 rfl) ?_
  refine Rp rfl (pv_move rfl) ?_
  refine Ru rfl (pv_move rfl) ?_
  refine Ru rfl (pv_bin rfl rfl rfl) ?_
  refine Rp rfl (pv_pick0 rfl rfl) ?_
  refine Rp rfl (pv_move rfl) ?_
  refine rl_split_d (fun hz5 => absurd hz5 (by omega)) (fun _ => ?_)
  refine Ru rfl (pv_move rfl) ?_
  refine Ru rfl (pv_move rfl) ?_
  refine Ru rfl (pv_nilCheck rfl) ?_
  refine Ru rfl (pv_fieldAddr (k := 1) rfl Tryz.runUnderlying114 rfl Tryz.sizeOf111 rfl rfl) ?_
  refine Rv rfl (oq_load rfl rfl Tryz.isAgg111 Z4 (by rfl) (by rfl)) ?_
  refine Ru rfl (pv_len_slice rfl rfl Tryz.runUnderlying111) ?_
  refine Ru rfl (pv_bin rfl rfl rfl) ?_
  refine Rp rfl (pv_pick0 rfl rfl) ?_
  refine Kn3 0 1 19 rfl ?_
  refine ct_cond_d rfl (fun hz6 => absurd hz6 (by omega)) (fun _ => ?_)
  refine ct_skip ?_
  refine Kx2 0 1 rfl ?_
  refine Cr ?_
  refine Rp rfl (pv_move rfl) ?_
  refine Rp rfl (pv_nilCheck rfl) ?_
  refine Rp rfl (pv_fieldAddr (k := 1) rfl Tryz.runUnderlying114 rfl Tryz.sizeOf111 rfl rfl) ?_
  refine Rq rfl (oq_load rfl rfl Tryz.isAgg111 Z4 (by rfl) (by rfl)) ?_
  refine Rp rfl (pv_move rfl) ?_
  refine Rp rfl (pv_indexAddrN (j := i) rfl rfl Tryz.runUnderlying111 Tryz.sizeOf117 rfl hi) ?_
  refine Rq rfl (oq_loadOwn rfl rfl Tryz.isAgg117 Z6 (j := i) (by omega) hai) ?_
  refine Rp rfl (pv_assign rfl) ?_
  refine Kn1 4 rfl ?_
  refine ct_ret ?_
  refine fin_ret1 (RVs.tmp rfl (RVs.nil)) Tryz.results72 ?_ Sees.refl
  refine Rp rfl (pv_assign rfl) ?_
  refine Kn4 0 2 4 7 rfl ?_
  refine ct_seq ?_
  refine ct_block ?_
  refine Cr ?_
  refine Rp rfl (pv_move rfl) ?_
  refine Rp rfl (pv_eql rfl rfl Tryz.runUnderlying117 rfl) ?_
  refine Rp rfl (pv_assign rfl) ?_
  refine Kn5 0 2 4 7 12 rfl ?_
  refine ct_false rfl ?_
  refine Cr ?_
  refine Rp rfl (pv_move rfl) ?_
  refine Rp rfl (pv_nilCheck rfl) ?_
  refine Rp rfl (pv_fieldAddr (k := 1) rfl Tryz.runUnderlying119 rfl Tryz.sizeOf4 rfl rfl) ?_
  refine Rq rfl (oq_load rfl rfl Tryz.isAgg4 Z7 (by rfl) (by rfl)) ?_
  refine Rp rfl (pv_assign rfl) ?_
  refine Kn5 0 2 4 7 15 rfl ?_
  refine ct_false rfl ?_
  refine Cr ?_
  refine Rp rfl (pv_fieldAddr (k := 0) rfl Tryz.runUnderlying66 rfl Tryz.sizeOf3 rfl rfl) ?_
  refine Rq rfl (oq_load rfl rfl Tryz.isAgg3 Z0 (by rfl) (by rfl)) ?_
  refine Rp rfl (pv_bin (v := .bool false) rfl rfl (by rfl)) ?_
  refine Rp rfl (pv_assign rfl) ?_
  refine Kn4 0 2 7 20 rfl ?_
  refine ct_false rfl ?_
  refine ct_skip ?_
  refine xt_normal_block ?_
  refine Kx3 0 2 7 rfl ?_
  refine Cr ?_
  refine Rp rfl (pv_move rfl) ?_
  refine Rp rfl (pv_move rfl) ?_
  refine Rp rfl (pv_move rfl) ?_
  refine Ro rfl (ot_call rfl Tryz.call73 (vs := [_, _, _]) rfl (Sees.cons Z4 (Sees.cons Z6 (Sees.cons Z1 (Sees.cons Z5 (Sees.cons Z5 (Sees.refl)))))) (step_spec _ K hk wd bb ab mb s a hw m m' y hy n hinv hyv hyd had _ _ _ _ _ _ _ _ _ _ _ _ _ _ _ _ (by rfl) _)) ?_
  rintro _ _ ⟨p11, c12, p13, c14, rfl, rfl⟩
  refine Rp rfl (pv_assign rfl) ?_
  refine Kn1 6 rfl ?_
  refine ct_ret ?_
  refine fin_ret1 (RVs.tmp rfl (RVs.nil)) Tryz.results40 ?_ Sees.refl
  refine Rp rfl (pv_assign rfl) ?_
  refine rl_nil ?_
  refine xt_normal_block ?_
  refine Kx4 0 4 6 7 rfl ?_
  refine ct_seq ?_
  refine Cr ?_
  refine Rp rfl (pv_move rfl) ?_
  refine Rp rfl (pv_bin (v := .bool false) rfl rfl (by rfl)) ?_
  refine Kn5 0 4 6 7 25 rfl ?_
  refine ct_false rfl ?_
  refine ct_skip ?_
  refine Kx3 0 4 6 rfl ?_
  refine ct_seq ?_
  refine ct_plan [.q 0, .q 1, .q 2, .q 3, .q 4, .q 5, .e 6, .e 7, .q 8, .q 9, .b 10] _ [_] mixed (by decide +kernel) (Sees.cons Z10 (Sees.cons Z0 (Sees.cons Z0 (Sees.cons Z0 (Sees.cons Z0 (Sees.cons Z0 (Sees.cons Z0 (Sees.cons Z0 (Sees.cons Z0 (Sees.cons Z0 (Sees.cons Z0 (Sees.cons Z0 (Sees.refl))))))))))))) ?_
  refine pw_q rfl rfl rfl rfl (oq_pv (pv_move rfl)) ?_
  refine pw_q rfl rfl rfl rfl (oq_pv (pv_move rfl)) ?_
  refine pw_q rfl rfl rfl rfl (oq_pv (pv_nilCheck rfl)) ?_
  refine pw_q rfl rfl rfl rfl (oq_pv (pv_fieldAddr (k := 3) rfl Tryz.runUnderlying114 rfl Tryz.sizeOf112 rfl rfl)) ?_
  refine pw_q rfl rfl rfl rfl (oq_load rfl rfl Tryz.isAgg112 Z0 (by rfl) (by rfl)) ?_
  refine pw_q rfl rfl rfl rfl (oq_loadAgg (us := [_, _, _, _, _, _, _, _, _, _, _, _]) rfl rfl Tryz.isAgg68 Tryz.sizeOf68 Z2 (by rfl) (by rfl) (by rfl)) ?_
  refine pw_e rfl rfl rfl rfl (ot_buildSlice1 rfl rfl Tryz.runUnderlying112 Tryz.sizeOf68 Tryz.zeroValue68 rfl rfl (rfl : _ = [_, _, _, _, _, _, _, _, _, _, _, _]) rfl) ?_
  rintro _ _ ⟨b15, rfl, rfl⟩
  refine ⟨[_, _], Sees.cons Z0 (Sees.cons Z0 (Sees.cons Z0 (Sees.cons Z0 (Sees.cons Z0 (Sees.cons Z0 (Sees.cons Z0 (Sees.cons Z0 (Sees.cons Z0 (Sees.cons Z0 (Sees.cons Z0 (Sees.cons Z0 (Sees.cons Z0 (Sees.refl))))))))))))), ?_⟩
  refine pw_e rfl rfl rfl rfl (ot_append (by_ := 128) rfl rfl rfl Tryz.runUnderlying112 Tryz.runUnderlying112 Tryz.sizeOf68 Tryz.typeInfo68 rfl Tryz.zeroValue68 rfl (by decide) Z1 Z0 (rd_own) (by rfl) (by omega)) ?_
  rintro _ _ ⟨p16, c17, rfl, rfl⟩
  refine ⟨[_, _], Sees.cons Z0 (Sees.cons Z0 (Sees.cons Z0 (Sees.cons Z0 (Sees.cons Z0 (Sees.cons Z0 (Sees.cons Z0 (Sees.cons Z0 (Sees.cons Z0 (Sees.cons Z0 (Sees.cons Z0 (Sees.cons Z0 (Sees.cons Z0 (Sees.refl))))))))))))), ?_⟩
  refine pw_q rfl rfl rfl rfl (oq_pv (pv_nilCheck rfl)) ?_
  refine pw_q rfl rfl rfl rfl (oq_pv (pv_fieldAddr (k := 3) rfl Tryz.runUnderlying114 rfl Tryz.sizeOf112 rfl rfl)) ?_
  refine pw_b0 rfl rfl rfl (ot_store rfl rfl rfl Tryz.sizeOf112 Z2 (rfl : _ = [_]) rfl (by rfl) (by rfl) (by first | rfl | assumption) (by exact (rfl : _ = [_, _, _, _]))) ?_
  rintro _ _ rfl
  refine pw_done ?_
  refine Kx2 4 6 rfl ?_
  refine Cr ?_
  refine Rq rfl (oq_loadAgg (us := [_, _, _, _, _, _, _, _, _, _, _, _]) rfl rfl Tryz.isAgg68 Tryz.sizeOf68 Z4 (by rfl) (by rfl) (by rfl)) ?_
  refine rl_call rfl rfl (by decide) Tryz.call41 (vs := [_]) rfl Tryz.func41 rfl Tryz.ntmps41 rfl rfl ?_
  refine Cr ?_
  refine Ro rfl (ot_box rfl rfl (rfl : _ = [_, _, _, _, _, _, _, _, _, _, _, _])) ?_
  rintro _ _ ⟨b18, rfl, rfl⟩
  refine Ro rfl (ot_alloc rfl Tryz.zeroValue68 (rfl : _ = [_, _, _, _, _, _, _, _, _, _, _, _])) ?_
  rintro _ _ ⟨b19, rfl, rfl⟩
  refine Kn2 1 2 rfl ?_
  refine ct_seq ?_
  refine ct_planH [.q 0, .q 1, .q 2, .q 4, .q 5, .q 6, .e 3, .q 8, .q 9, .e 7, .b 10, .q 11, .q 12, .b 13] mixed (by decide +kernel) ?_
  refine pw_q rfl rfl rfl rfl (oq_pv (pv_fieldAddr (k := 3) rfl Tryz.runUnderlying68 rfl Tryz.sizeOf36 rfl rfl)) ?_
  refine pw_q rfl rfl rfl rfl (oq_pv (pv_fieldAddr (k := 8) rfl Tryz.runUnderlying36 rfl Tryz.sizeOf29 rfl rfl)) ?_
  refine pw_q rfl rfl rfl rfl (oq_load rfl rfl Tryz.isAgg29 Z1 (by rfl) (by rfl)) ?_
  refine pw_q rfl rfl rfl rfl (oq_pv (pv_fieldAddr (k := 9) rfl Tryz.runUnderlying68 rfl Tryz.sizeOf31 rfl rfl)) ?_
  refine pw_q rfl rfl rfl rfl (oq_pv (pv_fieldAddr (k := 11) rfl Tryz.runUnderlying31 rfl Tryz.sizeOf29 rfl rfl)) ?_
  refine pw_q rfl rfl rfl rfl (oq_load rfl rfl Tryz.isAgg29 Z1 (by rfl) (by rfl)) ?_
  refine pw_e rfl rfl rfl rfl (ot_call rfl Tryz.call35 (vs := [_]) rfl (Sees.cons Z9 (Sees.refl)) (cloneBytes _ (own 1 p11 a.data.length c12 (byteC a.data)) p11 a.data.length c12 (byteC a.data) (rd_own) (plain_byteC _) (by omega) _)) ?_
  rintro _ _ ⟨p20, c21, rfl, rfl⟩
  refine ⟨[_], Sees.cons Z0 (Sees.cons Z1 (Sees.cons Z1 (Sees.cons Z1 (Sees.cons Z1 (Sees.cons Z1 (Sees.cons Z1 (Sees.cons Z1 (Sees.cons Z1 (Sees.cons Z1 (Sees.cons Z0 (Sees.cons Z0 (Sees.cons Z0 (Sees.cons Z0 (Sees.cons Z0 (Sees.cons Z0 (Sees.refl)))))))))))))))), ?_⟩
  refine pw_q rfl rfl rfl rfl (oq_pv (pv_fieldAddr (k := 3) rfl Tryz.runUnderlying68 rfl Tryz.sizeOf36 rfl rfl)) ?_
  refine pw_q rfl rfl rfl rfl (oq_pv (pv_fieldAddr (k := 8) rfl Tryz.runUnderlying36 rfl Tryz.sizeOf29 rfl rfl)) ?_
  refine pw_e rfl rfl rfl rfl (ot_call rfl Tryz.call35 (vs := [_]) rfl (Sees.cons Z11 (Sees.refl)) (cloneBytes _ (own 1 p13 y.data.length c14 (byteC y.data)) p13 y.data.length c14 (byteC y.data) (rd_own) (plain_byteC _) (by omega) _)) ?_
  rintro _ _ ⟨p22, c23, rfl, rfl⟩
  refine ⟨[_, _], Sees.cons Z0 (Sees.cons Z1 (Sees.cons Z1 (Sees.cons Z1 (Sees.cons Z1 (Sees.cons Z1 (Sees.cons Z1 (Sees.cons Z1 (Sees.cons Z1 (Sees.cons Z1 (Sees.cons Z1 (Sees.cons Z1 (Sees.cons Z0 (Sees.cons Z0 (Sees.cons Z0 (Sees.cons Z0 (Sees.cons Z0 (Sees.refl))))))))))))))))), ?_⟩
  refine pw_b0 rfl rfl rfl (ot_store rfl rfl rfl Tryz.sizeOf29 Z3 (rfl : _ = [_]) rfl (by rfl) (by rfl) (by first | rfl | assumption) (by exact (rfl : _ = [_, _, _, _, _, _, _, _, _, _, _, _]))) ?_
  rintro _ _ rfl
  refine pw_q rfl rfl rfl rfl (oq_pv (pv_fieldAddr (k := 9) rfl Tryz.runUnderlying68 rfl Tryz.sizeOf31 rfl rfl)) ?_
  refine pw_q rfl rfl rfl rfl (oq_pv (pv_fieldAddr (k := 11) rfl Tryz.runUnderlying31 rfl Tryz.sizeOf29 rfl rfl)) ?_
  refine pw_b0 rfl rfl rfl (ot_store rfl rfl rfl Tryz.sizeOf29 Z0 (rfl : _ = [_]) rfl (by rfl) (by rfl) (by first | rfl | assumption) (by exact (rfl : _ = [_, _, _, _, _, _, _, _, _, _, _, _]))) ?_
  rintro _ _ rfl
  refine pw_done ?_
  refine Kx2 1 2 rfl ?_
  refine Cr ?_
  refine Rq rfl (oq_loadAgg (us := [_, _, _, _, _, _, _, _, _, _, _, _]) rfl rfl Tryz.isAgg68 Tryz.sizeOf68 Z0 (by rfl) (by rfl) (by rfl)) ?_
  refine rl_op0 rfl rfl (ot_store rfl rfl rfl Tryz.sizeOf68 Z3 (rfl : _ = [_, _, _, _, _, _, _, _, _, _, _, _]) rfl (by rfl) (by rfl) (by first | rfl | assumption) (by exact (rfl : _ = [_, _, _, _, _, _, _, _, _, _, _, _]))) ?_
  rintro _ _ rfl
  refine Kn1 2 rfl ?_
  refine ct_ret ?_
  refine fin_ret1 (RVs.agg (us := [_, _, _, _, _, _, _, _, _, _, _, _]) rfl Tryz.isAgg68 Tryz.sizeOf68 Z0 (by rfl) (by rfl) (by rfl) (RVs.nil)) Tryz.results41 ?_ Sees.refl
  refine rl_op0 rfl rfl (ot_store rfl rfl rfl Tryz.sizeOf68 Z14 (rfl : _ = [_, _, _, _, _, _, _, _, _, _, _, _]) rfl (by rfl) (by rfl) (by first | rfl | assumption) (by exact (rfl : _ = [_, _, _, _, _, _, _, _, _, _, _, _]))) ?_
  rintro _ _ rfl
  refine Rp rfl (pv_assign rfl) ?_
  refine Kn2 4 5 rfl ?_
  refine ct_ret ?_
  exact fin_ret (RVs.agg (us := [_, _, _, _, _, _, _, _, _, _, _, _]) rfl Tryz.isAgg68 Tryz.sizeOf68 Z0 (by rfl) (by rfl) (by rfl) (RVs.tmp rfl (RVs.nil))) Tryz.results22 ⟨_, _, _, _, rfl, hts, rfl⟩ (Sees.cons Z5 (Sees.cons Z5 (Sees.cons Z14 (Sees.cons Z6 (Sees.cons Z7 (Sees.cons Z7 (Sees.skip (Sees.skip (Sees.skip (Sees.skip (Sees.skip (Sees.skip (Sees.skip (Sees.skip (Sees.skip (Sees.skip (Sees.skip (Sees.refl))))))))))))))))))
end Go.Proofs.YtnjljfjncfbinaaGreat
