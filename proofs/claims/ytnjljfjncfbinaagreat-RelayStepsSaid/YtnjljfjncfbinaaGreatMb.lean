/- Contracts: a buffer that many share. -/
import Derived.Test.YtnjljfjncfbinaaGreatSq
import Derived.Test.YtnjljfjncfbinaaGreatSm1
set_option linter.all false
namespace Go.Proofs.YtnjljfjncfbinaaGreat
open Go Go.Proofs
set_option maxRecDepth 100000
set_option linter.unusedVariables false
attribute [local irreducible] RL CT XT OQ OT PW PG PV Upon wpL
theorem extLoad : ExtF Tryz.prog 94 Tryz.f94 (Extern.Atomic.loadT (.int .u64)) := ⟨Tryz.func94, by kernel_rfl, by kernel_rfl, by kernel_rfl, by kernel_rfl⟩
theorem extCas : ExtF Tryz.prog 174 Tryz.f174 (Extern.Atomic.casT (.int .u64)) := ⟨Tryz.func174, by kernel_rfl, by kernel_rfl, by kernel_rfl, by kernel_rfl⟩
theorem extAdd : ExtF Tryz.prog 171 Tryz.f171 (Extern.Atomic.update (Op.intArith .add) .u64 true) := ⟨Tryz.func171, by kernel_rfl, by kernel_rfl, by kernel_rfl, by kernel_rfl⟩
theorem extAddI : ExtF Tryz.prog 169 Tryz.f169 (Extern.Atomic.update (Op.intArith .add) .i64 true) := ⟨Tryz.func169, by kernel_rfl, by kernel_rfl, by kernel_rfl, by kernel_rfl⟩
def wcells (m : List Int) : List Value := m.map (.int .u64)
@[simp] theorem wcells_length (m : List Int) : (wcells m).length = m.length := by simp [wcells]
def wat (m : List Int) (j : Nat) : Int := m.getD j 0
def wput (m : List Int) (j : Nat) (v : Int) : List Int := m.set j v
@[simp] theorem wput_length (m : List Int) (j : Nat) (v : Int) : (wput m j v).length = m.length := by simp [wput]
theorem Nat.zero_le_ble {n : Nat} : Nat.ble 0 n = true := Nat.ble_eq_true_of_le (Nat.zero_le n)
theorem wget_sub {m : List Int} {j : Nat} (h : j < m.length) : (wcells m)[j - 0]? = some (.int .u64 (wat m j)) := by
  simp [wcells, wat, h]
theorem wput_sub (m : List Int) (j : Nat) (v : Int) : (wcells m).set (j - 0) (.int .u64 v) = wcells (wput m j v) := by
  simp [wcells, wput, List.map_set]
/-- The word and the shift of an access. -/
def bix (at_ : Int) : Nat := (at_ / 8).toNat
def bby (at_ : Int) : Int := IntKind.u64.wrap (8 * IntKind.u64.wrap (at_.tmod 8))
theorem bix_eq {at_ : Int} (h : 0 ≤ at_) (h2 : at_ ≤ 131072) : (IntKind.i64.wrap (at_.tdiv 8)) = (bix at_ : Int) := by
  rw [Int.tdiv_eq_ediv_of_nonneg h, wrap_inK (k := .i64) ⟨by omega, by omega⟩]; unfold bix; omega
/-- What a field has; a word with a field anew. -/
def bget (w by_ mask : Int) : Int := iand .u64 (w.fdiv (2 ^ (min by_.toNat IntKind.u64.bits))) mask
def bnew (w by_ mask v : Int) : Int := ior .u64 (iandNot .u64 w (IntKind.u64.wrap (mask * 2 ^ (min by_.toNat IntKind.u64.bits)))) (IntKind.u64.wrap ((iand .u64 v mask) * 2 ^ (min by_.toNat IntKind.u64.bits)))
def msk (n : Int) : Int := if n = 1 then 255 else if n = 4 then 4294967295 else 18446744073709551615
def mget (m : List Int) (at_ n : Int) : Int := bget (wat m (bix at_)) (bby at_) (msk n)
def mput (m : List Int) (at_ n v : Int) : List Int := wput m (bix at_) (bnew (wat m (bix at_)) (bby at_) (msk n) v)
@[simp] theorem mput_length (m : List Int) (at_ n v : Int) : (mput m at_ n v).length = m.length := by simp [mput]
theorem bix_lt {m : List Int} {at_ n : Int} (h0 : 0 ≤ at_) (hn : 1 ≤ n) (h : at_ + n ≤ 8 * (m.length : Int)) : bix at_ < m.length := by unfold bix; omega
theorem size_in {m : List Int} (h : m.length ≤ 16384) : IntKind.i64.wrap (8 * (m.length : Int)) = 8 * (m.length : Int) := wrap_inK (k := .i64) ⟨by omega, by omega⟩
theorem sub_in {a b : Int} (h0 : 0 ≤ b) (h1 : b ≤ a) (h2 : a ≤ 131072) : IntKind.i64.wrap (a - b) = a - b := wrap_inK (k := .i64) ⟨by omega, by omega⟩
theorem bsize_read (ω : World) (bb wb : Nat) (m : List Int) (cnt : Int) (hm : m.length ≤ 16384) (F : List HP) : Spec ω Tryz.prog 148 #[.pointer (some ⟨bb, 0, none⟩)] (row bb 0 [.slice (some ⟨wb, 0, none⟩) m.length m.length, .int .i64 cnt] :: row wb 0 (wcells m) :: F) fun v' H' => v' = .int .i64 (8 * (m.length : Int)) ∧ H' = row bb 0 [.slice (some ⟨wb, 0, none⟩) m.length m.length, .int .i64 cnt] :: row wb 0 (wcells m) :: F := by
  refine spec_of_body Tryz.func148 rfl Tryz.ntmps148 rfl ?_
  refine Cr ?_
  refine Rp rfl (pv_assign rfl) ?_
  refine Kn1 0 rfl ?_
  refine ct_seq ?_
  refine Cr ?_
  refine Rp rfl (pv_move rfl) ?_
  refine Rp rfl (pv_eql rfl rfl Tryz.runUnderlying53 rfl) ?_
  refine Kn2 0 4 rfl ?_
  refine ct_false rfl ?_
  refine ct_skip ?_
  refine Kx1 0 rfl ?_
  refine Cr ?_
  refine Rp rfl (pv_move rfl) ?_
  refine Rp rfl (pv_nilCheck rfl) ?_
  refine Rp rfl (pv_fieldAddr (k := 0) rfl Tryz.runUnderlying110 rfl Tryz.sizeOf103 rfl rfl) ?_
  refine Rq rfl (oq_load rfl rfl Tryz.isAgg103 Z0 (by rfl) (by rfl)) ?_
  refine Rp rfl (pv_len_slice rfl rfl Tryz.runUnderlying103) ?_
  refine Rp rfl (pv_bin rfl rfl rfl) ?_
  refine Rp rfl (pv_assign rfl) ?_
  refine Kn1 2 rfl ?_
  refine ct_ret ?_
  exact fin_ret (RVs.tmp rfl (RVs.nil)) Tryz.results148 ⟨by simp only [resOf, size_in hm], rfl⟩ (Sees.cons Z0 (Sees.cons Z0 (Sees.refl)))
theorem pv_indexAddr1 {P : Program} {E : Env} {T e : TypeId} {x y : Operand} {b n c j : Nat} {k : IntKind} {i : Int} (hx : ev E x = some (.slice (some ⟨b, 0, none⟩) n c)) (hy : ev E y = some (.int k i))
    (hT : ∀ w, (underlying T).run P w = .ok (.slice e) w) (hs : ∀ w, (sizeOf e).run P w = .ok 1 w) (hij : i = j) (hi : j < n) : PV P (.indexAddr T x y) E (.pointer (some ⟨b, j, none⟩)) := by
  have := pv_indexAddrN (P := P) hx hy hT hs hij hi
  simpa using this
theorem do_load8 (ω : World) (bb wb : Nat) (m : List Int) (cnt at_ v u : Int) (p : Option Addr) (pn pc : Nat) (hm : m.length ≤ 16384) (h0 : 0 ≤ at_) (h8 : at_.tmod 8 = 0) (h1 : at_ + 8 ≤ 8 * (m.length : Int)) (F : List HP) : Spec ω Tryz.prog 113 #[.pointer (some ⟨bb, 0, none⟩), .agg #[.int .i64 1, .int .i64 at_, .int .i64 8, .int .u64 v, .int .u64 u, .slice p pn pc]] (row bb 0 [.slice (some ⟨wb, 0, none⟩) m.length m.length, .int .i64 cnt] :: row wb 0 (wcells m) :: F) fun v' H' => ∃ cnt', v' = .tuple #[.agg #[.int .u64 (mget m at_ 8), .bool false, .slice none 0 0], .int .i64 0] ∧ H' = row bb 0 [.slice (some ⟨wb, 0, none⟩) m.length m.length, .int .i64 cnt'] :: row wb 0 (wcells m) :: F := by
  refine spec_of_body Tryz.func113 rfl Tryz.ntmps113 rfl ?_
  refine Cr ?_
  refine Ro rfl (ot_box rfl rfl (rfl : _ = [_, _, _, _, _, _])) ?_
  rintro _ _ ⟨b1, rfl, rfl⟩
  refine Ro rfl (ot_alloc rfl Tryz.zeroValue31 (rfl : _ = [_, _, _])) ?_
  rintro _ _ ⟨b2, rfl, rfl⟩
  refine Rp rfl (pv_assign rfl) ?_
  refine Kn3 0 3 4 rfl ?_
  refine ct_seq ?_
  refine ct_seq ?_
  refine ct_planH [.q 0, .q 1, .q 2, .b 3, .q 4] mixed (by decide +kernel) ?_
  refine pw_q rfl rfl rfl rfl (oq_pv (pv_move rfl)) ?_
  refine pw_q rfl rfl rfl rfl (oq_call_of (cs := [_, _]) rfl Tryz.call148 (vs := [_]) rfl (Pick.cons Z2 (Pick.cons Z2 (Pick.nil))) (fun F => bsize_read _ _ _ _ _ hm F)) ?_
  refine pw_q rfl rfl rfl rfl (oq_loadAgg (us := [_, _, _, _, _, _]) rfl rfl Tryz.isAgg36 Tryz.sizeOf36 Z1 (by rfl) (by rfl) (by rfl)) ?_
  refine pwb_call rfl rfl rfl rfl Tryz.call147 (vs := [_, _]) rfl Tryz.func147 rfl Tryz.ntmps147 rfl rfl ?_
  refine Cr ?_
  refine Ro rfl (ot_box rfl rfl (rfl : _ = [_, _, _, _, _, _])) ?_
  rintro _ _ ⟨b3, rfl, rfl⟩
  refine Rp rfl (pv_assign rfl) ?_
  refine Kn2 0 3 rfl ?_
  refine ct_seq ?_
  refine ct_block ?_
  refine Cr ?_
  refine Rq rfl (oq_loadAgg (us := [_, _, _, _, _, _]) rfl rfl Tryz.isAgg36 Tryz.sizeOf36 Z0 (by rfl) (by rfl) (by rfl)) ?_
  refine rl_call rfl rfl (by decide) Tryz.call168 (vs := [_]) rfl Tryz.func168 rfl Tryz.ntmps168 rfl rfl ?_
  refine Cr ?_
  refine Ro rfl (ot_box rfl rfl (rfl : _ = [_, _, _, _, _, _])) ?_
  rintro _ _ ⟨b4, rfl, rfl⟩
  refine Rp rfl (pv_assign rfl) ?_
  refine Kn1 1 rfl ?_
  refine ct_seq ?_
  refine Cr ?_
  refine Rp rfl (pv_fieldAddr (k := 0) rfl Tryz.runUnderlying36 rfl Tryz.sizeOf3 rfl rfl) ?_
  refine Rq rfl (oq_load rfl rfl Tryz.isAgg3 Z0 (by rfl) (by rfl)) ?_
  refine Kn2 1 4 rfl ?_
  refine ct_block ?_
  refine ct_seq ?_
  refine Cr ?_
  refine Rp rfl (pv_bin (v := .bool true) rfl rfl (by rfl)) ?_
  refine Rp rfl (pv_assign rfl) ?_
  refine Kn3 1 4 5 rfl ?_
  refine ct_true rfl ?_
  refine ct_skip ?_
  refine Kx3 1 4 5 rfl ?_
  refine ct_true rfl ?_
  refine Cr ?_
  refine Rp rfl (pv_fieldAddr (k := 2) rfl Tryz.runUnderlying36 rfl Tryz.sizeOf3 rfl rfl) ?_
  refine Rq rfl (oq_load rfl rfl Tryz.isAgg3 Z0 (by rfl) (by rfl)) ?_
  refine Rp rfl (pv_bin (v := .bool false) rfl rfl (by rfl)) ?_
  refine Rp rfl (pv_move rfl) ?_
  refine Ru rfl (pv_fieldAddr (k := 2) rfl Tryz.runUnderlying36 rfl Tryz.sizeOf3 rfl rfl) ?_
  refine Rv rfl (oq_load rfl rfl Tryz.isAgg3 Z0 (by rfl) (by rfl)) ?_
  refine Ru rfl (pv_bin (v := .bool true) rfl rfl (by rfl)) ?_
  refine Rp rfl (pv_pick0 rfl rfl) ?_
  refine Rp rfl (pv_assign rfl) ?_
  refine Kn1 2 rfl ?_
  refine ct_ret ?_
  refine xt_ret_block ?_
  refine xt_ret_then ?_
  refine fin_ret1 (RVs.tmp rfl (RVs.nil)) Tryz.results168 ?_ Sees.refl
  refine Rp rfl (pv_not rfl) ?_
  refine Rp rfl (pv_assign rfl) ?_
  refine Kn3 0 3 5 rfl ?_
  refine ct_false rfl ?_
  refine Cr ?_
  refine Rp rfl (pv_fieldAddr (k := 1) rfl Tryz.runUnderlying36 rfl Tryz.sizeOf3 rfl rfl) ?_
  refine Rq rfl (oq_load rfl rfl Tryz.isAgg3 Z1 (by rfl) (by rfl)) ?_
  refine Rp rfl (pv_bin rfl rfl rfl) ?_
  refine Rp rfl (pv_move rfl) ?_
  refine rl_split_d (fun hz5 => absurd hz5 (by omega)) (fun _ => ?_)
  refine Ru rfl (pv_fieldAddr (k := 1) rfl Tryz.runUnderlying36 rfl Tryz.sizeOf3 rfl rfl) ?_
  refine Rv rfl (oq_load rfl rfl Tryz.isAgg3 Z1 (by rfl) (by rfl)) ?_
  refine Ru rfl (pv_move rfl) ?_
  refine Ru rfl (pv_bin rfl rfl rfl) ?_
  refine Rp rfl (pv_pick0 rfl rfl) ?_
  refine Rp rfl (pv_move rfl) ?_
  refine rl_split_d (fun hz6 => absurd hz6 (by omega)) (fun _ => ?_)
  refine Ru rfl (pv_fieldAddr (k := 2) rfl Tryz.runUnderlying36 rfl Tryz.sizeOf3 rfl rfl) ?_
  refine Rv rfl (oq_load rfl rfl Tryz.isAgg3 Z1 (by rfl) (by rfl)) ?_
  refine Ru rfl (pv_move rfl) ?_
  refine Ru rfl (pv_fieldAddr (k := 1) rfl Tryz.runUnderlying36 rfl Tryz.sizeOf3 rfl rfl) ?_
  refine Rv rfl (oq_load rfl rfl Tryz.isAgg3 Z1 (by rfl) (by rfl)) ?_
  refine Ru rfl (pv_bin rfl rfl rfl) ?_
  refine Ru rfl (pv_bin rfl rfl rfl) ?_
  refine Rp rfl (pv_pick0 rfl rfl) ?_
  refine Rp rfl (pv_assign rfl) ?_
  refine Kn2 3 9 rfl ?_
  refine ct_cond_d rfl (fun hz7 => absurd hz7 (by rw [sub_in h0 (by omega) (by omega)]; omega)) (fun _ => ?_)
  refine Cr ?_
  refine Rp rfl (pv_fieldAddr (k := 0) rfl Tryz.runUnderlying36 rfl Tryz.sizeOf3 rfl rfl) ?_
  refine Rq rfl (oq_load rfl rfl Tryz.isAgg3 Z1 (by rfl) (by rfl)) ?_
  refine Rp rfl (pv_bin (v := .bool true) rfl rfl (by rfl)) ?_
  refine Rp rfl (pv_move rfl) ?_
  refine Ru rfl (pv_fieldAddr (k := 1) rfl Tryz.runUnderlying36 rfl Tryz.sizeOf3 rfl rfl) ?_
  refine Rv rfl (oq_load rfl rfl Tryz.isAgg3 Z1 (by rfl) (by rfl)) ?_
  refine Ru rfl (pv_fieldAddr (k := 2) rfl Tryz.runUnderlying36 rfl Tryz.sizeOf3 rfl rfl) ?_
  refine Rv rfl (oq_load rfl rfl Tryz.isAgg3 Z1 (by rfl) (by rfl)) ?_
  refine Ru rfl (pv_rem rfl rfl (by decide)) ?_
  refine Ru rfl (pv_bin rfl rfl rfl) ?_
  refine Rp rfl (pv_pick1 rfl rfl) ?_
  refine Rp rfl (pv_assign rfl) ?_
  refine Kn1 28 rfl ?_
  refine ct_cond_n rfl (fun hz8 => absurd h8 hz8) (fun _ => ?_)
  refine ct_skip ?_
  refine xt_normal_block ?_
  refine xt_then ?_
  refine CT.weaken (E' := []) (Knows.nil) Sees.refl ?_
  refine Cr ?_
  refine Rp rfl (pv_assign rfl) ?_
  refine Kn1 4 rfl ?_
  refine ct_ret ?_
  refine fin_ret1 (RVs.tmp rfl (RVs.nil)) Tryz.results147 ?_ Sees.refl
  refine pw_q rfl rfl rfl rfl (oq_pv (pv_assign rfl)) ?_
  refine pw_done ?_
  refine Kx4 0 3 4 6 rfl ?_
  refine Cr ?_
  refine Rp rfl (pv_move rfl) ?_
  refine Rp rfl (pv_bin (v := .bool false) rfl rfl (by rfl)) ?_
  refine Kn5 0 3 4 6 15 rfl ?_
  refine ct_false rfl ?_
  refine ct_skip ?_
  refine Kx3 0 3 4 rfl ?_
  refine ct_seq ?_
  refine Cr ?_
  refine Rp rfl (pv_move rfl) ?_
  refine Rp rfl (pv_eql rfl rfl Tryz.runUnderlying53 rfl) ?_
  refine Kn4 0 3 4 19 rfl ?_
  refine ct_false rfl ?_
  refine ct_skip ?_
  refine Kx3 0 3 4 rfl ?_
  refine Cr ?_
  refine Rp rfl (pv_move rfl) ?_
  refine Rp rfl (pv_nilCheck rfl) ?_
  refine Rp rfl (pv_fieldAddr (k := 1) rfl Tryz.runUnderlying110 rfl Tryz.sizeOf108 rfl rfl) ?_
  refine rl_call rfl rfl (by decide) Tryz.call149 (vs := [_, _]) rfl Tryz.func149 rfl Tryz.ntmps149 rfl rfl ?_
  refine Cr ?_
  refine Rp rfl (pv_assign rfl) ?_
  refine Kn2 0 1 rfl ?_
  refine Cr ?_
  refine Rp rfl (pv_move rfl) ?_
  refine Rp rfl (pv_nilCheck rfl) ?_
  refine Rp rfl (pv_fieldAddr (k := 1) rfl Tryz.runUnderlying108 rfl Tryz.sizeOf2 rfl rfl) ?_
  refine Rp rfl (pv_move rfl) ?_
  refine Ro rfl (ot_atomAdd rfl extAddI rfl Z4 rfl (by rfl) (by exact (rfl : _ = [_, _]))) ?_
  rintro _ _ ⟨rfl, rfl⟩
  refine Rp rfl (pv_assign rfl) ?_
  refine Kn1 4 rfl ?_
  refine ct_ret ?_
  refine fin_ret1 (RVs.tmp rfl (RVs.nil)) Tryz.results149 ?_ Sees.refl
  refine Kn3 0 3 4 rfl ?_
  refine ct_seq ?_
  refine Cr ?_
  refine Rp rfl (pv_fieldAddr (k := 0) rfl Tryz.runUnderlying36 rfl Tryz.sizeOf3 rfl rfl) ?_
  refine Rq rfl (oq_load rfl rfl Tryz.isAgg3 Z4 (by rfl) (by rfl)) ?_
  refine Kn4 0 3 4 26 rfl ?_
  refine ct_block ?_
  refine Cr ?_
  refine Rp rfl (pv_bin (v := .bool false) rfl rfl (by rfl)) ?_
  refine Rp rfl (pv_assign rfl) ?_
  refine Kn5 0 3 4 26 27 rfl ?_
  refine ct_false rfl ?_
  refine Cr ?_
  refine Rp rfl (pv_bin (v := .bool false) rfl rfl (by rfl)) ?_
  refine Rp rfl (pv_assign rfl) ?_
  refine Kn4 0 3 4 37 rfl ?_
  refine ct_false rfl ?_
  refine ct_skip ?_
  refine xt_normal_block ?_
  refine Kx3 0 3 4 rfl ?_
  refine Cr ?_
  refine Rp rfl (pv_move rfl) ?_
  refine Rp rfl (pv_fieldAddr (k := 1) rfl Tryz.runUnderlying36 rfl Tryz.sizeOf3 rfl rfl) ?_
  refine Rq rfl (oq_load rfl rfl Tryz.isAgg3 Z4 (by rfl) (by rfl)) ?_
  refine Rp rfl (pv_fieldAddr (k := 2) rfl Tryz.runUnderlying36 rfl Tryz.sizeOf3 rfl rfl) ?_
  refine Rq rfl (oq_load rfl rfl Tryz.isAgg3 Z4 (by rfl) (by rfl)) ?_
  refine rl_call rfl rfl (by decide) Tryz.call151 (vs := [_, _, _]) rfl Tryz.func151 rfl Tryz.ntmps151 rfl rfl ?_
  refine Cr ?_
  refine Ro rfl (ot_alloc rfl Tryz.zeroValue232 (rfl : _ = [_, _, _])) ?_
  rintro _ _ ⟨b9, rfl, rfl⟩
  refine Kn4 0 1 2 6 rfl ?_
  refine Cr ?_
  refine Rp rfl (pv_assign rfl) ?_
  refine Kn5 0 1 2 6 7 rfl ?_
  refine ct_seq ?_
  refine Cr ?_
  refine Rp rfl (pv_move rfl) ?_
  refine Rp rfl (pv_bin (v := .bool false) rfl rfl (by rfl)) ?_
  refine Kn6 0 1 2 6 7 9 rfl ?_
  refine ct_false rfl ?_
  refine ct_skip ?_
  refine Kx4 0 1 6 7 rfl ?_
  refine Cr ?_
  refine Rp rfl (pv_move rfl) ?_
  refine Rp rfl (pv_nilCheck rfl) ?_
  refine Rp rfl (pv_fieldAddr (k := 0) rfl Tryz.runUnderlying110 rfl Tryz.sizeOf103 rfl rfl) ?_
  refine Rq rfl (oq_load rfl rfl Tryz.isAgg103 Z1 (by rfl) (by rfl)) ?_
  refine Rp rfl (pv_move rfl) ?_
  refine Rp rfl (pv_quo rfl rfl (by decide)) ?_
  refine Rp rfl (pv_indexAddr1 (j := bix at_) rfl rfl Tryz.runUnderlying103 Tryz.sizeOf149 (bix_eq h0 (by omega)) (by simpa using (bix_lt h0 (n := 8) (by omega) h1))) ?_
  refine Rp rfl (pv_move rfl) ?_
  refine Rp rfl (pv_rem rfl rfl (by decide)) ?_
  refine Rp rfl (pv_convert rfl Tryz.runUnderlying3 Tryz.runUnderlying192) ?_
  refine Rp rfl (pv_bin rfl rfl rfl) ?_
  refine Rp rfl (pv_move rfl) ?_
  refine Rp rfl (pv_build (ps := [(0, _), (1, _), (2, _)]) (cs := [_, _, _]) rfl Tryz.zeroValue232 Tryz.runUnderlying232 (.cons Tryz.sizeOf195 (.cons Tryz.sizeOf192 (.cons Tryz.sizeOf28 (.nil)))) rfl) ?_
  refine rl_op0 rfl rfl (ot_store rfl rfl rfl Tryz.sizeOf232 Z0 (rfl : _ = [_, _, _]) rfl (by rfl) (by rfl) (by first | rfl | assumption) (by exact (rfl : _ = [_, _, _]))) ?_
  rintro _ _ rfl
  refine Kn1 6 rfl ?_
  refine ct_ret ?_
  refine fin_ret1 (RVs.agg (us := [_, _, _]) rfl Tryz.isAgg232 Tryz.sizeOf232 Z0 (by rfl) (by rfl) (by rfl) (RVs.nil)) Tryz.results151 ?_ Sees.refl
  refine Ro rfl (ot_alloc rfl Tryz.zeroValue232 (rfl : _ = [_, _, _])) ?_
  rintro _ _ ⟨b10, rfl, rfl⟩
  refine rl_op0 rfl rfl (ot_store rfl rfl rfl Tryz.sizeOf232 Z0 (rfl : _ = [_, _, _]) rfl (by rfl) (by rfl) (by first | rfl | assumption) (by exact (rfl : _ = [_, _, _]))) ?_
  rintro _ _ rfl
  refine Kn3 3 4 9 rfl ?_
  refine ct_seq ?_
  refine Cr ?_
  refine Rp rfl (pv_fieldAddr (k := 0) rfl Tryz.runUnderlying36 rfl Tryz.sizeOf3 rfl rfl) ?_
  refine Rq rfl (oq_load rfl rfl Tryz.isAgg3 Z6 (by rfl) (by rfl)) ?_
  refine Kn4 3 4 9 65 rfl ?_
  refine ct_block ?_
  refine Cr ?_
  refine Rp rfl (pv_bin (v := .bool true) rfl rfl (by rfl)) ?_
  refine Rp rfl (pv_assign rfl) ?_
  refine Kn5 3 4 9 65 66 rfl ?_
  refine ct_true rfl ?_
  refine ct_region ?_
  refine Rq rfl (oq_loadAgg (us := [_, _, _]) rfl rfl Tryz.isAgg232 Tryz.sizeOf232 Z0 (by rfl) (by rfl) (by rfl)) ?_
  refine rl_call rfl rfl (by decide) Tryz.call153 (vs := [_]) rfl Tryz.func153 rfl Tryz.ntmps153 rfl rfl ?_
  refine Cr ?_
  refine Ro rfl (ot_box rfl rfl (rfl : _ = [_, _, _])) ?_
  rintro _ _ ⟨b11, rfl, rfl⟩
  refine Rp rfl (pv_assign rfl) ?_
  refine Kn1 1 rfl ?_
  refine ct_seq ?_
  refine ct_planH [.q 0, .q 1, .q 3, .q 4, .q 6, .q 7, .e 2, .q 5, .q 8, .q 9] mixed (by decide +kernel) ?_
  refine pw_q rfl rfl rfl rfl (oq_pv (pv_fieldAddr (k := 0) rfl Tryz.runUnderlying232 rfl Tryz.sizeOf195 rfl rfl)) ?_
  refine pw_q rfl rfl rfl rfl (oq_load rfl rfl Tryz.isAgg195 Z0 (by rfl) (by rfl)) ?_
  refine pw_q rfl rfl rfl rfl (oq_pv (pv_fieldAddr (k := 1) rfl Tryz.runUnderlying232 rfl Tryz.sizeOf192 rfl rfl)) ?_
  refine pw_q rfl rfl rfl rfl (oq_load rfl rfl Tryz.isAgg192 Z0 (by rfl) (by rfl)) ?_
  refine pw_q rfl rfl rfl rfl (oq_pv (pv_fieldAddr (k := 2) rfl Tryz.runUnderlying232 rfl Tryz.sizeOf28 rfl rfl)) ?_
  refine pw_q rfl rfl rfl rfl (oq_load rfl rfl Tryz.isAgg28 Z0 (by rfl) (by rfl)) ?_
  refine pwe_call rfl rfl rfl rfl Tryz.call54 (vs := [_]) rfl Tryz.func54 rfl Tryz.ntmps54 rfl rfl ?_
  refine Cr ?_
  refine Rp rfl (pv_assign rfl) ?_
  refine Kn1 0 rfl ?_
  refine Cr ?_
  refine Rp rfl (pv_move rfl) ?_
  refine Rp rfl (pv_nilCheck rfl) ?_
  refine Rp rfl (pv_fieldAddr (k := bix at_) rfl Tryz.runUnderlying149 rfl Tryz.sizeOf28 rfl rfl) ?_
  refine Rq rfl (oq_atomLoad rfl extLoad rfl Z8 (Nat.zero_le_ble) (wget_sub (bix_lt h0 (n := 8) (by omega) h1))) ?_
  refine Rp rfl (pv_assign rfl) ?_
  refine Kn1 2 rfl ?_
  refine ct_ret ?_
  refine fin_ret1 (RVs.tmp rfl (RVs.nil)) Tryz.results54 ?_ Sees.refl
  refine ⟨[], Sees.cons Z0 (Sees.cons Z0 (Sees.cons Z0 (Sees.cons Z0 (Sees.cons Z0 (Sees.cons Z0 (Sees.cons Z0 (Sees.cons Z0 (Sees.cons Z0 (Sees.refl))))))))), ?_⟩
  refine pw_q rfl rfl rfl rfl (oq_pv (pv_shr rfl rfl (inK_wrap .u64 _).1)) ?_
  refine pw_q rfl rfl rfl rfl (oq_pv (pv_bin rfl rfl rfl)) ?_
  refine pw_q rfl rfl rfl rfl (oq_pv (pv_assign rfl)) ?_
  refine pw_done ?_
  refine Kx1 2 rfl ?_
  refine ct_ret ?_
  refine fin_ret1 (RVs.tmp rfl (RVs.nil)) Tryz.results153 ?_ Sees.refl
  refine Rp rfl (pv_fieldAddr (k := 0) rfl Tryz.runUnderlying31 rfl Tryz.sizeOf28 rfl rfl) ?_
  refine rl_op0 rfl rfl (ot_store rfl rfl rfl Tryz.sizeOf28 Z6 (rfl : _ = [_]) rfl (by rfl) (by rfl) (by first | rfl | assumption) (by exact (rfl : _ = [_, _, _]))) ?_
  rintro _ _ rfl
  refine rl_nil ?_
  refine xt_normal_block ?_
  refine Kx1 4 rfl ?_
  refine Cr ?_
  refine Rq rfl (oq_loadAgg (us := [_, _, _]) rfl rfl Tryz.isAgg31 Tryz.sizeOf31 Z0 (by rfl) (by rfl) (by rfl)) ?_
  refine rl_op0 rfl rfl (ot_store rfl rfl rfl Tryz.sizeOf31 Z0 (rfl : _ = [_, _, _]) rfl (by rfl) (by rfl) (by first | rfl | assumption) (by exact (rfl : _ = [_, _, _]))) ?_
  rintro _ _ rfl
  refine Rp rfl (pv_assign rfl) ?_
  refine Kn2 4 5 rfl ?_
  refine ct_ret ?_
  exact fin_ret (RVs.agg (us := [_, _, _]) rfl Tryz.isAgg31 Tryz.sizeOf31 Z0 (by rfl) (by rfl) (by rfl) (RVs.tmp rfl (RVs.nil))) Tryz.results113 ⟨_, rfl, rfl⟩ (Sees.cons Z4 (Sees.cons Z7 (Sees.skip (Sees.skip (Sees.skip (Sees.skip (Sees.skip (Sees.skip (Sees.skip (Sees.refl))))))))))
theorem do_store8 (ω : World) (bb wb : Nat) (m : List Int) (cnt at_ v u : Int) (p : Option Addr) (pn pc : Nat) (hm : m.length ≤ 16384) (h0 : 0 ≤ at_) (h8 : at_.tmod 8 = 0) (h1 : at_ + 8 ≤ 8 * (m.length : Int)) (F : List HP) : Spec ω Tryz.prog 113 #[.pointer (some ⟨bb, 0, none⟩), .agg #[.int .i64 2, .int .i64 at_, .int .i64 8, .int .u64 v, .int .u64 u, .slice p pn pc]] (row bb 0 [.slice (some ⟨wb, 0, none⟩) m.length m.length, .int .i64 cnt] :: row wb 0 (wcells m) :: F) fun v' H' => ∃ cnt', v' = .tuple #[.agg #[.int .u64 0, .bool false, .slice none 0 0], .int .i64 0] ∧ H' = row bb 0 [.slice (some ⟨wb, 0, none⟩) m.length m.length, .int .i64 cnt'] :: row wb 0 (wcells (mput m at_ 8 v)) :: F := by
  refine spec_of_body Tryz.func113 rfl Tryz.ntmps113 rfl ?_
  refine Cr ?_
  refine Ro rfl (ot_box rfl rfl (rfl : _ = [_, _, _, _, _, _])) ?_
  rintro _ _ ⟨b1, rfl, rfl⟩
  refine Ro rfl (ot_alloc rfl Tryz.zeroValue31 (rfl : _ = [_, _, _])) ?_
  rintro _ _ ⟨b2, rfl, rfl⟩
  refine Rp rfl (pv_assign rfl) ?_
  refine Kn3 0 3 4 rfl ?_
  refine ct_seq ?_
  refine ct_seq ?_
  refine ct_planH [.q 0, .q 1, .q 2, .b 3, .q 4] mixed (by decide +kernel) ?_
  refine pw_q rfl rfl rfl rfl (oq_pv (pv_move rfl)) ?_
  refine pw_q rfl rfl rfl rfl (oq_call_of (cs := [_, _]) rfl Tryz.call148 (vs := [_]) rfl (Pick.cons Z2 (Pick.cons Z2 (Pick.nil))) (fun F => bsize_read _ _ _ _ _ hm F)) ?_
  refine pw_q rfl rfl rfl rfl (oq_loadAgg (us := [_, _, _, _, _, _]) rfl rfl Tryz.isAgg36 Tryz.sizeOf36 Z1 (by rfl) (by rfl) (by rfl)) ?_
  refine pwb_call rfl rfl rfl rfl Tryz.call147 (vs := [_, _]) rfl Tryz.func147 rfl Tryz.ntmps147 rfl rfl ?_
  refine Cr ?_
  refine Ro rfl (ot_box rfl rfl (rfl : _ = [_, _, _, _, _, _])) ?_
  rintro _ _ ⟨b3, rfl, rfl⟩
  refine Rp rfl (pv_assign rfl) ?_
  refine Kn2 0 3 rfl ?_
  refine ct_seq ?_
  refine ct_block ?_
  refine Cr ?_
  refine Rq rfl (oq_loadAgg (us := [_, _, _, _, _, _]) rfl rfl Tryz.isAgg36 Tryz.sizeOf36 Z0 (by rfl) (by rfl) (by rfl)) ?_
  refine rl_call rfl rfl (by decide) Tryz.call168 (vs := [_]) rfl Tryz.func168 rfl Tryz.ntmps168 rfl rfl ?_
  refine Cr ?_
  refine Ro rfl (ot_box rfl rfl (rfl : _ = [_, _, _, _, _, _])) ?_
  rintro _ _ ⟨b4, rfl, rfl⟩
  refine Rp rfl (pv_assign rfl) ?_
  refine Kn1 1 rfl ?_
  refine ct_seq ?_
  refine Cr ?_
  refine Rp rfl (pv_fieldAddr (k := 0) rfl Tryz.runUnderlying36 rfl Tryz.sizeOf3 rfl rfl) ?_
  refine Rq rfl (oq_load rfl rfl Tryz.isAgg3 Z0 (by rfl) (by rfl)) ?_
  refine Kn2 1 4 rfl ?_
  refine ct_block ?_
  refine ct_seq ?_
  refine Cr ?_
  refine Rp rfl (pv_bin (v := .bool false) rfl rfl (by rfl)) ?_
  refine Rp rfl (pv_assign rfl) ?_
  refine Kn3 1 4 5 rfl ?_
  refine ct_false rfl ?_
  refine Cr ?_
  refine Rp rfl (pv_bin (v := .bool true) rfl rfl (by rfl)) ?_
  refine Rp rfl (pv_assign rfl) ?_
  refine Kn3 1 4 5 rfl ?_
  refine ct_true rfl ?_
  refine ct_skip ?_
  refine Kx3 1 4 5 rfl ?_
  refine ct_true rfl ?_
  refine Cr ?_
  refine Rp rfl (pv_fieldAddr (k := 2) rfl Tryz.runUnderlying36 rfl Tryz.sizeOf3 rfl rfl) ?_
  refine Rq rfl (oq_load rfl rfl Tryz.isAgg3 Z0 (by rfl) (by rfl)) ?_
  refine Rp rfl (pv_bin (v := .bool false) rfl rfl (by rfl)) ?_
  refine Rp rfl (pv_move rfl) ?_
  refine Ru rfl (pv_fieldAddr (k := 2) rfl Tryz.runUnderlying36 rfl Tryz.sizeOf3 rfl rfl) ?_
  refine Rv rfl (oq_load rfl rfl Tryz.isAgg3 Z0 (by rfl) (by rfl)) ?_
  refine Ru rfl (pv_bin (v := .bool true) rfl rfl (by rfl)) ?_
  refine Rp rfl (pv_pick0 rfl rfl) ?_
  refine Rp rfl (pv_assign rfl) ?_
  refine Kn1 2 rfl ?_
  refine ct_ret ?_
  refine xt_ret_block ?_
  refine xt_ret_then ?_
  refine fin_ret1 (RVs.tmp rfl (RVs.nil)) Tryz.results168 ?_ Sees.refl
  refine Rp rfl (pv_not rfl) ?_
  refine Rp rfl (pv_assign rfl) ?_
  refine Kn3 0 3 5 rfl ?_
  refine ct_false rfl ?_
  refine Cr ?_
  refine Rp rfl (pv_fieldAddr (k := 1) rfl Tryz.runUnderlying36 rfl Tryz.sizeOf3 rfl rfl) ?_
  refine Rq rfl (oq_load rfl rfl Tryz.isAgg3 Z1 (by rfl) (by rfl)) ?_
  refine Rp rfl (pv_bin rfl rfl rfl) ?_
  refine Rp rfl (pv_move rfl) ?_
  refine rl_split_d (fun hz5 => absurd hz5 (by omega)) (fun _ => ?_)
  refine Ru rfl (pv_fieldAddr (k := 1) rfl Tryz.runUnderlying36 rfl Tryz.sizeOf3 rfl rfl) ?_
  refine Rv rfl (oq_load rfl rfl Tryz.isAgg3 Z1 (by rfl) (by rfl)) ?_
  refine Ru rfl (pv_move rfl) ?_
  refine Ru rfl (pv_bin rfl rfl rfl) ?_
  refine Rp rfl (pv_pick0 rfl rfl) ?_
  refine Rp rfl (pv_move rfl) ?_
  refine rl_split_d (fun hz6 => absurd hz6 (by omega)) (fun _ => ?_)
  refine Ru rfl (pv_fieldAddr (k := 2) rfl Tryz.runUnderlying36 rfl Tryz.sizeOf3 rfl rfl) ?_
  refine Rv rfl (oq_load rfl rfl Tryz.isAgg3 Z1 (by rfl) (by rfl)) ?_
  refine Ru rfl (pv_move rfl) ?_
  refine Ru rfl (pv_fieldAddr (k := 1) rfl Tryz.runUnderlying36 rfl Tryz.sizeOf3 rfl rfl) ?_
  refine Rv rfl (oq_load rfl rfl Tryz.isAgg3 Z1 (by rfl) (by rfl)) ?_
  refine Ru rfl (pv_bin rfl rfl rfl) ?_
  refine Ru rfl (pv_bin rfl rfl rfl) ?_
  refine Rp rfl (pv_pick0 rfl rfl) ?_
  refine Rp rfl (pv_assign rfl) ?_
  refine Kn2 3 9 rfl ?_
  refine ct_cond_d rfl (fun hz7 => absurd hz7 (by rw [sub_in h0 (by omega) (by omega)]; omega)) (fun _ => ?_)
  refine Cr ?_
  refine Rp rfl (pv_fieldAddr (k := 0) rfl Tryz.runUnderlying36 rfl Tryz.sizeOf3 rfl rfl) ?_
  refine Rq rfl (oq_load rfl rfl Tryz.isAgg3 Z1 (by rfl) (by rfl)) ?_
  refine Rp rfl (pv_bin (v := .bool true) rfl rfl (by rfl)) ?_
  refine Rp rfl (pv_move rfl) ?_
  refine Ru rfl (pv_fieldAddr (k := 1) rfl Tryz.runUnderlying36 rfl Tryz.sizeOf3 rfl rfl) ?_
  refine Rv rfl (oq_load rfl rfl Tryz.isAgg3 Z1 (by rfl) (by rfl)) ?_
  refine Ru rfl (pv_fieldAddr (k := 2) rfl Tryz.runUnderlying36 rfl Tryz.sizeOf3 rfl rfl) ?_
  refine Rv rfl (oq_load rfl rfl Tryz.isAgg3 Z1 (by rfl) (by rfl)) ?_
  refine Ru rfl (pv_rem rfl rfl (by decide)) ?_
  refine Ru rfl (pv_bin rfl rfl rfl) ?_
  refine Rp rfl (pv_pick1 rfl rfl) ?_
  refine Rp rfl (pv_assign rfl) ?_
  refine Kn1 28 rfl ?_
  refine ct_cond_n rfl (fun hz8 => absurd h8 hz8) (fun _ => ?_)
  refine ct_skip ?_
  refine xt_normal_block ?_
  refine xt_then ?_
  refine CT.weaken (E' := []) (Knows.nil) Sees.refl ?_
  refine Cr ?_
  refine Rp rfl (pv_assign rfl) ?_
  refine Kn1 4 rfl ?_
  refine ct_ret ?_
  refine fin_ret1 (RVs.tmp rfl (RVs.nil)) Tryz.results147 ?_ Sees.refl
  refine pw_q rfl rfl rfl rfl (oq_pv (pv_assign rfl)) ?_
  refine pw_done ?_
  refine Kx4 0 3 4 6 rfl ?_
  refine Cr ?_
  refine Rp rfl (pv_move rfl) ?_
  refine Rp rfl (pv_bin (v := .bool false) rfl rfl (by rfl)) ?_
  refine Kn5 0 3 4 6 15 rfl ?_
  refine ct_false rfl ?_
  refine ct_skip ?_
  refine Kx3 0 3 4 rfl ?_
  refine ct_seq ?_
  refine Cr ?_
  refine Rp rfl (pv_move rfl) ?_
  refine Rp rfl (pv_eql rfl rfl Tryz.runUnderlying53 rfl) ?_
  refine Kn4 0 3 4 19 rfl ?_
  refine ct_false rfl ?_
  refine ct_skip ?_
  refine Kx3 0 3 4 rfl ?_
  refine Cr ?_
  refine Rp rfl (pv_move rfl) ?_
  refine Rp rfl (pv_nilCheck rfl) ?_
  refine Rp rfl (pv_fieldAddr (k := 1) rfl Tryz.runUnderlying110 rfl Tryz.sizeOf108 rfl rfl) ?_
  refine rl_call rfl rfl (by decide) Tryz.call149 (vs := [_, _]) rfl Tryz.func149 rfl Tryz.ntmps149 rfl rfl ?_
  refine Cr ?_
  refine Rp rfl (pv_assign rfl) ?_
  refine Kn2 0 1 rfl ?_
  refine Cr ?_
  refine Rp rfl (pv_move rfl) ?_
  refine Rp rfl (pv_nilCheck rfl) ?_
  refine Rp rfl (pv_fieldAddr (k := 1) rfl Tryz.runUnderlying108 rfl Tryz.sizeOf2 rfl rfl) ?_
  refine Rp rfl (pv_move rfl) ?_
  refine Ro rfl (ot_atomAdd rfl extAddI rfl Z4 rfl (by rfl) (by exact (rfl : _ = [_, _]))) ?_
  rintro _ _ ⟨rfl, rfl⟩
  refine Rp rfl (pv_assign rfl) ?_
  refine Kn1 4 rfl ?_
  refine ct_ret ?_
  refine fin_ret1 (RVs.tmp rfl (RVs.nil)) Tryz.results149 ?_ Sees.refl
  refine Kn3 0 3 4 rfl ?_
  refine ct_seq ?_
  refine Cr ?_
  refine Rp rfl (pv_fieldAddr (k := 0) rfl Tryz.runUnderlying36 rfl Tryz.sizeOf3 rfl rfl) ?_
  refine Rq rfl (oq_load rfl rfl Tryz.isAgg3 Z4 (by rfl) (by rfl)) ?_
  refine Kn4 0 3 4 26 rfl ?_
  refine ct_block ?_
  refine Cr ?_
  refine Rp rfl (pv_bin (v := .bool false) rfl rfl (by rfl)) ?_
  refine Rp rfl (pv_assign rfl) ?_
  refine Kn5 0 3 4 26 27 rfl ?_
  refine ct_false rfl ?_
  refine Cr ?_
  refine Rp rfl (pv_bin (v := .bool false) rfl rfl (by rfl)) ?_
  refine Rp rfl (pv_assign rfl) ?_
  refine Kn4 0 3 4 37 rfl ?_
  refine ct_false rfl ?_
  refine ct_skip ?_
  refine xt_normal_block ?_
  refine Kx3 0 3 4 rfl ?_
  refine Cr ?_
  refine Rp rfl (pv_move rfl) ?_
  refine Rp rfl (pv_fieldAddr (k := 1) rfl Tryz.runUnderlying36 rfl Tryz.sizeOf3 rfl rfl) ?_
  refine Rq rfl (oq_load rfl rfl Tryz.isAgg3 Z4 (by rfl) (by rfl)) ?_
  refine Rp rfl (pv_fieldAddr (k := 2) rfl Tryz.runUnderlying36 rfl Tryz.sizeOf3 rfl rfl) ?_
  refine Rq rfl (oq_load rfl rfl Tryz.isAgg3 Z4 (by rfl) (by rfl)) ?_
  refine rl_call rfl rfl (by decide) Tryz.call151 (vs := [_, _, _]) rfl Tryz.func151 rfl Tryz.ntmps151 rfl rfl ?_
  refine Cr ?_
  refine Ro rfl (ot_alloc rfl Tryz.zeroValue232 (rfl : _ = [_, _, _])) ?_
  rintro _ _ ⟨b9, rfl, rfl⟩
  refine Kn4 0 1 2 6 rfl ?_
  refine Cr ?_
  refine Rp rfl (pv_assign rfl) ?_
  refine Kn5 0 1 2 6 7 rfl ?_
  refine ct_seq ?_
  refine Cr ?_
  refine Rp rfl (pv_move rfl) ?_
  refine Rp rfl (pv_bin (v := .bool false) rfl rfl (by rfl)) ?_
  refine Kn6 0 1 2 6 7 9 rfl ?_
  refine ct_false rfl ?_
  refine ct_skip ?_
  refine Kx4 0 1 6 7 rfl ?_
  refine Cr ?_
  refine Rp rfl (pv_move rfl) ?_
  refine Rp rfl (pv_nilCheck rfl) ?_
  refine Rp rfl (pv_fieldAddr (k := 0) rfl Tryz.runUnderlying110 rfl Tryz.sizeOf103 rfl rfl) ?_
  refine Rq rfl (oq_load rfl rfl Tryz.isAgg103 Z1 (by rfl) (by rfl)) ?_
  refine Rp rfl (pv_move rfl) ?_
  refine Rp rfl (pv_quo rfl rfl (by decide)) ?_
  refine Rp rfl (pv_indexAddr1 (j := bix at_) rfl rfl Tryz.runUnderlying103 Tryz.sizeOf149 (bix_eq h0 (by omega)) (by simpa using (bix_lt h0 (n := 8) (by omega) h1))) ?_
  refine Rp rfl (pv_move rfl) ?_
  refine Rp rfl (pv_rem rfl rfl (by decide)) ?_
  refine Rp rfl (pv_convert rfl Tryz.runUnderlying3 Tryz.runUnderlying192) ?_
  refine Rp rfl (pv_bin rfl rfl rfl) ?_
  refine Rp rfl (pv_move rfl) ?_
  refine Rp rfl (pv_build (ps := [(0, _), (1, _), (2, _)]) (cs := [_, _, _]) rfl Tryz.zeroValue232 Tryz.runUnderlying232 (.cons Tryz.sizeOf195 (.cons Tryz.sizeOf192 (.cons Tryz.sizeOf28 (.nil)))) rfl) ?_
  refine rl_op0 rfl rfl (ot_store rfl rfl rfl Tryz.sizeOf232 Z0 (rfl : _ = [_, _, _]) rfl (by rfl) (by rfl) (by first | rfl | assumption) (by exact (rfl : _ = [_, _, _]))) ?_
  rintro _ _ rfl
  refine Kn1 6 rfl ?_
  refine ct_ret ?_
  refine fin_ret1 (RVs.agg (us := [_, _, _]) rfl Tryz.isAgg232 Tryz.sizeOf232 Z0 (by rfl) (by rfl) (by rfl) (RVs.nil)) Tryz.results151 ?_ Sees.refl
  refine Ro rfl (ot_alloc rfl Tryz.zeroValue232 (rfl : _ = [_, _, _])) ?_
  rintro _ _ ⟨b10, rfl, rfl⟩
  refine rl_op0 rfl rfl (ot_store rfl rfl rfl Tryz.sizeOf232 Z0 (rfl : _ = [_, _, _]) rfl (by rfl) (by rfl) (by first | rfl | assumption) (by exact (rfl : _ = [_, _, _]))) ?_
  rintro _ _ rfl
  refine Kn3 3 4 9 rfl ?_
  refine ct_seq ?_
  refine Cr ?_
  refine Rp rfl (pv_fieldAddr (k := 0) rfl Tryz.runUnderlying36 rfl Tryz.sizeOf3 rfl rfl) ?_
  refine Rq rfl (oq_load rfl rfl Tryz.isAgg3 Z6 (by rfl) (by rfl)) ?_
  refine Kn4 3 4 9 65 rfl ?_
  refine ct_block ?_
  refine Cr ?_
  refine Rp rfl (pv_bin (v := .bool false) rfl rfl (by rfl)) ?_
  refine Rp rfl (pv_assign rfl) ?_
  refine Kn5 3 4 9 65 66 rfl ?_
  refine ct_false rfl ?_
  refine Cr ?_
  refine Rp rfl (pv_bin (v := .bool true) rfl rfl (by rfl)) ?_
  refine Rp rfl (pv_assign rfl) ?_
  refine Kn5 3 4 9 65 71 rfl ?_
  refine ct_true rfl ?_
  refine ct_region ?_
  refine Rq rfl (oq_loadAgg (us := [_, _, _]) rfl rfl Tryz.isAgg232 Tryz.sizeOf232 Z0 (by rfl) (by rfl) (by rfl)) ?_
  refine Rp rfl (pv_fieldAddr (k := 3) rfl Tryz.runUnderlying36 rfl Tryz.sizeOf28 rfl rfl) ?_
  refine Rq rfl (oq_load rfl rfl Tryz.isAgg28 Z6 (by rfl) (by rfl)) ?_
  refine rl_call rfl rfl (by decide) Tryz.call152 (vs := [_, _]) rfl Tryz.func152 rfl Tryz.ntmps152 rfl rfl ?_
  refine Cr ?_
  refine Ro rfl (ot_box rfl rfl (rfl : _ = [_, _, _])) ?_
  rintro _ _ ⟨b11, rfl, rfl⟩
  refine Kn2 1 2 rfl ?_
  refine ct_block ?_
  refine ct_loop (α := Unit) (fun _ => [(1, _), (2, _)]) (fun _ => _) (fun _ => 0) () (Knows.cons rfl (Knows.cons rfl (Knows.nil))) Sees.refl ?_
  intro _
  refine ct_seq ?_
  refine ct_seq ?_
  refine ct_planH [.q 0, .q 1, .q 2, .q 4, .e 3, .b 5, .q 6] mixed (by decide +kernel) ?_
  refine pw_q rfl rfl rfl rfl (oq_loadAgg (us := [_, _, _]) rfl rfl Tryz.isAgg232 Tryz.sizeOf232 Z0 (by rfl) (by rfl) (by rfl)) ?_
  refine pw_q rfl rfl rfl rfl (oq_pv (pv_fieldAddr (k := 0) rfl Tryz.runUnderlying232 rfl Tryz.sizeOf195 rfl rfl)) ?_
  refine pw_q rfl rfl rfl rfl (oq_load rfl rfl Tryz.isAgg195 Z0 (by rfl) (by rfl)) ?_
  refine pw_q rfl rfl rfl rfl (oq_pv (pv_move rfl)) ?_
  refine pwe_call rfl rfl rfl rfl Tryz.call54 (vs := [_]) rfl Tryz.func54 rfl Tryz.ntmps54 rfl rfl ?_
  refine Cr ?_
  refine Rp rfl (pv_assign rfl) ?_
  refine Kn1 0 rfl ?_
  refine Cr ?_
  refine Rp rfl (pv_move rfl) ?_
  refine Rp rfl (pv_nilCheck rfl) ?_
  refine Rp rfl (pv_fieldAddr (k := bix at_) rfl Tryz.runUnderlying149 rfl Tryz.sizeOf28 rfl rfl) ?_
  refine Rq rfl (oq_atomLoad rfl extLoad rfl Z8 (Nat.zero_le_ble) (wget_sub (bix_lt h0 (n := 8) (by omega) h1))) ?_
  refine Rp rfl (pv_assign rfl) ?_
  refine Kn1 2 rfl ?_
  refine ct_ret ?_
  refine fin_ret1 (RVs.tmp rfl (RVs.nil)) Tryz.results54 ?_ Sees.refl
  refine ⟨[], Sees.cons Z0 (Sees.cons Z0 (Sees.cons Z0 (Sees.cons Z0 (Sees.cons Z0 (Sees.cons Z0 (Sees.cons Z0 (Sees.cons Z0 (Sees.cons Z0 (Sees.refl))))))))), ?_⟩
  refine pwb_call rfl rfl rfl rfl Tryz.call170 (vs := [_, _, _]) rfl Tryz.func170 rfl Tryz.ntmps170 rfl rfl ?_
  refine Cr ?_
  refine Ro rfl (ot_box rfl rfl (rfl : _ = [_, _, _])) ?_
  rintro _ _ ⟨b12, rfl, rfl⟩
  refine Rp rfl (pv_assign rfl) ?_
  refine Kn3 1 2 3 rfl ?_
  refine Cr ?_
  refine Rp rfl (pv_fieldAddr (k := 0) rfl Tryz.runUnderlying232 rfl Tryz.sizeOf195 rfl rfl) ?_
  refine Rq rfl (oq_load rfl rfl Tryz.isAgg195 Z0 (by rfl) (by rfl)) ?_
  refine Rp rfl (pv_move rfl) ?_
  refine Rp rfl (pv_move rfl) ?_
  refine Rp rfl (pv_fieldAddr (k := 2) rfl Tryz.runUnderlying232 rfl Tryz.sizeOf28 rfl rfl) ?_
  refine Rq rfl (oq_load rfl rfl Tryz.isAgg28 Z0 (by rfl) (by rfl)) ?_
  refine Rp rfl (pv_fieldAddr (k := 1) rfl Tryz.runUnderlying232 rfl Tryz.sizeOf192 rfl rfl) ?_
  refine Rq rfl (oq_load rfl rfl Tryz.isAgg192 Z0 (by rfl) (by rfl)) ?_
  refine Rp rfl (pv_shl rfl rfl (inK_wrap .u64 _).1) ?_
  refine Rp rfl (pv_bin rfl rfl rfl) ?_
  refine Rp rfl (pv_move rfl) ?_
  refine Rp rfl (pv_fieldAddr (k := 2) rfl Tryz.runUnderlying232 rfl Tryz.sizeOf28 rfl rfl) ?_
  refine Rq rfl (oq_load rfl rfl Tryz.isAgg28 Z0 (by rfl) (by rfl)) ?_
  refine Rp rfl (pv_bin rfl rfl rfl) ?_
  refine Rp rfl (pv_fieldAddr (k := 1) rfl Tryz.runUnderlying232 rfl Tryz.sizeOf192 rfl rfl) ?_
  refine Rq rfl (oq_load rfl rfl Tryz.isAgg192 Z0 (by rfl) (by rfl)) ?_
  refine Rp rfl (pv_shl rfl rfl (inK_wrap .u64 _).1) ?_
  refine Rp rfl (pv_bin rfl rfl rfl) ?_
  refine rl_call rfl rfl (by decide) Tryz.call173 (vs := [_, _, _]) rfl Tryz.func173 rfl Tryz.ntmps173 rfl rfl ?_
  refine Cr ?_
  refine Rp rfl (pv_assign rfl) ?_
  refine Kn3 0 1 2 rfl ?_
  refine Cr ?_
  refine Rp rfl (pv_move rfl) ?_
  refine Rp rfl (pv_nilCheck rfl) ?_
  refine Rp rfl (pv_fieldAddr (k := bix at_) rfl Tryz.runUnderlying149 rfl Tryz.sizeOf28 rfl rfl) ?_
  refine Rp rfl (pv_move rfl) ?_
  refine Rp rfl (pv_move rfl) ?_
  refine Ro rfl (ot_atomCas rfl extCas rfl Z9 (Nat.zero_le_ble) (wget_sub (bix_lt h0 (n := 8) (by omega) h1)) (wput_sub _ _ _)) ?_
  rintro _ _ ⟨rfl, rfl⟩
  refine Rp rfl (pv_assign rfl) ?_
  refine Kn1 6 rfl ?_
  refine ct_ret ?_
  refine fin_ret1 (RVs.tmp rfl (RVs.nil)) Tryz.results173 ?_ Sees.refl
  refine Rp rfl (pv_assign rfl) ?_
  refine Kn1 6 rfl ?_
  refine ct_ret ?_
  refine fin_ret1 (RVs.tmp rfl (RVs.nil)) Tryz.results170 ?_ Sees.refl
  refine pw_q rfl rfl rfl rfl (oq_pv (pv_not rfl)) ?_
  refine pw_done ?_
  refine Kx3 1 2 10 rfl ?_
  refine ct_false rfl ?_
  refine ct_exit ?_
  refine xt_exit_then ?_
  refine xt_exit_then ?_
  refine xt_exit_block ?_
  refine fin_end (RVs.nil) Tryz.results152 ?_ Sees.refl
  refine rl_nil ?_
  refine xt_normal_block ?_
  refine Kx1 4 rfl ?_
  refine Cr ?_
  refine Rq rfl (oq_loadAgg (us := [_, _, _]) rfl rfl Tryz.isAgg31 Tryz.sizeOf31 Z8 (by rfl) (by rfl) (by rfl)) ?_
  refine rl_op0 rfl rfl (ot_store rfl rfl rfl Tryz.sizeOf31 Z8 (rfl : _ = [_, _, _]) rfl (by rfl) (by rfl) (by first | rfl | assumption) (by exact (rfl : _ = [_, _, _]))) ?_
  rintro _ _ rfl
  refine Rp rfl (pv_assign rfl) ?_
  refine Kn2 4 5 rfl ?_
  refine ct_ret ?_
  exact fin_ret (RVs.agg (us := [_, _, _]) rfl Tryz.isAgg31 Tryz.sizeOf31 Z0 (by rfl) (by rfl) (by rfl) (RVs.tmp rfl (RVs.nil))) Tryz.results113 ⟨_, rfl, rfl⟩ (Sees.cons Z6 (Sees.cons Z1 (Sees.skip (Sees.skip (Sees.skip (Sees.skip (Sees.skip (Sees.skip (Sees.skip (Sees.skip (Sees.refl)))))))))))
theorem do_load4 (ω : World) (bb wb : Nat) (m : List Int) (cnt at_ v u : Int) (p : Option Addr) (pn pc : Nat) (hm : m.length ≤ 16384) (h0 : 0 ≤ at_) (h8 : at_.tmod 4 = 0) (h1 : at_ + 4 ≤ 8 * (m.length : Int)) (F : List HP) : Spec ω Tryz.prog 113 #[.pointer (some ⟨bb, 0, none⟩), .agg #[.int .i64 1, .int .i64 at_, .int .i64 4, .int .u64 v, .int .u64 u, .slice p pn pc]] (row bb 0 [.slice (some ⟨wb, 0, none⟩) m.length m.length, .int .i64 cnt] :: row wb 0 (wcells m) :: F) fun v' H' => ∃ cnt', v' = .tuple #[.agg #[.int .u64 (mget m at_ 4), .bool false, .slice none 0 0], .int .i64 0] ∧ H' = row bb 0 [.slice (some ⟨wb, 0, none⟩) m.length m.length, .int .i64 cnt'] :: row wb 0 (wcells m) :: F := by
  refine spec_of_body Tryz.func113 rfl Tryz.ntmps113 rfl ?_
  refine Cr ?_
  refine Ro rfl (ot_box rfl rfl (rfl : _ = [_, _, _, _, _, _])) ?_
  rintro _ _ ⟨b1, rfl, rfl⟩
  refine Ro rfl (ot_alloc rfl Tryz.zeroValue31 (rfl : _ = [_, _, _])) ?_
  rintro _ _ ⟨b2, rfl, rfl⟩
  refine Rp rfl (pv_assign rfl) ?_
  refine Kn3 0 3 4 rfl ?_
  refine ct_seq ?_
  refine ct_seq ?_
  refine ct_planH [.q 0, .q 1, .q 2, .b 3, .q 4] mixed (by decide +kernel) ?_
  refine pw_q rfl rfl rfl rfl (oq_pv (pv_move rfl)) ?_
  refine pw_q rfl rfl rfl rfl (oq_call_of (cs := [_, _]) rfl Tryz.call148 (vs := [_]) rfl (Pick.cons Z2 (Pick.cons Z2 (Pick.nil))) (fun F => bsize_read _ _ _ _ _ hm F)) ?_
  refine pw_q rfl rfl rfl rfl (oq_loadAgg (us := [_, _, _, _, _, _]) rfl rfl Tryz.isAgg36 Tryz.sizeOf36 Z1 (by rfl) (by rfl) (by rfl)) ?_
  refine pwb_call rfl rfl rfl rfl Tryz.call147 (vs := [_, _]) rfl Tryz.func147 rfl Tryz.ntmps147 rfl rfl ?_
  refine Cr ?_
  refine Ro rfl (ot_box rfl rfl (rfl : _ = [_, _, _, _, _, _])) ?_
  rintro _ _ ⟨b3, rfl, rfl⟩
  refine Rp rfl (pv_assign rfl) ?_
  refine Kn2 0 3 rfl ?_
  refine ct_seq ?_
  refine ct_block ?_
  refine Cr ?_
  refine Rq rfl (oq_loadAgg (us := [_, _, _, _, _, _]) rfl rfl Tryz.isAgg36 Tryz.sizeOf36 Z0 (by rfl) (by rfl) (by rfl)) ?_
  refine rl_call rfl rfl (by decide) Tryz.call168 (vs := [_]) rfl Tryz.func168 rfl Tryz.ntmps168 rfl rfl ?_
  refine Cr ?_
  refine Ro rfl (ot_box rfl rfl (rfl : _ = [_, _, _, _, _, _])) ?_
  rintro _ _ ⟨b4, rfl, rfl⟩
  refine Rp rfl (pv_assign rfl) ?_
  refine Kn1 1 rfl ?_
  refine ct_seq ?_
  refine Cr ?_
  refine Rp rfl (pv_fieldAddr (k := 0) rfl Tryz.runUnderlying36 rfl Tryz.sizeOf3 rfl rfl) ?_
  refine Rq rfl (oq_load rfl rfl Tryz.isAgg3 Z0 (by rfl) (by rfl)) ?_
  refine Kn2 1 4 rfl ?_
  refine ct_block ?_
  refine ct_seq ?_
  refine Cr ?_
  refine Rp rfl (pv_bin (v := .bool true) rfl rfl (by rfl)) ?_
  refine Rp rfl (pv_assign rfl) ?_
  refine Kn3 1 4 5 rfl ?_
  refine ct_true rfl ?_
  refine ct_skip ?_
  refine Kx3 1 4 5 rfl ?_
  refine ct_true rfl ?_
  refine Cr ?_
  refine Rp rfl (pv_fieldAddr (k := 2) rfl Tryz.runUnderlying36 rfl Tryz.sizeOf3 rfl rfl) ?_
  refine Rq rfl (oq_load rfl rfl Tryz.isAgg3 Z0 (by rfl) (by rfl)) ?_
  refine Rp rfl (pv_bin (v := .bool true) rfl rfl (by rfl)) ?_
  refine Rp rfl (pv_move rfl) ?_
  refine rl_u rfl rfl (by decide) ?_
  refine rl_u rfl rfl (by decide) ?_
  refine rl_u rfl rfl (by decide) ?_
  refine Rp rfl (pv_pick1 rfl rfl) ?_
  refine Rp rfl (pv_assign rfl) ?_
  refine Kn1 2 rfl ?_
  refine ct_ret ?_
  refine xt_ret_block ?_
  refine xt_ret_then ?_
  refine fin_ret1 (RVs.tmp rfl (RVs.nil)) Tryz.results168 ?_ Sees.refl
  refine Rp rfl (pv_not rfl) ?_
  refine Rp rfl (pv_assign rfl) ?_
  refine Kn3 0 3 5 rfl ?_
  refine ct_false rfl ?_
  refine Cr ?_
  refine Rp rfl (pv_fieldAddr (k := 1) rfl Tryz.runUnderlying36 rfl Tryz.sizeOf3 rfl rfl) ?_
  refine Rq rfl (oq_load rfl rfl Tryz.isAgg3 Z1 (by rfl) (by rfl)) ?_
  refine Rp rfl (pv_bin rfl rfl rfl) ?_
  refine Rp rfl (pv_move rfl) ?_
  refine rl_split_d (fun hz5 => absurd hz5 (by omega)) (fun _ => ?_)
  refine Ru rfl (pv_fieldAddr (k := 1) rfl Tryz.runUnderlying36 rfl Tryz.sizeOf3 rfl rfl) ?_
  refine Rv rfl (oq_load rfl rfl Tryz.isAgg3 Z1 (by rfl) (by rfl)) ?_
  refine Ru rfl (pv_move rfl) ?_
  refine Ru rfl (pv_bin rfl rfl rfl) ?_
  refine Rp rfl (pv_pick0 rfl rfl) ?_
  refine Rp rfl (pv_move rfl) ?_
  refine rl_split_d (fun hz6 => absurd hz6 (by omega)) (fun _ => ?_)
  refine Ru rfl (pv_fieldAddr (k := 2) rfl Tryz.runUnderlying36 rfl Tryz.sizeOf3 rfl rfl) ?_
  refine Rv rfl (oq_load rfl rfl Tryz.isAgg3 Z1 (by rfl) (by rfl)) ?_
  refine Ru rfl (pv_move rfl) ?_
  refine Ru rfl (pv_fieldAddr (k := 1) rfl Tryz.runUnderlying36 rfl Tryz.sizeOf3 rfl rfl) ?_
  refine Rv rfl (oq_load rfl rfl Tryz.isAgg3 Z1 (by rfl) (by rfl)) ?_
  refine Ru rfl (pv_bin rfl rfl rfl) ?_
  refine Ru rfl (pv_bin rfl rfl rfl) ?_
  refine Rp rfl (pv_pick0 rfl rfl) ?_
  refine Rp rfl (pv_assign rfl) ?_
  refine Kn2 3 9 rfl ?_
  refine ct_cond_d rfl (fun hz7 => absurd hz7 (by rw [sub_in h0 (by omega) (by omega)]; omega)) (fun _ => ?_)
  refine Cr ?_
  refine Rp rfl (pv_fieldAddr (k := 0) rfl Tryz.runUnderlying36 rfl Tryz.sizeOf3 rfl rfl) ?_
  refine Rq rfl (oq_load rfl rfl Tryz.isAgg3 Z1 (by rfl) (by rfl)) ?_
  refine Rp rfl (pv_bin (v := .bool true) rfl rfl (by rfl)) ?_
  refine Rp rfl (pv_move rfl) ?_
  refine Ru rfl (pv_fieldAddr (k := 1) rfl Tryz.runUnderlying36 rfl Tryz.sizeOf3 rfl rfl) ?_
  refine Rv rfl (oq_load rfl rfl Tryz.isAgg3 Z1 (by rfl) (by rfl)) ?_
  refine Ru rfl (pv_fieldAddr (k := 2) rfl Tryz.runUnderlying36 rfl Tryz.sizeOf3 rfl rfl) ?_
  refine Rv rfl (oq_load rfl rfl Tryz.isAgg3 Z1 (by rfl) (by rfl)) ?_
  refine Ru rfl (pv_rem rfl rfl (by decide)) ?_
  refine Ru rfl (pv_bin rfl rfl rfl) ?_
  refine Rp rfl (pv_pick1 rfl rfl) ?_
  refine Rp rfl (pv_assign rfl) ?_
  refine Kn1 28 rfl ?_
  refine ct_cond_n rfl (fun hz8 => absurd h8 hz8) (fun _ => ?_)
  refine ct_skip ?_
  refine xt_normal_block ?_
  refine xt_then ?_
  refine CT.weaken (E' := []) (Knows.nil) Sees.refl ?_
  refine Cr ?_
  refine Rp rfl (pv_assign rfl) ?_
  refine Kn1 4 rfl ?_
  refine ct_ret ?_
  refine fin_ret1 (RVs.tmp rfl (RVs.nil)) Tryz.results147 ?_ Sees.refl
  refine pw_q rfl rfl rfl rfl (oq_pv (pv_assign rfl)) ?_
  refine pw_done ?_
  refine Kx4 0 3 4 6 rfl ?_
  refine Cr ?_
  refine Rp rfl (pv_move rfl) ?_
  refine Rp rfl (pv_bin (v := .bool false) rfl rfl (by rfl)) ?_
  refine Kn5 0 3 4 6 15 rfl ?_
  refine ct_false rfl ?_
  refine ct_skip ?_
  refine Kx3 0 3 4 rfl ?_
  refine ct_seq ?_
  refine Cr ?_
  refine Rp rfl (pv_move rfl) ?_
  refine Rp rfl (pv_eql rfl rfl Tryz.runUnderlying53 rfl) ?_
  refine Kn4 0 3 4 19 rfl ?_
  refine ct_false rfl ?_
  refine ct_skip ?_
  refine Kx3 0 3 4 rfl ?_
  refine Cr ?_
  refine Rp rfl (pv_move rfl) ?_
  refine Rp rfl (pv_nilCheck rfl) ?_
  refine Rp rfl (pv_fieldAddr (k := 1) rfl Tryz.runUnderlying110 rfl Tryz.sizeOf108 rfl rfl) ?_
  refine rl_call rfl rfl (by decide) Tryz.call149 (vs := [_, _]) rfl Tryz.func149 rfl Tryz.ntmps149 rfl rfl ?_
  refine Cr ?_
  refine Rp rfl (pv_assign rfl) ?_
  refine Kn2 0 1 rfl ?_
  refine Cr ?_
  refine Rp rfl (pv_move rfl) ?_
  refine Rp rfl (pv_nilCheck rfl) ?_
  refine Rp rfl (pv_fieldAddr (k := 1) rfl Tryz.runUnderlying108 rfl Tryz.sizeOf2 rfl rfl) ?_
  refine Rp rfl (pv_move rfl) ?_
  refine Ro rfl (ot_atomAdd rfl extAddI rfl Z4 rfl (by rfl) (by exact (rfl : _ = [_, _]))) ?_
  rintro _ _ ⟨rfl, rfl⟩
  refine Rp rfl (pv_assign rfl) ?_
  refine Kn1 4 rfl ?_
  refine ct_ret ?_
  refine fin_ret1 (RVs.tmp rfl (RVs.nil)) Tryz.results149 ?_ Sees.refl
  refine Kn3 0 3 4 rfl ?_
  refine ct_seq ?_
  refine Cr ?_
  refine Rp rfl (pv_fieldAddr (k := 0) rfl Tryz.runUnderlying36 rfl Tryz.sizeOf3 rfl rfl) ?_
  refine Rq rfl (oq_load rfl rfl Tryz.isAgg3 Z4 (by rfl) (by rfl)) ?_
  refine Kn4 0 3 4 26 rfl ?_
  refine ct_block ?_
  refine Cr ?_
  refine Rp rfl (pv_bin (v := .bool false) rfl rfl (by rfl)) ?_
  refine Rp rfl (pv_assign rfl) ?_
  refine Kn5 0 3 4 26 27 rfl ?_
  refine ct_false rfl ?_
  refine Cr ?_
  refine Rp rfl (pv_bin (v := .bool false) rfl rfl (by rfl)) ?_
  refine Rp rfl (pv_assign rfl) ?_
  refine Kn4 0 3 4 37 rfl ?_
  refine ct_false rfl ?_
  refine ct_skip ?_
  refine xt_normal_block ?_
  refine Kx3 0 3 4 rfl ?_
  refine Cr ?_
  refine Rp rfl (pv_move rfl) ?_
  refine Rp rfl (pv_fieldAddr (k := 1) rfl Tryz.runUnderlying36 rfl Tryz.sizeOf3 rfl rfl) ?_
  refine Rq rfl (oq_load rfl rfl Tryz.isAgg3 Z4 (by rfl) (by rfl)) ?_
  refine Rp rfl (pv_fieldAddr (k := 2) rfl Tryz.runUnderlying36 rfl Tryz.sizeOf3 rfl rfl) ?_
  refine Rq rfl (oq_load rfl rfl Tryz.isAgg3 Z4 (by rfl) (by rfl)) ?_
  refine rl_call rfl rfl (by decide) Tryz.call151 (vs := [_, _, _]) rfl Tryz.func151 rfl Tryz.ntmps151 rfl rfl ?_
  refine Cr ?_
  refine Ro rfl (ot_alloc rfl Tryz.zeroValue232 (rfl : _ = [_, _, _])) ?_
  rintro _ _ ⟨b9, rfl, rfl⟩
  refine Kn4 0 1 2 6 rfl ?_
  refine Cr ?_
  refine Rp rfl (pv_assign rfl) ?_
  refine Kn5 0 1 2 6 7 rfl ?_
  refine ct_seq ?_
  refine Cr ?_
  refine Rp rfl (pv_move rfl) ?_
  refine Rp rfl (pv_bin (v := .bool true) rfl rfl (by rfl)) ?_
  refine Kn6 0 1 2 6 7 9 rfl ?_
  refine ct_true rfl ?_
  refine ct_region ?_
  refine Rp rfl (pv_move rfl) ?_
  refine Rp rfl (pv_convert_to (v := 4) rfl Tryz.runUnderlying3 Tryz.runUnderlying192 (by rfl)) ?_
  refine Rp rfl (pv_bin (v := .int .u64 32) rfl rfl (by rfl)) ?_
  refine Rp rfl (pv_shl_to (v := 4294967296) rfl rfl (by decide) (by rfl)) ?_
  refine Rp rfl (pv_bin (v := .int .u64 4294967295) rfl rfl (by rfl)) ?_
  refine Rp rfl (pv_assign rfl) ?_
  refine Kn4 0 1 6 7 rfl ?_
  refine Cr ?_
  refine Rp rfl (pv_move rfl) ?_
  refine Rp rfl (pv_nilCheck rfl) ?_
  refine Rp rfl (pv_fieldAddr (k := 0) rfl Tryz.runUnderlying110 rfl Tryz.sizeOf103 rfl rfl) ?_
  refine Rq rfl (oq_load rfl rfl Tryz.isAgg103 Z1 (by rfl) (by rfl)) ?_
  refine Rp rfl (pv_move rfl) ?_
  refine Rp rfl (pv_quo rfl rfl (by decide)) ?_
  refine Rp rfl (pv_indexAddr1 (j := bix at_) rfl rfl Tryz.runUnderlying103 Tryz.sizeOf149 (bix_eq h0 (by omega)) (by simpa using (bix_lt h0 (n := 4) (by omega) h1))) ?_
  refine Rp rfl (pv_move rfl) ?_
  refine Rp rfl (pv_rem rfl rfl (by decide)) ?_
  refine Rp rfl (pv_convert rfl Tryz.runUnderlying3 Tryz.runUnderlying192) ?_
  refine Rp rfl (pv_bin rfl rfl rfl) ?_
  refine Rp rfl (pv_move rfl) ?_
  refine Rp rfl (pv_build (ps := [(0, _), (1, _), (2, _)]) (cs := [_, _, _]) rfl Tryz.zeroValue232 Tryz.runUnderlying232 (.cons Tryz.sizeOf195 (.cons Tryz.sizeOf192 (.cons Tryz.sizeOf28 (.nil)))) rfl) ?_
  refine rl_op0 rfl rfl (ot_store rfl rfl rfl Tryz.sizeOf232 Z0 (rfl : _ = [_, _, _]) rfl (by rfl) (by rfl) (by first | rfl | assumption) (by exact (rfl : _ = [_, _, _]))) ?_
  rintro _ _ rfl
  refine Kn1 6 rfl ?_
  refine ct_ret ?_
  refine fin_ret1 (RVs.agg (us := [_, _, _]) rfl Tryz.isAgg232 Tryz.sizeOf232 Z0 (by rfl) (by rfl) (by rfl) (RVs.nil)) Tryz.results151 ?_ Sees.refl
  refine Ro rfl (ot_alloc rfl Tryz.zeroValue232 (rfl : _ = [_, _, _])) ?_
  rintro _ _ ⟨b10, rfl, rfl⟩
  refine rl_op0 rfl rfl (ot_store rfl rfl rfl Tryz.sizeOf232 Z0 (rfl : _ = [_, _, _]) rfl (by rfl) (by rfl) (by first | rfl | assumption) (by exact (rfl : _ = [_, _, _]))) ?_
  rintro _ _ rfl
  refine Kn3 3 4 9 rfl ?_
  refine ct_seq ?_
  refine Cr ?_
  refine Rp rfl (pv_fieldAddr (k := 0) rfl Tryz.runUnderlying36 rfl Tryz.sizeOf3 rfl rfl) ?_
  refine Rq rfl (oq_load rfl rfl Tryz.isAgg3 Z6 (by rfl) (by rfl)) ?_
  refine Kn4 3 4 9 65 rfl ?_
  refine ct_block ?_
  refine Cr ?_
  refine Rp rfl (pv_bin (v := .bool true) rfl rfl (by rfl)) ?_
  refine Rp rfl (pv_assign rfl) ?_
  refine Kn5 3 4 9 65 66 rfl ?_
  refine ct_true rfl ?_
  refine ct_region ?_
  refine Rq rfl (oq_loadAgg (us := [_, _, _]) rfl rfl Tryz.isAgg232 Tryz.sizeOf232 Z0 (by rfl) (by rfl) (by rfl)) ?_
  refine rl_call rfl rfl (by decide) Tryz.call153 (vs := [_]) rfl Tryz.func153 rfl Tryz.ntmps153 rfl rfl ?_
  refine Cr ?_
  refine Ro rfl (ot_box rfl rfl (rfl : _ = [_, _, _])) ?_
  rintro _ _ ⟨b11, rfl, rfl⟩
  refine Rp rfl (pv_assign rfl) ?_
  refine Kn1 1 rfl ?_
  refine ct_seq ?_
  refine ct_planH [.q 0, .q 1, .q 3, .q 4, .q 6, .q 7, .e 2, .q 5, .q 8, .q 9] mixed (by decide +kernel) ?_
  refine pw_q rfl rfl rfl rfl (oq_pv (pv_fieldAddr (k := 0) rfl Tryz.runUnderlying232 rfl Tryz.sizeOf195 rfl rfl)) ?_
  refine pw_q rfl rfl rfl rfl (oq_load rfl rfl Tryz.isAgg195 Z0 (by rfl) (by rfl)) ?_
  refine pw_q rfl rfl rfl rfl (oq_pv (pv_fieldAddr (k := 1) rfl Tryz.runUnderlying232 rfl Tryz.sizeOf192 rfl rfl)) ?_
  refine pw_q rfl rfl rfl rfl (oq_load rfl rfl Tryz.isAgg192 Z0 (by rfl) (by rfl)) ?_
  refine pw_q rfl rfl rfl rfl (oq_pv (pv_fieldAddr (k := 2) rfl Tryz.runUnderlying232 rfl Tryz.sizeOf28 rfl rfl)) ?_
  refine pw_q rfl rfl rfl rfl (oq_load rfl rfl Tryz.isAgg28 Z0 (by rfl) (by rfl)) ?_
  refine pwe_call rfl rfl rfl rfl Tryz.call54 (vs := [_]) rfl Tryz.func54 rfl Tryz.ntmps54 rfl rfl ?_
  refine Cr ?_
  refine Rp rfl (pv_assign rfl) ?_
  refine Kn1 0 rfl ?_
  refine Cr ?_
  refine Rp rfl (pv_move rfl) ?_
  refine Rp rfl (pv_nilCheck rfl) ?_
  refine Rp rfl (pv_fieldAddr (k := bix at_) rfl Tryz.runUnderlying149 rfl Tryz.sizeOf28 rfl rfl) ?_
  refine Rq rfl (oq_atomLoad rfl extLoad rfl Z8 (Nat.zero_le_ble) (wget_sub (bix_lt h0 (n := 4) (by omega) h1))) ?_
  refine Rp rfl (pv_assign rfl) ?_
  refine Kn1 2 rfl ?_
  refine ct_ret ?_
  refine fin_ret1 (RVs.tmp rfl (RVs.nil)) Tryz.results54 ?_ Sees.refl
  refine ⟨[], Sees.cons Z0 (Sees.cons Z0 (Sees.cons Z0 (Sees.cons Z0 (Sees.cons Z0 (Sees.cons Z0 (Sees.cons Z0 (Sees.cons Z0 (Sees.cons Z0 (Sees.refl))))))))), ?_⟩
  refine pw_q rfl rfl rfl rfl (oq_pv (pv_shr rfl rfl (inK_wrap .u64 _).1)) ?_
  refine pw_q rfl rfl rfl rfl (oq_pv (pv_bin rfl rfl rfl)) ?_
  refine pw_q rfl rfl rfl rfl (oq_pv (pv_assign rfl)) ?_
  refine pw_done ?_
  refine Kx1 2 rfl ?_
  refine ct_ret ?_
  refine fin_ret1 (RVs.tmp rfl (RVs.nil)) Tryz.results153 ?_ Sees.refl
  refine Rp rfl (pv_fieldAddr (k := 0) rfl Tryz.runUnderlying31 rfl Tryz.sizeOf28 rfl rfl) ?_
  refine rl_op0 rfl rfl (ot_store rfl rfl rfl Tryz.sizeOf28 Z6 (rfl : _ = [_]) rfl (by rfl) (by rfl) (by first | rfl | assumption) (by exact (rfl : _ = [_, _, _]))) ?_
  rintro _ _ rfl
  refine rl_nil ?_
  refine xt_normal_block ?_
  refine Kx1 4 rfl ?_
  refine Cr ?_
  refine Rq rfl (oq_loadAgg (us := [_, _, _]) rfl rfl Tryz.isAgg31 Tryz.sizeOf31 Z0 (by rfl) (by rfl) (by rfl)) ?_
  refine rl_op0 rfl rfl (ot_store rfl rfl rfl Tryz.sizeOf31 Z0 (rfl : _ = [_, _, _]) rfl (by rfl) (by rfl) (by first | rfl | assumption) (by exact (rfl : _ = [_, _, _]))) ?_
  rintro _ _ rfl
  refine Rp rfl (pv_assign rfl) ?_
  refine Kn2 4 5 rfl ?_
  refine ct_ret ?_
  exact fin_ret (RVs.agg (us := [_, _, _]) rfl Tryz.isAgg31 Tryz.sizeOf31 Z0 (by rfl) (by rfl) (by rfl) (RVs.tmp rfl (RVs.nil))) Tryz.results113 ⟨_, rfl, rfl⟩ (Sees.cons Z4 (Sees.cons Z7 (Sees.skip (Sees.skip (Sees.skip (Sees.skip (Sees.skip (Sees.skip (Sees.skip (Sees.refl))))))))))
theorem do_store4 (ω : World) (bb wb : Nat) (m : List Int) (cnt at_ v u : Int) (p : Option Addr) (pn pc : Nat) (hm : m.length ≤ 16384) (h0 : 0 ≤ at_) (h8 : at_.tmod 4 = 0) (h1 : at_ + 4 ≤ 8 * (m.length : Int)) (F : List HP) : Spec ω Tryz.prog 113 #[.pointer (some ⟨bb, 0, none⟩), .agg #[.int .i64 2, .int .i64 at_, .int .i64 4, .int .u64 v, .int .u64 u, .slice p pn pc]] (row bb 0 [.slice (some ⟨wb, 0, none⟩) m.length m.length, .int .i64 cnt] :: row wb 0 (wcells m) :: F) fun v' H' => ∃ cnt', v' = .tuple #[.agg #[.int .u64 0, .bool false, .slice none 0 0], .int .i64 0] ∧ H' = row bb 0 [.slice (some ⟨wb, 0, none⟩) m.length m.length, .int .i64 cnt'] :: row wb 0 (wcells (mput m at_ 4 v)) :: F := by
  refine spec_of_body Tryz.func113 rfl Tryz.ntmps113 rfl ?_
  refine Cr ?_
  refine Ro rfl (ot_box rfl rfl (rfl : _ = [_, _, _, _, _, _])) ?_
  rintro _ _ ⟨b1, rfl, rfl⟩
  refine Ro rfl (ot_alloc rfl Tryz.zeroValue31 (rfl : _ = [_, _, _])) ?_
  rintro _ _ ⟨b2, rfl, rfl⟩
  refine Rp rfl (pv_assign rfl) ?_
  refine Kn3 0 3 4 rfl ?_
  refine ct_seq ?_
  refine ct_seq ?_
  refine ct_planH [.q 0, .q 1, .q 2, .b 3, .q 4] mixed (by decide +kernel) ?_
  refine pw_q rfl rfl rfl rfl (oq_pv (pv_move rfl)) ?_
  refine pw_q rfl rfl rfl rfl (oq_call_of (cs := [_, _]) rfl Tryz.call148 (vs := [_]) rfl (Pick.cons Z2 (Pick.cons Z2 (Pick.nil))) (fun F => bsize_read _ _ _ _ _ hm F)) ?_
  refine pw_q rfl rfl rfl rfl (oq_loadAgg (us := [_, _, _, _, _, _]) rfl rfl Tryz.isAgg36 Tryz.sizeOf36 Z1 (by rfl) (by rfl) (by rfl)) ?_
  refine pwb_call rfl rfl rfl rfl Tryz.call147 (vs := [_, _]) rfl Tryz.func147 rfl Tryz.ntmps147 rfl rfl ?_
  refine Cr ?_
  refine Ro rfl (ot_box rfl rfl (rfl : _ = [_, _, _, _, _, _])) ?_
  rintro _ _ ⟨b3, rfl, rfl⟩
  refine Rp rfl (pv_assign rfl) ?_
  refine Kn2 0 3 rfl ?_
  refine ct_seq ?_
  refine ct_block ?_
  refine Cr ?_
  refine Rq rfl (oq_loadAgg (us := [_, _, _, _, _, _]) rfl rfl Tryz.isAgg36 Tryz.sizeOf36 Z0 (by rfl) (by rfl) (by rfl)) ?_
  refine rl_call rfl rfl (by decide) Tryz.call168 (vs := [_]) rfl Tryz.func168 rfl Tryz.ntmps168 rfl rfl ?_
  refine Cr ?_
  refine Ro rfl (ot_box rfl rfl (rfl : _ = [_, _, _, _, _, _])) ?_
  rintro _ _ ⟨b4, rfl, rfl⟩
  refine Rp rfl (pv_assign rfl) ?_
  refine Kn1 1 rfl ?_
  refine ct_seq ?_
  refine Cr ?_
  refine Rp rfl (pv_fieldAddr (k := 0) rfl Tryz.runUnderlying36 rfl Tryz.sizeOf3 rfl rfl) ?_
  refine Rq rfl (oq_load rfl rfl Tryz.isAgg3 Z0 (by rfl) (by rfl)) ?_
  refine Kn2 1 4 rfl ?_
  refine ct_block ?_
  refine ct_seq ?_
  refine Cr ?_
  refine Rp rfl (pv_bin (v := .bool false) rfl rfl (by rfl)) ?_
  refine Rp rfl (pv_assign rfl) ?_
  refine Kn3 1 4 5 rfl ?_
  refine ct_false rfl ?_
  refine Cr ?_
  refine Rp rfl (pv_bin (v := .bool true) rfl rfl (by rfl)) ?_
  refine Rp rfl (pv_assign rfl) ?_
  refine Kn3 1 4 5 rfl ?_
  refine ct_true rfl ?_
  refine ct_skip ?_
  refine Kx3 1 4 5 rfl ?_
  refine ct_true rfl ?_
  refine Cr ?_
  refine Rp rfl (pv_fieldAddr (k := 2) rfl Tryz.runUnderlying36 rfl Tryz.sizeOf3 rfl rfl) ?_
  refine Rq rfl (oq_load rfl rfl Tryz.isAgg3 Z0 (by rfl) (by rfl)) ?_
  refine Rp rfl (pv_bin (v := .bool true) rfl rfl (by rfl)) ?_
  refine Rp rfl (pv_move rfl) ?_
  refine rl_u rfl rfl (by decide) ?_
  refine rl_u rfl rfl (by decide) ?_
  refine rl_u rfl rfl (by decide) ?_
  refine Rp rfl (pv_pick1 rfl rfl) ?_
  refine Rp rfl (pv_assign rfl) ?_
  refine Kn1 2 rfl ?_
  refine ct_ret ?_
  refine xt_ret_block ?_
  refine xt_ret_then ?_
  refine fin_ret1 (RVs.tmp rfl (RVs.nil)) Tryz.results168 ?_ Sees.refl
  refine Rp rfl (pv_not rfl) ?_
  refine Rp rfl (pv_assign rfl) ?_
  refine Kn3 0 3 5 rfl ?_
  refine ct_false rfl ?_
  refine Cr ?_
  refine Rp rfl (pv_fieldAddr (k := 1) rfl Tryz.runUnderlying36 rfl Tryz.sizeOf3 rfl rfl) ?_
  refine Rq rfl (oq_load rfl rfl Tryz.isAgg3 Z1 (by rfl) (by rfl)) ?_
  refine Rp rfl (pv_bin rfl rfl rfl) ?_
  refine Rp rfl (pv_move rfl) ?_
  refine rl_split_d (fun hz5 => absurd hz5 (by omega)) (fun _ => ?_)
  refine Ru rfl (pv_fieldAddr (k := 1) rfl Tryz.runUnderlying36 rfl Tryz.sizeOf3 rfl rfl) ?_
  refine Rv rfl (oq_load rfl rfl Tryz.isAgg3 Z1 (by rfl) (by rfl)) ?_
  refine Ru rfl (pv_move rfl) ?_
  refine Ru rfl (pv_bin rfl rfl rfl) ?_
  refine Rp rfl (pv_pick0 rfl rfl) ?_
  refine Rp rfl (pv_move rfl) ?_
  refine rl_split_d (fun hz6 => absurd hz6 (by omega)) (fun _ => ?_)
  refine Ru rfl (pv_fieldAddr (k := 2) rfl Tryz.runUnderlying36 rfl Tryz.sizeOf3 rfl rfl) ?_
  refine Rv rfl (oq_load rfl rfl Tryz.isAgg3 Z1 (by rfl) (by rfl)) ?_
  refine Ru rfl (pv_move rfl) ?_
  refine Ru rfl (pv_fieldAddr (k := 1) rfl Tryz.runUnderlying36 rfl Tryz.sizeOf3 rfl rfl) ?_
  refine Rv rfl (oq_load rfl rfl Tryz.isAgg3 Z1 (by rfl) (by rfl)) ?_
  refine Ru rfl (pv_bin rfl rfl rfl) ?_
  refine Ru rfl (pv_bin rfl rfl rfl) ?_
  refine Rp rfl (pv_pick0 rfl rfl) ?_
  refine Rp rfl (pv_assign rfl) ?_
  refine Kn2 3 9 rfl ?_
  refine ct_cond_d rfl (fun hz7 => absurd hz7 (by rw [sub_in h0 (by omega) (by omega)]; omega)) (fun _ => ?_)
  refine Cr ?_
  refine Rp rfl (pv_fieldAddr (k := 0) rfl Tryz.runUnderlying36 rfl Tryz.sizeOf3 rfl rfl) ?_
  refine Rq rfl (oq_load rfl rfl Tryz.isAgg3 Z1 (by rfl) (by rfl)) ?_
  refine Rp rfl (pv_bin (v := .bool true) rfl rfl (by rfl)) ?_
  refine Rp rfl (pv_move rfl) ?_
  refine Ru rfl (pv_fieldAddr (k := 1) rfl Tryz.runUnderlying36 rfl Tryz.sizeOf3 rfl rfl) ?_
  refine Rv rfl (oq_load rfl rfl Tryz.isAgg3 Z1 (by rfl) (by rfl)) ?_
  refine Ru rfl (pv_fieldAddr (k := 2) rfl Tryz.runUnderlying36 rfl Tryz.sizeOf3 rfl rfl) ?_
  refine Rv rfl (oq_load rfl rfl Tryz.isAgg3 Z1 (by rfl) (by rfl)) ?_
  refine Ru rfl (pv_rem rfl rfl (by decide)) ?_
  refine Ru rfl (pv_bin rfl rfl rfl) ?_
  refine Rp rfl (pv_pick1 rfl rfl) ?_
  refine Rp rfl (pv_assign rfl) ?_
  refine Kn1 28 rfl ?_
  refine ct_cond_n rfl (fun hz8 => absurd h8 hz8) (fun _ => ?_)
  refine ct_skip ?_
  refine xt_normal_block ?_
  refine xt_then ?_
  refine CT.weaken (E' := []) (Knows.nil) Sees.refl ?_
  refine Cr ?_
  refine Rp rfl (pv_assign rfl) ?_
  refine Kn1 4 rfl ?_
  refine ct_ret ?_
  refine fin_ret1 (RVs.tmp rfl (RVs.nil)) Tryz.results147 ?_ Sees.refl
  refine pw_q rfl rfl rfl rfl (oq_pv (pv_assign rfl)) ?_
  refine pw_done ?_
  refine Kx4 0 3 4 6 rfl ?_
  refine Cr ?_
  refine Rp rfl (pv_move rfl) ?_
  refine Rp rfl (pv_bin (v := .bool false) rfl rfl (by rfl)) ?_
  refine Kn5 0 3 4 6 15 rfl ?_
  refine ct_false rfl ?_
  refine ct_skip ?_
  refine Kx3 0 3 4 rfl ?_
  refine ct_seq ?_
  refine Cr ?_
  refine Rp rfl (pv_move rfl) ?_
  refine Rp rfl (pv_eql rfl rfl Tryz.runUnderlying53 rfl) ?_
  refine Kn4 0 3 4 19 rfl ?_
  refine ct_false rfl ?_
  refine ct_skip ?_
  refine Kx3 0 3 4 rfl ?_
  refine Cr ?_
  refine Rp rfl (pv_move rfl) ?_
  refine Rp rfl (pv_nilCheck rfl) ?_
  refine Rp rfl (pv_fieldAddr (k := 1) rfl Tryz.runUnderlying110 rfl Tryz.sizeOf108 rfl rfl) ?_
  refine rl_call rfl rfl (by decide) Tryz.call149 (vs := [_, _]) rfl Tryz.func149 rfl Tryz.ntmps149 rfl rfl ?_
  refine Cr ?_
  refine Rp rfl (pv_assign rfl) ?_
  refine Kn2 0 1 rfl ?_
  refine Cr ?_
  refine Rp rfl (pv_move rfl) ?_
  refine Rp rfl (pv_nilCheck rfl) ?_
  refine Rp rfl (pv_fieldAddr (k := 1) rfl Tryz.runUnderlying108 rfl Tryz.sizeOf2 rfl rfl) ?_
  refine Rp rfl (pv_move rfl) ?_
  refine Ro rfl (ot_atomAdd rfl extAddI rfl Z4 rfl (by rfl) (by exact (rfl : _ = [_, _]))) ?_
  rintro _ _ ⟨rfl, rfl⟩
  refine Rp rfl (pv_assign rfl) ?_
  refine Kn1 4 rfl ?_
  refine ct_ret ?_
  refine fin_ret1 (RVs.tmp rfl (RVs.nil)) Tryz.results149 ?_ Sees.refl
  refine Kn3 0 3 4 rfl ?_
  refine ct_seq ?_
  refine Cr ?_
  refine Rp rfl (pv_fieldAddr (k := 0) rfl Tryz.runUnderlying36 rfl Tryz.sizeOf3 rfl rfl) ?_
  refine Rq rfl (oq_load rfl rfl Tryz.isAgg3 Z4 (by rfl) (by rfl)) ?_
  refine Kn4 0 3 4 26 rfl ?_
  refine ct_block ?_
  refine Cr ?_
  refine Rp rfl (pv_bin (v := .bool false) rfl rfl (by rfl)) ?_
  refine Rp rfl (pv_assign rfl) ?_
  refine Kn5 0 3 4 26 27 rfl ?_
  refine ct_false rfl ?_
  refine Cr ?_
  refine Rp rfl (pv_bin (v := .bool false) rfl rfl (by rfl)) ?_
  refine Rp rfl (pv_assign rfl) ?_
  refine Kn4 0 3 4 37 rfl ?_
  refine ct_false rfl ?_
  refine ct_skip ?_
  refine xt_normal_block ?_
  refine Kx3 0 3 4 rfl ?_
  refine Cr ?_
  refine Rp rfl (pv_move rfl) ?_
  refine Rp rfl (pv_fieldAddr (k := 1) rfl Tryz.runUnderlying36 rfl Tryz.sizeOf3 rfl rfl) ?_
  refine Rq rfl (oq_load rfl rfl Tryz.isAgg3 Z4 (by rfl) (by rfl)) ?_
  refine Rp rfl (pv_fieldAddr (k := 2) rfl Tryz.runUnderlying36 rfl Tryz.sizeOf3 rfl rfl) ?_
  refine Rq rfl (oq_load rfl rfl Tryz.isAgg3 Z4 (by rfl) (by rfl)) ?_
  refine rl_call rfl rfl (by decide) Tryz.call151 (vs := [_, _, _]) rfl Tryz.func151 rfl Tryz.ntmps151 rfl rfl ?_
  refine Cr ?_
  refine Ro rfl (ot_alloc rfl Tryz.zeroValue232 (rfl : _ = [_, _, _])) ?_
  rintro _ _ ⟨b9, rfl, rfl⟩
  refine Kn4 0 1 2 6 rfl ?_
  refine Cr ?_
  refine Rp rfl (pv_assign rfl) ?_
  refine Kn5 0 1 2 6 7 rfl ?_
  refine ct_seq ?_
  refine Cr ?_
  refine Rp rfl (pv_move rfl) ?_
  refine Rp rfl (pv_bin (v := .bool true) rfl rfl (by rfl)) ?_
  refine Kn6 0 1 2 6 7 9 rfl ?_
  refine ct_true rfl ?_
  refine ct_region ?_
  refine Rp rfl (pv_move rfl) ?_
  refine Rp rfl (pv_convert_to (v := 4) rfl Tryz.runUnderlying3 Tryz.runUnderlying192 (by rfl)) ?_
  refine Rp rfl (pv_bin (v := .int .u64 32) rfl rfl (by rfl)) ?_
  refine Rp rfl (pv_shl_to (v := 4294967296) rfl rfl (by decide) (by rfl)) ?_
  refine Rp rfl (pv_bin (v := .int .u64 4294967295) rfl rfl (by rfl)) ?_
  refine Rp rfl (pv_assign rfl) ?_
  refine Kn4 0 1 6 7 rfl ?_
  refine Cr ?_
  refine Rp rfl (pv_move rfl) ?_
  refine Rp rfl (pv_nilCheck rfl) ?_
  refine Rp rfl (pv_fieldAddr (k := 0) rfl Tryz.runUnderlying110 rfl Tryz.sizeOf103 rfl rfl) ?_
  refine Rq rfl (oq_load rfl rfl Tryz.isAgg103 Z1 (by rfl) (by rfl)) ?_
  refine Rp rfl (pv_move rfl) ?_
  refine Rp rfl (pv_quo rfl rfl (by decide)) ?_
  refine Rp rfl (pv_indexAddr1 (j := bix at_) rfl rfl Tryz.runUnderlying103 Tryz.sizeOf149 (bix_eq h0 (by omega)) (by simpa using (bix_lt h0 (n := 4) (by omega) h1))) ?_
  refine Rp rfl (pv_move rfl) ?_
  refine Rp rfl (pv_rem rfl rfl (by decide)) ?_
  refine Rp rfl (pv_convert rfl Tryz.runUnderlying3 Tryz.runUnderlying192) ?_
  refine Rp rfl (pv_bin rfl rfl rfl) ?_
  refine Rp rfl (pv_move rfl) ?_
  refine Rp rfl (pv_build (ps := [(0, _), (1, _), (2, _)]) (cs := [_, _, _]) rfl Tryz.zeroValue232 Tryz.runUnderlying232 (.cons Tryz.sizeOf195 (.cons Tryz.sizeOf192 (.cons Tryz.sizeOf28 (.nil)))) rfl) ?_
  refine rl_op0 rfl rfl (ot_store rfl rfl rfl Tryz.sizeOf232 Z0 (rfl : _ = [_, _, _]) rfl (by rfl) (by rfl) (by first | rfl | assumption) (by exact (rfl : _ = [_, _, _]))) ?_
  rintro _ _ rfl
  refine Kn1 6 rfl ?_
  refine ct_ret ?_
  refine fin_ret1 (RVs.agg (us := [_, _, _]) rfl Tryz.isAgg232 Tryz.sizeOf232 Z0 (by rfl) (by rfl) (by rfl) (RVs.nil)) Tryz.results151 ?_ Sees.refl
  refine Ro rfl (ot_alloc rfl Tryz.zeroValue232 (rfl : _ = [_, _, _])) ?_
  rintro _ _ ⟨b10, rfl, rfl⟩
  refine rl_op0 rfl rfl (ot_store rfl rfl rfl Tryz.sizeOf232 Z0 (rfl : _ = [_, _, _]) rfl (by rfl) (by rfl) (by first | rfl | assumption) (by exact (rfl : _ = [_, _, _]))) ?_
  rintro _ _ rfl
  refine Kn3 3 4 9 rfl ?_
  refine ct_seq ?_
  refine Cr ?_
  refine Rp rfl (pv_fieldAddr (k := 0) rfl Tryz.runUnderlying36 rfl Tryz.sizeOf3 rfl rfl) ?_
  refine Rq rfl (oq_load rfl rfl Tryz.isAgg3 Z6 (by rfl) (by rfl)) ?_
  refine Kn4 3 4 9 65 rfl ?_
  refine ct_block ?_
  refine Cr ?_
  refine Rp rfl (pv_bin (v := .bool false) rfl rfl (by rfl)) ?_
  refine Rp rfl (pv_assign rfl) ?_
  refine Kn5 3 4 9 65 66 rfl ?_
  refine ct_false rfl ?_
  refine Cr ?_
  refine Rp rfl (pv_bin (v := .bool true) rfl rfl (by rfl)) ?_
  refine Rp rfl (pv_assign rfl) ?_
  refine Kn5 3 4 9 65 71 rfl ?_
  refine ct_true rfl ?_
  refine ct_region ?_
  refine Rq rfl (oq_loadAgg (us := [_, _, _]) rfl rfl Tryz.isAgg232 Tryz.sizeOf232 Z0 (by rfl) (by rfl) (by rfl)) ?_
  refine Rp rfl (pv_fieldAddr (k := 3) rfl Tryz.runUnderlying36 rfl Tryz.sizeOf28 rfl rfl) ?_
  refine Rq rfl (oq_load rfl rfl Tryz.isAgg28 Z6 (by rfl) (by rfl)) ?_
  refine rl_call rfl rfl (by decide) Tryz.call152 (vs := [_, _]) rfl Tryz.func152 rfl Tryz.ntmps152 rfl rfl ?_
  refine Cr ?_
  refine Ro rfl (ot_box rfl rfl (rfl : _ = [_, _, _])) ?_
  rintro _ _ ⟨b11, rfl, rfl⟩
  refine Kn2 1 2 rfl ?_
  refine ct_block ?_
  refine ct_loop (α := Unit) (fun _ => [(1, _), (2, _)]) (fun _ => _) (fun _ => 0) () (Knows.cons rfl (Knows.cons rfl (Knows.nil))) Sees.refl ?_
  intro _
  refine ct_seq ?_
  refine ct_seq ?_
  refine ct_planH [.q 0, .q 1, .q 2, .q 4, .e 3, .b 5, .q 6] mixed (by decide +kernel) ?_
  refine pw_q rfl rfl rfl rfl (oq_loadAgg (us := [_, _, _]) rfl rfl Tryz.isAgg232 Tryz.sizeOf232 Z0 (by rfl) (by rfl) (by rfl)) ?_
  refine pw_q rfl rfl rfl rfl (oq_pv (pv_fieldAddr (k := 0) rfl Tryz.runUnderlying232 rfl Tryz.sizeOf195 rfl rfl)) ?_
  refine pw_q rfl rfl rfl rfl (oq_load rfl rfl Tryz.isAgg195 Z0 (by rfl) (by rfl)) ?_
  refine pw_q rfl rfl rfl rfl (oq_pv (pv_move rfl)) ?_
  refine pwe_call rfl rfl rfl rfl Tryz.call54 (vs := [_]) rfl Tryz.func54 rfl Tryz.ntmps54 rfl rfl ?_
  refine Cr ?_
  refine Rp rfl (pv_assign rfl) ?_
  refine Kn1 0 rfl ?_
  refine Cr ?_
  refine Rp rfl (pv_move rfl) ?_
  refine Rp rfl (pv_nilCheck rfl) ?_
  refine Rp rfl (pv_fieldAddr (k := bix at_) rfl Tryz.runUnderlying149 rfl Tryz.sizeOf28 rfl rfl) ?_
  refine Rq rfl (oq_atomLoad rfl extLoad rfl Z8 (Nat.zero_le_ble) (wget_sub (bix_lt h0 (n := 4) (by omega) h1))) ?_
  refine Rp rfl (pv_assign rfl) ?_
  refine Kn1 2 rfl ?_
  refine ct_ret ?_
  refine fin_ret1 (RVs.tmp rfl (RVs.nil)) Tryz.results54 ?_ Sees.refl
  refine ⟨[], Sees.cons Z0 (Sees.cons Z0 (Sees.cons Z0 (Sees.cons Z0 (Sees.cons Z0 (Sees.cons Z0 (Sees.cons Z0 (Sees.cons Z0 (Sees.cons Z0 (Sees.refl))))))))), ?_⟩
  refine pwb_call rfl rfl rfl rfl Tryz.call170 (vs := [_, _, _]) rfl Tryz.func170 rfl Tryz.ntmps170 rfl rfl ?_
  refine Cr ?_
  refine Ro rfl (ot_box rfl rfl (rfl : _ = [_, _, _])) ?_
  rintro _ _ ⟨b12, rfl, rfl⟩
  refine Rp rfl (pv_assign rfl) ?_
  refine Kn3 1 2 3 rfl ?_
  refine Cr ?_
  refine Rp rfl (pv_fieldAddr (k := 0) rfl Tryz.runUnderlying232 rfl Tryz.sizeOf195 rfl rfl) ?_
  refine Rq rfl (oq_load rfl rfl Tryz.isAgg195 Z0 (by rfl) (by rfl)) ?_
  refine Rp rfl (pv_move rfl) ?_
  refine Rp rfl (pv_move rfl) ?_
  refine Rp rfl (pv_fieldAddr (k := 2) rfl Tryz.runUnderlying232 rfl Tryz.sizeOf28 rfl rfl) ?_
  refine Rq rfl (oq_load rfl rfl Tryz.isAgg28 Z0 (by rfl) (by rfl)) ?_
  refine Rp rfl (pv_fieldAddr (k := 1) rfl Tryz.runUnderlying232 rfl Tryz.sizeOf192 rfl rfl) ?_
  refine Rq rfl (oq_load rfl rfl Tryz.isAgg192 Z0 (by rfl) (by rfl)) ?_
  refine Rp rfl (pv_shl rfl rfl (inK_wrap .u64 _).1) ?_
  refine Rp rfl (pv_bin rfl rfl rfl) ?_
  refine Rp rfl (pv_move rfl) ?_
  refine Rp rfl (pv_fieldAddr (k := 2) rfl Tryz.runUnderlying232 rfl Tryz.sizeOf28 rfl rfl) ?_
  refine Rq rfl (oq_load rfl rfl Tryz.isAgg28 Z0 (by rfl) (by rfl)) ?_
  refine Rp rfl (pv_bin rfl rfl rfl) ?_
  refine Rp rfl (pv_fieldAddr (k := 1) rfl Tryz.runUnderlying232 rfl Tryz.sizeOf192 rfl rfl) ?_
  refine Rq rfl (oq_load rfl rfl Tryz.isAgg192 Z0 (by rfl) (by rfl)) ?_
  refine Rp rfl (pv_shl rfl rfl (inK_wrap .u64 _).1) ?_
  refine Rp rfl (pv_bin rfl rfl rfl) ?_
  refine rl_call rfl rfl (by decide) Tryz.call173 (vs := [_, _, _]) rfl Tryz.func173 rfl Tryz.ntmps173 rfl rfl ?_
  refine Cr ?_
  refine Rp rfl (pv_assign rfl) ?_
  refine Kn3 0 1 2 rfl ?_
  refine Cr ?_
  refine Rp rfl (pv_move rfl) ?_
  refine Rp rfl (pv_nilCheck rfl) ?_
  refine Rp rfl (pv_fieldAddr (k := bix at_) rfl Tryz.runUnderlying149 rfl Tryz.sizeOf28 rfl rfl) ?_
  refine Rp rfl (pv_move rfl) ?_
  refine Rp rfl (pv_move rfl) ?_
  refine Ro rfl (ot_atomCas rfl extCas rfl Z9 (Nat.zero_le_ble) (wget_sub (bix_lt h0 (n := 4) (by omega) h1)) (wput_sub _ _ _)) ?_
  rintro _ _ ⟨rfl, rfl⟩
  refine Rp rfl (pv_assign rfl) ?_
  refine Kn1 6 rfl ?_
  refine ct_ret ?_
  refine fin_ret1 (RVs.tmp rfl (RVs.nil)) Tryz.results173 ?_ Sees.refl
  refine Rp rfl (pv_assign rfl) ?_
  refine Kn1 6 rfl ?_
  refine ct_ret ?_
  refine fin_ret1 (RVs.tmp rfl (RVs.nil)) Tryz.results170 ?_ Sees.refl
  refine pw_q rfl rfl rfl rfl (oq_pv (pv_not rfl)) ?_
  refine pw_done ?_
  refine Kx3 1 2 10 rfl ?_
  refine ct_false rfl ?_
  refine ct_exit ?_
  refine xt_exit_then ?_
  refine xt_exit_then ?_
  refine xt_exit_block ?_
  refine fin_end (RVs.nil) Tryz.results152 ?_ Sees.refl
  refine rl_nil ?_
  refine xt_normal_block ?_
  refine Kx1 4 rfl ?_
  refine Cr ?_
  refine Rq rfl (oq_loadAgg (us := [_, _, _]) rfl rfl Tryz.isAgg31 Tryz.sizeOf31 Z8 (by rfl) (by rfl) (by rfl)) ?_
  refine rl_op0 rfl rfl (ot_store rfl rfl rfl Tryz.sizeOf31 Z8 (rfl : _ = [_, _, _]) rfl (by rfl) (by rfl) (by first | rfl | assumption) (by exact (rfl : _ = [_, _, _]))) ?_
  rintro _ _ rfl
  refine Rp rfl (pv_assign rfl) ?_
  refine Kn2 4 5 rfl ?_
  refine ct_ret ?_
  exact fin_ret (RVs.agg (us := [_, _, _]) rfl Tryz.isAgg31 Tryz.sizeOf31 Z0 (by rfl) (by rfl) (by rfl) (RVs.tmp rfl (RVs.nil))) Tryz.results113 ⟨_, rfl, rfl⟩ (Sees.cons Z6 (Sees.cons Z1 (Sees.skip (Sees.skip (Sees.skip (Sees.skip (Sees.skip (Sees.skip (Sees.skip (Sees.skip (Sees.refl)))))))))))
theorem do_cas8_hit (ω : World) (bb wb : Nat) (m : List Int) (cnt at_ v u : Int) (p : Option Addr) (pn pc : Nat) (hm : m.length ≤ 16384) (h0 : 0 ≤ at_) (h8 : at_.tmod 8 = 0) (hc :  mget m at_ 8 = iand .u64 v 18446744073709551615) (h1 : at_ + 8 ≤ 8 * (m.length : Int)) (F : List HP) : Spec ω Tryz.prog 113 #[.pointer (some ⟨bb, 0, none⟩), .agg #[.int .i64 4, .int .i64 at_, .int .i64 8, .int .u64 v, .int .u64 u, .slice p pn pc]] (row bb 0 [.slice (some ⟨wb, 0, none⟩) m.length m.length, .int .i64 cnt] :: row wb 0 (wcells m) :: F) fun v' H' => ∃ cnt', v' = .tuple #[.agg #[.int .u64 (mget m at_ 8), .bool true, .slice none 0 0], .int .i64 0] ∧ H' = row bb 0 [.slice (some ⟨wb, 0, none⟩) m.length m.length, .int .i64 cnt'] :: row wb 0 (wcells (mput m at_ 8 u)) :: F := by
  refine spec_of_body Tryz.func113 rfl Tryz.ntmps113 rfl ?_
  refine Cr ?_
  refine Ro rfl (ot_box rfl rfl (rfl : _ = [_, _, _, _, _, _])) ?_
  rintro _ _ ⟨b1, rfl, rfl⟩
  refine Ro rfl (ot_alloc rfl Tryz.zeroValue31 (rfl : _ = [_, _, _])) ?_
  rintro _ _ ⟨b2, rfl, rfl⟩
  refine Rp rfl (pv_assign rfl) ?_
  refine Kn3 0 3 4 rfl ?_
  refine ct_seq ?_
  refine ct_seq ?_
  refine ct_planH [.q 0, .q 1, .q 2, .b 3, .q 4] mixed (by decide +kernel) ?_
  refine pw_q rfl rfl rfl rfl (oq_pv (pv_move rfl)) ?_
  refine pw_q rfl rfl rfl rfl (oq_call_of (cs := [_, _]) rfl Tryz.call148 (vs := [_]) rfl (Pick.cons Z2 (Pick.cons Z2 (Pick.nil))) (fun F => bsize_read _ _ _ _ _ hm F)) ?_
  refine pw_q rfl rfl rfl rfl (oq_loadAgg (us := [_, _, _, _, _, _]) rfl rfl Tryz.isAgg36 Tryz.sizeOf36 Z1 (by rfl) (by rfl) (by rfl)) ?_
  refine pwb_call rfl rfl rfl rfl Tryz.call147 (vs := [_, _]) rfl Tryz.func147 rfl Tryz.ntmps147 rfl rfl ?_
  refine Cr ?_
  refine Ro rfl (ot_box rfl rfl (rfl : _ = [_, _, _, _, _, _])) ?_
  rintro _ _ ⟨b3, rfl, rfl⟩
  refine Rp rfl (pv_assign rfl) ?_
  refine Kn2 0 3 rfl ?_
  refine ct_seq ?_
  refine ct_block ?_
  refine Cr ?_
  refine Rq rfl (oq_loadAgg (us := [_, _, _, _, _, _]) rfl rfl Tryz.isAgg36 Tryz.sizeOf36 Z0 (by rfl) (by rfl) (by rfl)) ?_
  refine rl_call rfl rfl (by decide) Tryz.call168 (vs := [_]) rfl Tryz.func168 rfl Tryz.ntmps168 rfl rfl ?_
  refine Cr ?_
  refine Ro rfl (ot_box rfl rfl (rfl : _ = [_, _, _, _, _, _])) ?_
  rintro _ _ ⟨b4, rfl, rfl⟩
  refine Rp rfl (pv_assign rfl) ?_
  refine Kn1 1 rfl ?_
  refine ct_seq ?_
  refine Cr ?_
  refine Rp rfl (pv_fieldAddr (k := 0) rfl Tryz.runUnderlying36 rfl Tryz.sizeOf3 rfl rfl) ?_
  refine Rq rfl (oq_load rfl rfl Tryz.isAgg3 Z0 (by rfl) (by rfl)) ?_
  refine Kn2 1 4 rfl ?_
  refine ct_block ?_
  refine ct_seq ?_
  refine Cr ?_
  refine Rp rfl (pv_bin (v := .bool false) rfl rfl (by rfl)) ?_
  refine Rp rfl (pv_assign rfl) ?_
  refine Kn3 1 4 5 rfl ?_
  refine ct_false rfl ?_
  refine Cr ?_
  refine Rp rfl (pv_bin (v := .bool false) rfl rfl (by rfl)) ?_
  refine Rp rfl (pv_assign rfl) ?_
  refine Kn3 1 4 5 rfl ?_
  refine ct_false rfl ?_
  refine ct_region ?_
  refine Rp rfl (pv_bin (v := .bool true) rfl rfl (by rfl)) ?_
  refine Rp rfl (pv_assign rfl) ?_
  refine Kn3 1 4 5 rfl ?_
  refine ct_true rfl ?_
  refine Cr ?_
  refine Rp rfl (pv_fieldAddr (k := 2) rfl Tryz.runUnderlying36 rfl Tryz.sizeOf3 rfl rfl) ?_
  refine Rq rfl (oq_load rfl rfl Tryz.isAgg3 Z0 (by rfl) (by rfl)) ?_
  refine Rp rfl (pv_bin (v := .bool false) rfl rfl (by rfl)) ?_
  refine Rp rfl (pv_move rfl) ?_
  refine Ru rfl (pv_fieldAddr (k := 2) rfl Tryz.runUnderlying36 rfl Tryz.sizeOf3 rfl rfl) ?_
  refine Rv rfl (oq_load rfl rfl Tryz.isAgg3 Z0 (by rfl) (by rfl)) ?_
  refine Ru rfl (pv_bin (v := .bool true) rfl rfl (by rfl)) ?_
  refine Rp rfl (pv_pick0 rfl rfl) ?_
  refine Rp rfl (pv_assign rfl) ?_
  refine Kn1 2 rfl ?_
  refine ct_ret ?_
  refine xt_ret_block ?_
  refine xt_ret_then ?_
  refine fin_ret1 (RVs.tmp rfl (RVs.nil)) Tryz.results168 ?_ Sees.refl
  refine Rp rfl (pv_not rfl) ?_
  refine Rp rfl (pv_assign rfl) ?_
  refine Kn3 0 3 5 rfl ?_
  refine ct_false rfl ?_
  refine Cr ?_
  refine Rp rfl (pv_fieldAddr (k := 1) rfl Tryz.runUnderlying36 rfl Tryz.sizeOf3 rfl rfl) ?_
  refine Rq rfl (oq_load rfl rfl Tryz.isAgg3 Z1 (by rfl) (by rfl)) ?_
  refine Rp rfl (pv_bin rfl rfl rfl) ?_
  refine Rp rfl (pv_move rfl) ?_
  refine rl_split_d (fun hz5 => absurd hz5 (by omega)) (fun _ => ?_)
  refine Ru rfl (pv_fieldAddr (k := 1) rfl Tryz.runUnderlying36 rfl Tryz.sizeOf3 rfl rfl) ?_
  refine Rv rfl (oq_load rfl rfl Tryz.isAgg3 Z1 (by rfl) (by rfl)) ?_
  refine Ru rfl (pv_move rfl) ?_
  refine Ru rfl (pv_bin rfl rfl rfl) ?_
  refine Rp rfl (pv_pick0 rfl rfl) ?_
  refine Rp rfl (pv_move rfl) ?_
  refine rl_split_d (fun hz6 => absurd hz6 (by omega)) (fun _ => ?_)
  refine Ru rfl (pv_fieldAddr (k := 2) rfl Tryz.runUnderlying36 rfl Tryz.sizeOf3 rfl rfl) ?_
  refine Rv rfl (oq_load rfl rfl Tryz.isAgg3 Z1 (by rfl) (by rfl)) ?_
  refine Ru rfl (pv_move rfl) ?_
  refine Ru rfl (pv_fieldAddr (k := 1) rfl Tryz.runUnderlying36 rfl Tryz.sizeOf3 rfl rfl) ?_
  refine Rv rfl (oq_load rfl rfl Tryz.isAgg3 Z1 (by rfl) (by rfl)) ?_
  refine Ru rfl (pv_bin rfl rfl rfl) ?_
  refine Ru rfl (pv_bin rfl rfl rfl) ?_
  refine Rp rfl (pv_pick0 rfl rfl) ?_
  refine Rp rfl (pv_assign rfl) ?_
  refine Kn2 3 9 rfl ?_
  refine ct_cond_d rfl (fun hz7 => absurd hz7 (by rw [sub_in h0 (by omega) (by omega)]; omega)) (fun _ => ?_)
  refine Cr ?_
  refine Rp rfl (pv_fieldAddr (k := 0) rfl Tryz.runUnderlying36 rfl Tryz.sizeOf3 rfl rfl) ?_
  refine Rq rfl (oq_load rfl rfl Tryz.isAgg3 Z1 (by rfl) (by rfl)) ?_
  refine Rp rfl (pv_bin (v := .bool true) rfl rfl (by rfl)) ?_
  refine Rp rfl (pv_move rfl) ?_
  refine Ru rfl (pv_fieldAddr (k := 1) rfl Tryz.runUnderlying36 rfl Tryz.sizeOf3 rfl rfl) ?_
  refine Rv rfl (oq_load rfl rfl Tryz.isAgg3 Z1 (by rfl) (by rfl)) ?_
  refine Ru rfl (pv_fieldAddr (k := 2) rfl Tryz.runUnderlying36 rfl Tryz.sizeOf3 rfl rfl) ?_
  refine Rv rfl (oq_load rfl rfl Tryz.isAgg3 Z1 (by rfl) (by rfl)) ?_
  refine Ru rfl (pv_rem rfl rfl (by decide)) ?_
  refine Ru rfl (pv_bin rfl rfl rfl) ?_
  refine Rp rfl (pv_pick1 rfl rfl) ?_
  refine Rp rfl (pv_assign rfl) ?_
  refine Kn1 28 rfl ?_
  refine ct_cond_n rfl (fun hz8 => absurd h8 hz8) (fun _ => ?_)
  refine ct_skip ?_
  refine xt_normal_block ?_
  refine xt_then ?_
  refine CT.weaken (E' := []) (Knows.nil) Sees.refl ?_
  refine Cr ?_
  refine Rp rfl (pv_assign rfl) ?_
  refine Kn1 4 rfl ?_
  refine ct_ret ?_
  refine fin_ret1 (RVs.tmp rfl (RVs.nil)) Tryz.results147 ?_ Sees.refl
  refine pw_q rfl rfl rfl rfl (oq_pv (pv_assign rfl)) ?_
  refine pw_done ?_
  refine Kx4 0 3 4 6 rfl ?_
  refine Cr ?_
  refine Rp rfl (pv_move rfl) ?_
  refine Rp rfl (pv_bin (v := .bool false) rfl rfl (by rfl)) ?_
  refine Kn5 0 3 4 6 15 rfl ?_
  refine ct_false rfl ?_
  refine ct_skip ?_
  refine Kx3 0 3 4 rfl ?_
  refine ct_seq ?_
  refine Cr ?_
  refine Rp rfl (pv_move rfl) ?_
  refine Rp rfl (pv_eql rfl rfl Tryz.runUnderlying53 rfl) ?_
  refine Kn4 0 3 4 19 rfl ?_
  refine ct_false rfl ?_
  refine ct_skip ?_
  refine Kx3 0 3 4 rfl ?_
  refine Cr ?_
  refine Rp rfl (pv_move rfl) ?_
  refine Rp rfl (pv_nilCheck rfl) ?_
  refine Rp rfl (pv_fieldAddr (k := 1) rfl Tryz.runUnderlying110 rfl Tryz.sizeOf108 rfl rfl) ?_
  refine rl_call rfl rfl (by decide) Tryz.call149 (vs := [_, _]) rfl Tryz.func149 rfl Tryz.ntmps149 rfl rfl ?_
  refine Cr ?_
  refine Rp rfl (pv_assign rfl) ?_
  refine Kn2 0 1 rfl ?_
  refine Cr ?_
  refine Rp rfl (pv_move rfl) ?_
  refine Rp rfl (pv_nilCheck rfl) ?_
  refine Rp rfl (pv_fieldAddr (k := 1) rfl Tryz.runUnderlying108 rfl Tryz.sizeOf2 rfl rfl) ?_
  refine Rp rfl (pv_move rfl) ?_
  refine Ro rfl (ot_atomAdd rfl extAddI rfl Z4 rfl (by rfl) (by exact (rfl : _ = [_, _]))) ?_
  rintro _ _ ⟨rfl, rfl⟩
  refine Rp rfl (pv_assign rfl) ?_
  refine Kn1 4 rfl ?_
  refine ct_ret ?_
  refine fin_ret1 (RVs.tmp rfl (RVs.nil)) Tryz.results149 ?_ Sees.refl
  refine Kn3 0 3 4 rfl ?_
  refine ct_seq ?_
  refine Cr ?_
  refine Rp rfl (pv_fieldAddr (k := 0) rfl Tryz.runUnderlying36 rfl Tryz.sizeOf3 rfl rfl) ?_
  refine Rq rfl (oq_load rfl rfl Tryz.isAgg3 Z4 (by rfl) (by rfl)) ?_
  refine Kn4 0 3 4 26 rfl ?_
  refine ct_block ?_
  refine Cr ?_
  refine Rp rfl (pv_bin (v := .bool false) rfl rfl (by rfl)) ?_
  refine Rp rfl (pv_assign rfl) ?_
  refine Kn5 0 3 4 26 27 rfl ?_
  refine ct_false rfl ?_
  refine Cr ?_
  refine Rp rfl (pv_bin (v := .bool false) rfl rfl (by rfl)) ?_
  refine Rp rfl (pv_assign rfl) ?_
  refine Kn4 0 3 4 37 rfl ?_
  refine ct_false rfl ?_
  refine ct_skip ?_
  refine xt_normal_block ?_
  refine Kx3 0 3 4 rfl ?_
  refine Cr ?_
  refine Rp rfl (pv_move rfl) ?_
  refine Rp rfl (pv_fieldAddr (k := 1) rfl Tryz.runUnderlying36 rfl Tryz.sizeOf3 rfl rfl) ?_
  refine Rq rfl (oq_load rfl rfl Tryz.isAgg3 Z4 (by rfl) (by rfl)) ?_
  refine Rp rfl (pv_fieldAddr (k := 2) rfl Tryz.runUnderlying36 rfl Tryz.sizeOf3 rfl rfl) ?_
  refine Rq rfl (oq_load rfl rfl Tryz.isAgg3 Z4 (by rfl) (by rfl)) ?_
  refine rl_call rfl rfl (by decide) Tryz.call151 (vs := [_, _, _]) rfl Tryz.func151 rfl Tryz.ntmps151 rfl rfl ?_
  refine Cr ?_
  refine Ro rfl (ot_alloc rfl Tryz.zeroValue232 (rfl : _ = [_, _, _])) ?_
  rintro _ _ ⟨b9, rfl, rfl⟩
  refine Kn4 0 1 2 6 rfl ?_
  refine Cr ?_
  refine Rp rfl (pv_assign rfl) ?_
  refine Kn5 0 1 2 6 7 rfl ?_
  refine ct_seq ?_
  refine Cr ?_
  refine Rp rfl (pv_move rfl) ?_
  refine Rp rfl (pv_bin (v := .bool false) rfl rfl (by rfl)) ?_
  refine Kn6 0 1 2 6 7 9 rfl ?_
  refine ct_false rfl ?_
  refine ct_skip ?_
  refine Kx4 0 1 6 7 rfl ?_
  refine Cr ?_
  refine Rp rfl (pv_move rfl) ?_
  refine Rp rfl (pv_nilCheck rfl) ?_
  refine Rp rfl (pv_fieldAddr (k := 0) rfl Tryz.runUnderlying110 rfl Tryz.sizeOf103 rfl rfl) ?_
  refine Rq rfl (oq_load rfl rfl Tryz.isAgg103 Z1 (by rfl) (by rfl)) ?_
  refine Rp rfl (pv_move rfl) ?_
  refine Rp rfl (pv_quo rfl rfl (by decide)) ?_
  refine Rp rfl (pv_indexAddr1 (j := bix at_) rfl rfl Tryz.runUnderlying103 Tryz.sizeOf149 (bix_eq h0 (by omega)) (by simpa using (bix_lt h0 (n := 8) (by omega) h1))) ?_
  refine Rp rfl (pv_move rfl) ?_
  refine Rp rfl (pv_rem rfl rfl (by decide)) ?_
  refine Rp rfl (pv_convert rfl Tryz.runUnderlying3 Tryz.runUnderlying192) ?_
  refine Rp rfl (pv_bin rfl rfl rfl) ?_
  refine Rp rfl (pv_move rfl) ?_
  refine Rp rfl (pv_build (ps := [(0, _), (1, _), (2, _)]) (cs := [_, _, _]) rfl Tryz.zeroValue232 Tryz.runUnderlying232 (.cons Tryz.sizeOf195 (.cons Tryz.sizeOf192 (.cons Tryz.sizeOf28 (.nil)))) rfl) ?_
  refine rl_op0 rfl rfl (ot_store rfl rfl rfl Tryz.sizeOf232 Z0 (rfl : _ = [_, _, _]) rfl (by rfl) (by rfl) (by first | rfl | assumption) (by exact (rfl : _ = [_, _, _]))) ?_
  rintro _ _ rfl
  refine Kn1 6 rfl ?_
  refine ct_ret ?_
  refine fin_ret1 (RVs.agg (us := [_, _, _]) rfl Tryz.isAgg232 Tryz.sizeOf232 Z0 (by rfl) (by rfl) (by rfl) (RVs.nil)) Tryz.results151 ?_ Sees.refl
  refine Ro rfl (ot_alloc rfl Tryz.zeroValue232 (rfl : _ = [_, _, _])) ?_
  rintro _ _ ⟨b10, rfl, rfl⟩
  refine rl_op0 rfl rfl (ot_store rfl rfl rfl Tryz.sizeOf232 Z0 (rfl : _ = [_, _, _]) rfl (by rfl) (by rfl) (by first | rfl | assumption) (by exact (rfl : _ = [_, _, _]))) ?_
  rintro _ _ rfl
  refine Kn3 3 4 9 rfl ?_
  refine ct_seq ?_
  refine Cr ?_
  refine Rp rfl (pv_fieldAddr (k := 0) rfl Tryz.runUnderlying36 rfl Tryz.sizeOf3 rfl rfl) ?_
  refine Rq rfl (oq_load rfl rfl Tryz.isAgg3 Z6 (by rfl) (by rfl)) ?_
  refine Kn4 3 4 9 65 rfl ?_
  refine ct_block ?_
  refine Cr ?_
  refine Rp rfl (pv_bin (v := .bool false) rfl rfl (by rfl)) ?_
  refine Rp rfl (pv_assign rfl) ?_
  refine Kn5 3 4 9 65 66 rfl ?_
  refine ct_false rfl ?_
  refine Cr ?_
  refine Rp rfl (pv_bin (v := .bool false) rfl rfl (by rfl)) ?_
  refine Rp rfl (pv_assign rfl) ?_
  refine Kn5 3 4 9 65 71 rfl ?_
  refine ct_false rfl ?_
  refine Cr ?_
  refine Rp rfl (pv_bin (v := .bool false) rfl rfl (by rfl)) ?_
  refine Rp rfl (pv_assign rfl) ?_
  refine Kn5 3 4 9 65 77 rfl ?_
  refine ct_false rfl ?_
  refine Cr ?_
  refine Rp rfl (pv_bin (v := .bool true) rfl rfl (by rfl)) ?_
  refine Rp rfl (pv_assign rfl) ?_
  refine Kn4 3 4 9 88 rfl ?_
  refine ct_true rfl ?_
  refine ct_region ?_
  refine Rq rfl (oq_loadAgg (us := [_, _, _]) rfl rfl Tryz.isAgg232 Tryz.sizeOf232 Z0 (by rfl) (by rfl) (by rfl)) ?_
  refine Rp rfl (pv_fieldAddr (k := 3) rfl Tryz.runUnderlying36 rfl Tryz.sizeOf28 rfl rfl) ?_
  refine Rq rfl (oq_load rfl rfl Tryz.isAgg28 Z6 (by rfl) (by rfl)) ?_
  refine Rp rfl (pv_fieldAddr (k := 4) rfl Tryz.runUnderlying36 rfl Tryz.sizeOf28 rfl rfl) ?_
  refine Rq rfl (oq_load rfl rfl Tryz.isAgg28 Z6 (by rfl) (by rfl)) ?_
  refine rl_call rfl rfl (by decide) Tryz.call155 (vs := [_, _, _]) rfl Tryz.func155 rfl Tryz.ntmps155 rfl rfl ?_
  refine Cr ?_
  refine Ro rfl (ot_box rfl rfl (rfl : _ = [_, _, _])) ?_
  rintro _ _ ⟨b11, rfl, rfl⟩
  refine Rp rfl (pv_assign rfl) ?_
  refine Rp rfl (pv_assign rfl) ?_
  refine Kn3 1 2 3 rfl ?_
  refine ct_block ?_
  refine ct_loop (α := Unit) (fun _ => [(1, _), (2, _), (3, _)]) (fun _ => _) (fun _ => 0) () (Knows.cons rfl (Knows.cons rfl (Knows.cons rfl (Knows.nil)))) Sees.refl ?_
  intro _
  refine ct_block ?_
  refine Cr ?_
  refine Rp rfl (pv_fieldAddr (k := 0) rfl Tryz.runUnderlying232 rfl Tryz.sizeOf195 rfl rfl) ?_
  refine Rq rfl (oq_load rfl rfl Tryz.isAgg195 Z0 (by rfl) (by rfl)) ?_
  refine rl_call rfl rfl (by decide) Tryz.call54 (vs := [_]) rfl Tryz.func54 rfl Tryz.ntmps54 rfl rfl ?_
  refine Cr ?_
  refine Rp rfl (pv_assign rfl) ?_
  refine Kn1 0 rfl ?_
  refine Cr ?_
  refine Rp rfl (pv_move rfl) ?_
  refine Rp rfl (pv_nilCheck rfl) ?_
  refine Rp rfl (pv_fieldAddr (k := bix at_) rfl Tryz.runUnderlying149 rfl Tryz.sizeOf28 rfl rfl) ?_
  refine Rq rfl (oq_atomLoad rfl extLoad rfl Z8 (Nat.zero_le_ble) (wget_sub (bix_lt h0 (n := 8) (by omega) h1))) ?_
  refine Rp rfl (pv_assign rfl) ?_
  refine Kn1 2 rfl ?_
  refine ct_ret ?_
  refine fin_ret1 (RVs.tmp rfl (RVs.nil)) Tryz.results54 ?_ Sees.refl
  refine Rp rfl (pv_assign rfl) ?_
  refine Kn4 1 2 3 8 rfl ?_
  refine Cr ?_
  refine Rp rfl (pv_move rfl) ?_
  refine Rp rfl (pv_fieldAddr (k := 1) rfl Tryz.runUnderlying232 rfl Tryz.sizeOf192 rfl rfl) ?_
  refine Rq rfl (oq_load rfl rfl Tryz.isAgg192 Z0 (by rfl) (by rfl)) ?_
  refine Rp rfl (pv_shr rfl rfl (inK_wrap .u64 _).1) ?_
  refine Rp rfl (pv_fieldAddr (k := 2) rfl Tryz.runUnderlying232 rfl Tryz.sizeOf28 rfl rfl) ?_
  refine Rq rfl (oq_load rfl rfl Tryz.isAgg28 Z0 (by rfl) (by rfl)) ?_
  refine Rp rfl (pv_bin rfl rfl rfl) ?_
  refine Rp rfl (pv_assign rfl) ?_
  refine Kn5 1 2 3 8 9 rfl ?_
  refine ct_seq ?_
  refine Cr ?_
  refine Rp rfl (pv_move rfl) ?_
  refine Rp rfl (pv_move rfl) ?_
  refine Rp rfl (pv_fieldAddr (k := 2) rfl Tryz.runUnderlying232 rfl Tryz.sizeOf28 rfl rfl) ?_
  refine Rq rfl (oq_load rfl rfl Tryz.isAgg28 Z0 (by rfl) (by rfl)) ?_
  refine Rp rfl (pv_bin rfl rfl rfl) ?_
  refine Rp rfl (pv_bin rfl rfl rfl) ?_
  refine Kn6 1 2 3 8 9 25 rfl ?_
  refine ct_cond_n rfl (fun hz12 => absurd hc hz12) (fun _ => ?_)
  refine ct_skip ?_
  refine Kx5 1 2 3 8 9 rfl ?_
  refine Cr ?_
  refine Rq rfl (oq_loadAgg (us := [_, _, _]) rfl rfl Tryz.isAgg232 Tryz.sizeOf232 Z0 (by rfl) (by rfl) (by rfl)) ?_
  refine Rp rfl (pv_move rfl) ?_
  refine Rp rfl (pv_move rfl) ?_
  refine rl_call rfl rfl (by decide) Tryz.call170 (vs := [_, _, _]) rfl Tryz.func170 rfl Tryz.ntmps170 rfl rfl ?_
  refine Cr ?_
  refine Ro rfl (ot_box rfl rfl (rfl : _ = [_, _, _])) ?_
  rintro _ _ ⟨b13, rfl, rfl⟩
  refine Rp rfl (pv_assign rfl) ?_
  refine Kn3 1 2 3 rfl ?_
  refine Cr ?_
  refine Rp rfl (pv_fieldAddr (k := 0) rfl Tryz.runUnderlying232 rfl Tryz.sizeOf195 rfl rfl) ?_
  refine Rq rfl (oq_load rfl rfl Tryz.isAgg195 Z0 (by rfl) (by rfl)) ?_
  refine Rp rfl (pv_move rfl) ?_
  refine Rp rfl (pv_move rfl) ?_
  refine Rp rfl (pv_fieldAddr (k := 2) rfl Tryz.runUnderlying232 rfl Tryz.sizeOf28 rfl rfl) ?_
  refine Rq rfl (oq_load rfl rfl Tryz.isAgg28 Z0 (by rfl) (by rfl)) ?_
  refine Rp rfl (pv_fieldAddr (k := 1) rfl Tryz.runUnderlying232 rfl Tryz.sizeOf192 rfl rfl) ?_
  refine Rq rfl (oq_load rfl rfl Tryz.isAgg192 Z0 (by rfl) (by rfl)) ?_
  refine Rp rfl (pv_shl rfl rfl (inK_wrap .u64 _).1) ?_
  refine Rp rfl (pv_bin rfl rfl rfl) ?_
  refine Rp rfl (pv_move rfl) ?_
  refine Rp rfl (pv_fieldAddr (k := 2) rfl Tryz.runUnderlying232 rfl Tryz.sizeOf28 rfl rfl) ?_
  refine Rq rfl (oq_load rfl rfl Tryz.isAgg28 Z0 (by rfl) (by rfl)) ?_
  refine Rp rfl (pv_bin rfl rfl rfl) ?_
  refine Rp rfl (pv_fieldAddr (k := 1) rfl Tryz.runUnderlying232 rfl Tryz.sizeOf192 rfl rfl) ?_
  refine Rq rfl (oq_load rfl rfl Tryz.isAgg192 Z0 (by rfl) (by rfl)) ?_
  refine Rp rfl (pv_shl rfl rfl (inK_wrap .u64 _).1) ?_
  refine Rp rfl (pv_bin rfl rfl rfl) ?_
  refine rl_call rfl rfl (by decide) Tryz.call173 (vs := [_, _, _]) rfl Tryz.func173 rfl Tryz.ntmps173 rfl rfl ?_
  refine Cr ?_
  refine Rp rfl (pv_assign rfl) ?_
  refine Kn3 0 1 2 rfl ?_
  refine Cr ?_
  refine Rp rfl (pv_move rfl) ?_
  refine Rp rfl (pv_nilCheck rfl) ?_
  refine Rp rfl (pv_fieldAddr (k := bix at_) rfl Tryz.runUnderlying149 rfl Tryz.sizeOf28 rfl rfl) ?_
  refine Rp rfl (pv_move rfl) ?_
  refine Rp rfl (pv_move rfl) ?_
  refine Ro rfl (ot_atomCas rfl extCas rfl Z9 (Nat.zero_le_ble) (wget_sub (bix_lt h0 (n := 8) (by omega) h1)) (wput_sub _ _ _)) ?_
  rintro _ _ ⟨rfl, rfl⟩
  refine Rp rfl (pv_assign rfl) ?_
  refine Kn1 6 rfl ?_
  refine ct_ret ?_
  refine fin_ret1 (RVs.tmp rfl (RVs.nil)) Tryz.results173 ?_ Sees.refl
  refine Rp rfl (pv_assign rfl) ?_
  refine Kn1 6 rfl ?_
  refine ct_ret ?_
  refine fin_ret1 (RVs.tmp rfl (RVs.nil)) Tryz.results170 ?_ Sees.refl
  refine Kn5 1 2 3 9 30 rfl ?_
  refine ct_true rfl ?_
  refine Cr ?_
  refine Rp rfl (pv_move rfl) ?_
  refine Rp rfl (pv_assign rfl) ?_
  refine Rp rfl (pv_assign rfl) ?_
  refine Kn2 6 7 rfl ?_
  refine ct_ret ?_
  refine xt_ret_block ?_
  refine xt_ret_then ?_
  refine xt_ret_block ?_
  refine fin_ret (RVs.tmp rfl (RVs.tmp rfl (RVs.nil))) Tryz.results155 ?_ Sees.refl
  refine Rp rfl (pv_move rfl) ?_
  refine Rp rfl (pv_extract rfl rfl) ?_
  refine Rp rfl (pv_extract rfl rfl) ?_
  refine Rp rfl (pv_fieldAddr (k := 0) rfl Tryz.runUnderlying31 rfl Tryz.sizeOf28 rfl rfl) ?_
  refine rl_op0 rfl rfl (ot_store rfl rfl rfl Tryz.sizeOf28 Z8 (rfl : _ = [_]) rfl (by rfl) (by rfl) (by first | rfl | assumption) (by exact (rfl : _ = [_, _, _]))) ?_
  rintro _ _ rfl
  refine Rp rfl (pv_fieldAddr (k := 1) rfl Tryz.runUnderlying31 rfl Tryz.sizeOf4 rfl rfl) ?_
  refine rl_op0 rfl rfl (ot_store rfl rfl rfl Tryz.sizeOf4 Z0 (rfl : _ = [_]) rfl (by rfl) (by rfl) (by first | rfl | assumption) (by exact (rfl : _ = [_, _, _]))) ?_
  rintro _ _ rfl
  refine rl_nil ?_
  refine xt_normal_block ?_
  refine Kx1 4 rfl ?_
  refine Cr ?_
  refine Rq rfl (oq_loadAgg (us := [_, _, _]) rfl rfl Tryz.isAgg31 Tryz.sizeOf31 Z0 (by rfl) (by rfl) (by rfl)) ?_
  refine rl_op0 rfl rfl (ot_store rfl rfl rfl Tryz.sizeOf31 Z0 (rfl : _ = [_, _, _]) rfl (by rfl) (by rfl) (by first | rfl | assumption) (by exact (rfl : _ = [_, _, _]))) ?_
  rintro _ _ rfl
  refine Rp rfl (pv_assign rfl) ?_
  refine Kn2 4 5 rfl ?_
  refine ct_ret ?_
  exact fin_ret (RVs.agg (us := [_, _, _]) rfl Tryz.isAgg31 Tryz.sizeOf31 Z0 (by rfl) (by rfl) (by rfl) (RVs.tmp rfl (RVs.nil))) Tryz.results113 ⟨_, rfl, rfl⟩ (Sees.cons Z6 (Sees.cons Z1 (Sees.skip (Sees.skip (Sees.skip (Sees.skip (Sees.skip (Sees.skip (Sees.skip (Sees.skip (Sees.refl)))))))))))
theorem do_cas8_miss (ω : World) (bb wb : Nat) (m : List Int) (cnt at_ v u : Int) (p : Option Addr) (pn pc : Nat) (hm : m.length ≤ 16384) (h0 : 0 ≤ at_) (h8 : at_.tmod 8 = 0) (hc : ¬ mget m at_ 8 = iand .u64 v 18446744073709551615) (h1 : at_ + 8 ≤ 8 * (m.length : Int)) (F : List HP) : Spec ω Tryz.prog 113 #[.pointer (some ⟨bb, 0, none⟩), .agg #[.int .i64 4, .int .i64 at_, .int .i64 8, .int .u64 v, .int .u64 u, .slice p pn pc]] (row bb 0 [.slice (some ⟨wb, 0, none⟩) m.length m.length, .int .i64 cnt] :: row wb 0 (wcells m) :: F) fun v' H' => ∃ cnt', v' = .tuple #[.agg #[.int .u64 (mget m at_ 8), .bool false, .slice none 0 0], .int .i64 0] ∧ H' = row bb 0 [.slice (some ⟨wb, 0, none⟩) m.length m.length, .int .i64 cnt'] :: row wb 0 (wcells m) :: F := by
  refine spec_of_body Tryz.func113 rfl Tryz.ntmps113 rfl ?_
  refine Cr ?_
  refine Ro rfl (ot_box rfl rfl (rfl : _ = [_, _, _, _, _, _])) ?_
  rintro _ _ ⟨b1, rfl, rfl⟩
  refine Ro rfl (ot_alloc rfl Tryz.zeroValue31 (rfl : _ = [_, _, _])) ?_
  rintro _ _ ⟨b2, rfl, rfl⟩
  refine Rp rfl (pv_assign rfl) ?_
  refine Kn3 0 3 4 rfl ?_
  refine ct_seq ?_
  refine ct_seq ?_
  refine ct_planH [.q 0, .q 1, .q 2, .b 3, .q 4] mixed (by decide +kernel) ?_
  refine pw_q rfl rfl rfl rfl (oq_pv (pv_move rfl)) ?_
  refine pw_q rfl rfl rfl rfl (oq_call_of (cs := [_, _]) rfl Tryz.call148 (vs := [_]) rfl (Pick.cons Z2 (Pick.cons Z2 (Pick.nil))) (fun F => bsize_read _ _ _ _ _ hm F)) ?_
  refine pw_q rfl rfl rfl rfl (oq_loadAgg (us := [_, _, _, _, _, _]) rfl rfl Tryz.isAgg36 Tryz.sizeOf36 Z1 (by rfl) (by rfl) (by rfl)) ?_
  refine pwb_call rfl rfl rfl rfl Tryz.call147 (vs := [_, _]) rfl Tryz.func147 rfl Tryz.ntmps147 rfl rfl ?_
  refine Cr ?_
  refine Ro rfl (ot_box rfl rfl (rfl : _ = [_, _, _, _, _, _])) ?_
  rintro _ _ ⟨b3, rfl, rfl⟩
  refine Rp rfl (pv_assign rfl) ?_
  refine Kn2 0 3 rfl ?_
  refine ct_seq ?_
  refine ct_block ?_
  refine Cr ?_
  refine Rq rfl (oq_loadAgg (us := [_, _, _, _, _, _]) rfl rfl Tryz.isAgg36 Tryz.sizeOf36 Z0 (by rfl) (by rfl) (by rfl)) ?_
  refine rl_call rfl rfl (by decide) Tryz.call168 (vs := [_]) rfl Tryz.func168 rfl Tryz.ntmps168 rfl rfl ?_
  refine Cr ?_
  refine Ro rfl (ot_box rfl rfl (rfl : _ = [_, _, _, _, _, _])) ?_
  rintro _ _ ⟨b4, rfl, rfl⟩
  refine Rp rfl (pv_assign rfl) ?_
  refine Kn1 1 rfl ?_
  refine ct_seq ?_
  refine Cr ?_
  refine Rp rfl (pv_fieldAddr (k := 0) rfl Tryz.runUnderlying36 rfl Tryz.sizeOf3 rfl rfl) ?_
  refine Rq rfl (oq_load rfl rfl Tryz.isAgg3 Z0 (by rfl) (by rfl)) ?_
  refine Kn2 1 4 rfl ?_
  refine ct_block ?_
  refine ct_seq ?_
  refine Cr ?_
  refine Rp rfl (pv_bin (v := .bool false) rfl rfl (by rfl)) ?_
  refine Rp rfl (pv_assign rfl) ?_
  refine Kn3 1 4 5 rfl ?_
  refine ct_false rfl ?_
  refine Cr ?_
  refine Rp rfl (pv_bin (v := .bool false) rfl rfl (by rfl)) ?_
  refine Rp rfl (pv_assign rfl) ?_
  refine Kn3 1 4 5 rfl ?_
  refine ct_false rfl ?_
  refine ct_region ?_
  refine Rp rfl (pv_bin (v := .bool true) rfl rfl (by rfl)) ?_
  refine Rp rfl (pv_assign rfl) ?_
  refine Kn3 1 4 5 rfl ?_
  refine ct_true rfl ?_
  refine Cr ?_
  refine Rp rfl (pv_fieldAddr (k := 2) rfl Tryz.runUnderlying36 rfl Tryz.sizeOf3 rfl rfl) ?_
  refine Rq rfl (oq_load rfl rfl Tryz.isAgg3 Z0 (by rfl) (by rfl)) ?_
  refine Rp rfl (pv_bin (v := .bool false) rfl rfl (by rfl)) ?_
  refine Rp rfl (pv_move rfl) ?_
  refine Ru rfl (pv_fieldAddr (k := 2) rfl Tryz.runUnderlying36 rfl Tryz.sizeOf3 rfl rfl) ?_
  refine Rv rfl (oq_load rfl rfl Tryz.isAgg3 Z0 (by rfl) (by rfl)) ?_
  refine Ru rfl (pv_bin (v := .bool true) rfl rfl (by rfl)) ?_
  refine Rp rfl (pv_pick0 rfl rfl) ?_
  refine Rp rfl (pv_assign rfl) ?_
  refine Kn1 2 rfl ?_
  refine ct_ret ?_
  refine xt_ret_block ?_
  refine xt_ret_then ?_
  refine fin_ret1 (RVs.tmp rfl (RVs.nil)) Tryz.results168 ?_ Sees.refl
  refine Rp rfl (pv_not rfl) ?_
  refine Rp rfl (pv_assign rfl) ?_
  refine Kn3 0 3 5 rfl ?_
  refine ct_false rfl ?_
  refine Cr ?_
  refine Rp rfl (pv_fieldAddr (k := 1) rfl Tryz.runUnderlying36 rfl Tryz.sizeOf3 rfl rfl) ?_
  refine Rq rfl (oq_load rfl rfl Tryz.isAgg3 Z1 (by rfl) (by rfl)) ?_
  refine Rp rfl (pv_bin rfl rfl rfl) ?_
  refine Rp rfl (pv_move rfl) ?_
  refine rl_split_d (fun hz5 => absurd hz5 (by omega)) (fun _ => ?_)
  refine Ru rfl (pv_fieldAddr (k := 1) rfl Tryz.runUnderlying36 rfl Tryz.sizeOf3 rfl rfl) ?_
  refine Rv rfl (oq_load rfl rfl Tryz.isAgg3 Z1 (by rfl) (by rfl)) ?_
  refine Ru rfl (pv_move rfl) ?_
  refine Ru rfl (pv_bin rfl rfl rfl) ?_
  refine Rp rfl (pv_pick0 rfl rfl) ?_
  refine Rp rfl (pv_move rfl) ?_
  refine rl_split_d (fun hz6 => absurd hz6 (by omega)) (fun _ => ?_)
  refine Ru rfl (pv_fieldAddr (k := 2) rfl Tryz.runUnderlying36 rfl Tryz.sizeOf3 rfl rfl) ?_
  refine Rv rfl (oq_load rfl rfl Tryz.isAgg3 Z1 (by rfl) (by rfl)) ?_
  refine Ru rfl (pv_move rfl) ?_
  refine Ru rfl (pv_fieldAddr (k := 1) rfl Tryz.runUnderlying36 rfl Tryz.sizeOf3 rfl rfl) ?_
  refine Rv rfl (oq_load rfl rfl Tryz.isAgg3 Z1 (by rfl) (by rfl)) ?_
  refine Ru rfl (pv_bin rfl rfl rfl) ?_
  refine Ru rfl (pv_bin rfl rfl rfl) ?_
  refine Rp rfl (pv_pick0 rfl rfl) ?_
  refine Rp rfl (pv_assign rfl) ?_
  refine Kn2 3 9 rfl ?_
  refine ct_cond_d rfl (fun hz7 => absurd hz7 (by rw [sub_in h0 (by omega) (by omega)]; omega)) (fun _ => ?_)
  refine Cr ?_
  refine Rp rfl (pv_fieldAddr (k := 0) rfl Tryz.runUnderlying36 rfl Tryz.sizeOf3 rfl rfl) ?_
  refine Rq rfl (oq_load rfl rfl Tryz.isAgg3 Z1 (by rfl) (by rfl)) ?_
  refine Rp rfl (pv_bin (v := .bool true) rfl rfl (by rfl)) ?_
  refine Rp rfl (pv_move rfl) ?_
  refine Ru rfl (pv_fieldAddr (k := 1) rfl Tryz.runUnderlying36 rfl Tryz.sizeOf3 rfl rfl) ?_
  refine Rv rfl (oq_load rfl rfl Tryz.isAgg3 Z1 (by rfl) (by rfl)) ?_
  refine Ru rfl (pv_fieldAddr (k := 2) rfl Tryz.runUnderlying36 rfl Tryz.sizeOf3 rfl rfl) ?_
  refine Rv rfl (oq_load rfl rfl Tryz.isAgg3 Z1 (by rfl) (by rfl)) ?_
  refine Ru rfl (pv_rem rfl rfl (by decide)) ?_
  refine Ru rfl (pv_bin rfl rfl rfl) ?_
  refine Rp rfl (pv_pick1 rfl rfl) ?_
  refine Rp rfl (pv_assign rfl) ?_
  refine Kn1 28 rfl ?_
  refine ct_cond_n rfl (fun hz8 => absurd h8 hz8) (fun _ => ?_)
  refine ct_skip ?_
  refine xt_normal_block ?_
  refine xt_then ?_
  refine CT.weaken (E' := []) (Knows.nil) Sees.refl ?_
  refine Cr ?_
  refine Rp rfl (pv_assign rfl) ?_
  refine Kn1 4 rfl ?_
  refine ct_ret ?_
  refine fin_ret1 (RVs.tmp rfl (RVs.nil)) Tryz.results147 ?_ Sees.refl
  refine pw_q rfl rfl rfl rfl (oq_pv (pv_assign rfl)) ?_
  refine pw_done ?_
  refine Kx4 0 3 4 6 rfl ?_
  refine Cr ?_
  refine Rp rfl (pv_move rfl) ?_
  refine Rp rfl (pv_bin (v := .bool false) rfl rfl (by rfl)) ?_
  refine Kn5 0 3 4 6 15 rfl ?_
  refine ct_false rfl ?_
  refine ct_skip ?_
  refine Kx3 0 3 4 rfl ?_
  refine ct_seq ?_
  refine Cr ?_
  refine Rp rfl (pv_move rfl) ?_
  refine Rp rfl (pv_eql rfl rfl Tryz.runUnderlying53 rfl) ?_
  refine Kn4 0 3 4 19 rfl ?_
  refine ct_false rfl ?_
  refine ct_skip ?_
  refine Kx3 0 3 4 rfl ?_
  refine Cr ?_
  refine Rp rfl (pv_move rfl) ?_
  refine Rp rfl (pv_nilCheck rfl) ?_
  refine Rp rfl (pv_fieldAddr (k := 1) rfl Tryz.runUnderlying110 rfl Tryz.sizeOf108 rfl rfl) ?_
  refine rl_call rfl rfl (by decide) Tryz.call149 (vs := [_, _]) rfl Tryz.func149 rfl Tryz.ntmps149 rfl rfl ?_
  refine Cr ?_
  refine Rp rfl (pv_assign rfl) ?_
  refine Kn2 0 1 rfl ?_
  refine Cr ?_
  refine Rp rfl (pv_move rfl) ?_
  refine Rp rfl (pv_nilCheck rfl) ?_
  refine Rp rfl (pv_fieldAddr (k := 1) rfl Tryz.runUnderlying108 rfl Tryz.sizeOf2 rfl rfl) ?_
  refine Rp rfl (pv_move rfl) ?_
  refine Ro rfl (ot_atomAdd rfl extAddI rfl Z4 rfl (by rfl) (by exact (rfl : _ = [_, _]))) ?_
  rintro _ _ ⟨rfl, rfl⟩
  refine Rp rfl (pv_assign rfl) ?_
  refine Kn1 4 rfl ?_
  refine ct_ret ?_
  refine fin_ret1 (RVs.tmp rfl (RVs.nil)) Tryz.results149 ?_ Sees.refl
  refine Kn3 0 3 4 rfl ?_
  refine ct_seq ?_
  refine Cr ?_
  refine Rp rfl (pv_fieldAddr (k := 0) rfl Tryz.runUnderlying36 rfl Tryz.sizeOf3 rfl rfl) ?_
  refine Rq rfl (oq_load rfl rfl Tryz.isAgg3 Z4 (by rfl) (by rfl)) ?_
  refine Kn4 0 3 4 26 rfl ?_
  refine ct_block ?_
  refine Cr ?_
  refine Rp rfl (pv_bin (v := .bool false) rfl rfl (by rfl)) ?_
  refine Rp rfl (pv_assign rfl) ?_
  refine Kn5 0 3 4 26 27 rfl ?_
  refine ct_false rfl ?_
  refine Cr ?_
  refine Rp rfl (pv_bin (v := .bool false) rfl rfl (by rfl)) ?_
  refine Rp rfl (pv_assign rfl) ?_
  refine Kn4 0 3 4 37 rfl ?_
  refine ct_false rfl ?_
  refine ct_skip ?_
  refine xt_normal_block ?_
  refine Kx3 0 3 4 rfl ?_
  refine Cr ?_
  refine Rp rfl (pv_move rfl) ?_
  refine Rp rfl (pv_fieldAddr (k := 1) rfl Tryz.runUnderlying36 rfl Tryz.sizeOf3 rfl rfl) ?_
  refine Rq rfl (oq_load rfl rfl Tryz.isAgg3 Z4 (by rfl) (by rfl)) ?_
  refine Rp rfl (pv_fieldAddr (k := 2) rfl Tryz.runUnderlying36 rfl Tryz.sizeOf3 rfl rfl) ?_
  refine Rq rfl (oq_load rfl rfl Tryz.isAgg3 Z4 (by rfl) (by rfl)) ?_
  refine rl_call rfl rfl (by decide) Tryz.call151 (vs := [_, _, _]) rfl Tryz.func151 rfl Tryz.ntmps151 rfl rfl ?_
  refine Cr ?_
  refine Ro rfl (ot_alloc rfl Tryz.zeroValue232 (rfl : _ = [_, _, _])) ?_
  rintro _ _ ⟨b9, rfl, rfl⟩
  refine Kn4 0 1 2 6 rfl ?_
  refine Cr ?_
  refine Rp rfl (pv_assign rfl) ?_
  refine Kn5 0 1 2 6 7 rfl ?_
  refine ct_seq ?_
  refine Cr ?_
  refine Rp rfl (pv_move rfl) ?_
  refine Rp rfl (pv_bin (v := .bool false) rfl rfl (by rfl)) ?_
  refine Kn6 0 1 2 6 7 9 rfl ?_
  refine ct_false rfl ?_
  refine ct_skip ?_
  refine Kx4 0 1 6 7 rfl ?_
  refine Cr ?_
  refine Rp rfl (pv_move rfl) ?_
  refine Rp rfl (pv_nilCheck rfl) ?_
  refine Rp rfl (pv_fieldAddr (k := 0) rfl Tryz.runUnderlying110 rfl Tryz.sizeOf103 rfl rfl) ?_
  refine Rq rfl (oq_load rfl rfl Tryz.isAgg103 Z1 (by rfl) (by rfl)) ?_
  refine Rp rfl (pv_move rfl) ?_
  refine Rp rfl (pv_quo rfl rfl (by decide)) ?_
  refine Rp rfl (pv_indexAddr1 (j := bix at_) rfl rfl Tryz.runUnderlying103 Tryz.sizeOf149 (bix_eq h0 (by omega)) (by simpa using (bix_lt h0 (n := 8) (by omega) h1))) ?_
  refine Rp rfl (pv_move rfl) ?_
  refine Rp rfl (pv_rem rfl rfl (by decide)) ?_
  refine Rp rfl (pv_convert rfl Tryz.runUnderlying3 Tryz.runUnderlying192) ?_
  refine Rp rfl (pv_bin rfl rfl rfl) ?_
  refine Rp rfl (pv_move rfl) ?_
  refine Rp rfl (pv_build (ps := [(0, _), (1, _), (2, _)]) (cs := [_, _, _]) rfl Tryz.zeroValue232 Tryz.runUnderlying232 (.cons Tryz.sizeOf195 (.cons Tryz.sizeOf192 (.cons Tryz.sizeOf28 (.nil)))) rfl) ?_
  refine rl_op0 rfl rfl (ot_store rfl rfl rfl Tryz.sizeOf232 Z0 (rfl : _ = [_, _, _]) rfl (by rfl) (by rfl) (by first | rfl | assumption) (by exact (rfl : _ = [_, _, _]))) ?_
  rintro _ _ rfl
  refine Kn1 6 rfl ?_
  refine ct_ret ?_
  refine fin_ret1 (RVs.agg (us := [_, _, _]) rfl Tryz.isAgg232 Tryz.sizeOf232 Z0 (by rfl) (by rfl) (by rfl) (RVs.nil)) Tryz.results151 ?_ Sees.refl
  refine Ro rfl (ot_alloc rfl Tryz.zeroValue232 (rfl : _ = [_, _, _])) ?_
  rintro _ _ ⟨b10, rfl, rfl⟩
  refine rl_op0 rfl rfl (ot_store rfl rfl rfl Tryz.sizeOf232 Z0 (rfl : _ = [_, _, _]) rfl (by rfl) (by rfl) (by first | rfl | assumption) (by exact (rfl : _ = [_, _, _]))) ?_
  rintro _ _ rfl
  refine Kn3 3 4 9 rfl ?_
  refine ct_seq ?_
  refine Cr ?_
  refine Rp rfl (pv_fieldAddr (k := 0) rfl Tryz.runUnderlying36 rfl Tryz.sizeOf3 rfl rfl) ?_
  refine Rq rfl (oq_load rfl rfl Tryz.isAgg3 Z6 (by rfl) (by rfl)) ?_
  refine Kn4 3 4 9 65 rfl ?_
  refine ct_block ?_
  refine Cr ?_
  refine Rp rfl (pv_bin (v := .bool false) rfl rfl (by rfl)) ?_
  refine Rp rfl (pv_assign rfl) ?_
  refine Kn5 3 4 9 65 66 rfl ?_
  refine ct_false rfl ?_
  refine Cr ?_
  refine Rp rfl (pv_bin (v := .bool false) rfl rfl (by rfl)) ?_
  refine Rp rfl (pv_assign rfl) ?_
  refine Kn5 3 4 9 65 71 rfl ?_
  refine ct_false rfl ?_
  refine Cr ?_
  refine Rp rfl (pv_bin (v := .bool false) rfl rfl (by rfl)) ?_
  refine Rp rfl (pv_assign rfl) ?_
  refine Kn5 3 4 9 65 77 rfl ?_
  refine ct_false rfl ?_
  refine Cr ?_
  refine Rp rfl (pv_bin (v := .bool true) rfl rfl (by rfl)) ?_
  refine Rp rfl (pv_assign rfl) ?_
  refine Kn4 3 4 9 88 rfl ?_
  refine ct_true rfl ?_
  refine ct_region ?_
  refine Rq rfl (oq_loadAgg (us := [_, _, _]) rfl rfl Tryz.isAgg232 Tryz.sizeOf232 Z0 (by rfl) (by rfl) (by rfl)) ?_
  refine Rp rfl (pv_fieldAddr (k := 3) rfl Tryz.runUnderlying36 rfl Tryz.sizeOf28 rfl rfl) ?_
  refine Rq rfl (oq_load rfl rfl Tryz.isAgg28 Z6 (by rfl) (by rfl)) ?_
  refine Rp rfl (pv_fieldAddr (k := 4) rfl Tryz.runUnderlying36 rfl Tryz.sizeOf28 rfl rfl) ?_
  refine Rq rfl (oq_load rfl rfl Tryz.isAgg28 Z6 (by rfl) (by rfl)) ?_
  refine rl_call rfl rfl (by decide) Tryz.call155 (vs := [_, _, _]) rfl Tryz.func155 rfl Tryz.ntmps155 rfl rfl ?_
  refine Cr ?_
  refine Ro rfl (ot_box rfl rfl (rfl : _ = [_, _, _])) ?_
  rintro _ _ ⟨b11, rfl, rfl⟩
  refine Rp rfl (pv_assign rfl) ?_
  refine Rp rfl (pv_assign rfl) ?_
  refine Kn3 1 2 3 rfl ?_
  refine ct_block ?_
  refine ct_loop (α := Unit) (fun _ => [(1, _), (2, _), (3, _)]) (fun _ => _) (fun _ => 0) () (Knows.cons rfl (Knows.cons rfl (Knows.cons rfl (Knows.nil)))) Sees.refl ?_
  intro _
  refine ct_block ?_
  refine Cr ?_
  refine Rp rfl (pv_fieldAddr (k := 0) rfl Tryz.runUnderlying232 rfl Tryz.sizeOf195 rfl rfl) ?_
  refine Rq rfl (oq_load rfl rfl Tryz.isAgg195 Z0 (by rfl) (by rfl)) ?_
  refine rl_call rfl rfl (by decide) Tryz.call54 (vs := [_]) rfl Tryz.func54 rfl Tryz.ntmps54 rfl rfl ?_
  refine Cr ?_
  refine Rp rfl (pv_assign rfl) ?_
  refine Kn1 0 rfl ?_
  refine Cr ?_
  refine Rp rfl (pv_move rfl) ?_
  refine Rp rfl (pv_nilCheck rfl) ?_
  refine Rp rfl (pv_fieldAddr (k := bix at_) rfl Tryz.runUnderlying149 rfl Tryz.sizeOf28 rfl rfl) ?_
  refine Rq rfl (oq_atomLoad rfl extLoad rfl Z8 (Nat.zero_le_ble) (wget_sub (bix_lt h0 (n := 8) (by omega) h1))) ?_
  refine Rp rfl (pv_assign rfl) ?_
  refine Kn1 2 rfl ?_
  refine ct_ret ?_
  refine fin_ret1 (RVs.tmp rfl (RVs.nil)) Tryz.results54 ?_ Sees.refl
  refine Rp rfl (pv_assign rfl) ?_
  refine Kn4 1 2 3 8 rfl ?_
  refine Cr ?_
  refine Rp rfl (pv_move rfl) ?_
  refine Rp rfl (pv_fieldAddr (k := 1) rfl Tryz.runUnderlying232 rfl Tryz.sizeOf192 rfl rfl) ?_
  refine Rq rfl (oq_load rfl rfl Tryz.isAgg192 Z0 (by rfl) (by rfl)) ?_
  refine Rp rfl (pv_shr rfl rfl (inK_wrap .u64 _).1) ?_
  refine Rp rfl (pv_fieldAddr (k := 2) rfl Tryz.runUnderlying232 rfl Tryz.sizeOf28 rfl rfl) ?_
  refine Rq rfl (oq_load rfl rfl Tryz.isAgg28 Z0 (by rfl) (by rfl)) ?_
  refine Rp rfl (pv_bin rfl rfl rfl) ?_
  refine Rp rfl (pv_assign rfl) ?_
  refine Kn5 1 2 3 8 9 rfl ?_
  refine ct_seq ?_
  refine Cr ?_
  refine Rp rfl (pv_move rfl) ?_
  refine Rp rfl (pv_move rfl) ?_
  refine Rp rfl (pv_fieldAddr (k := 2) rfl Tryz.runUnderlying232 rfl Tryz.sizeOf28 rfl rfl) ?_
  refine Rq rfl (oq_load rfl rfl Tryz.isAgg28 Z0 (by rfl) (by rfl)) ?_
  refine Rp rfl (pv_bin rfl rfl rfl) ?_
  refine Rp rfl (pv_bin rfl rfl rfl) ?_
  refine Kn6 1 2 3 8 9 25 rfl ?_
  refine ct_cond_n rfl (fun _ => ?_) (fun hz12 => absurd hz12 hc)
  refine Cr ?_
  refine Rp rfl (pv_move rfl) ?_
  refine Rp rfl (pv_assign rfl) ?_
  refine Rp rfl (pv_assign rfl) ?_
  refine Kn2 6 7 rfl ?_
  refine ct_ret ?_
  refine xt_ret_then ?_
  refine xt_ret_block ?_
  refine xt_ret_then ?_
  refine xt_ret_block ?_
  refine fin_ret (RVs.tmp rfl (RVs.tmp rfl (RVs.nil))) Tryz.results155 ?_ Sees.refl
  refine Rp rfl (pv_move rfl) ?_
  refine Rp rfl (pv_extract rfl rfl) ?_
  refine Rp rfl (pv_extract rfl rfl) ?_
  refine Rp rfl (pv_fieldAddr (k := 0) rfl Tryz.runUnderlying31 rfl Tryz.sizeOf28 rfl rfl) ?_
  refine rl_op0 rfl rfl (ot_store rfl rfl rfl Tryz.sizeOf28 Z6 (rfl : _ = [_]) rfl (by rfl) (by rfl) (by first | rfl | assumption) (by exact (rfl : _ = [_, _, _]))) ?_
  rintro _ _ rfl
  refine Rp rfl (pv_fieldAddr (k := 1) rfl Tryz.runUnderlying31 rfl Tryz.sizeOf4 rfl rfl) ?_
  refine rl_op0 rfl rfl (ot_store rfl rfl rfl Tryz.sizeOf4 Z0 (rfl : _ = [_]) rfl (by rfl) (by rfl) (by first | rfl | assumption) (by exact (rfl : _ = [_, _, _]))) ?_
  rintro _ _ rfl
  refine rl_nil ?_
  refine xt_normal_block ?_
  refine Kx1 4 rfl ?_
  refine Cr ?_
  refine Rq rfl (oq_loadAgg (us := [_, _, _]) rfl rfl Tryz.isAgg31 Tryz.sizeOf31 Z0 (by rfl) (by rfl) (by rfl)) ?_
  refine rl_op0 rfl rfl (ot_store rfl rfl rfl Tryz.sizeOf31 Z0 (rfl : _ = [_, _, _]) rfl (by rfl) (by rfl) (by first | rfl | assumption) (by exact (rfl : _ = [_, _, _]))) ?_
  rintro _ _ rfl
  refine Rp rfl (pv_assign rfl) ?_
  refine Kn2 4 5 rfl ?_
  refine ct_ret ?_
  exact fin_ret (RVs.agg (us := [_, _, _]) rfl Tryz.isAgg31 Tryz.sizeOf31 Z0 (by rfl) (by rfl) (by rfl) (RVs.tmp rfl (RVs.nil))) Tryz.results113 ⟨_, rfl, rfl⟩ (Sees.cons Z4 (Sees.cons Z7 (Sees.skip (Sees.skip (Sees.skip (Sees.skip (Sees.skip (Sees.skip (Sees.skip (Sees.refl))))))))))
theorem do_cas4_hit (ω : World) (bb wb : Nat) (m : List Int) (cnt at_ v u : Int) (p : Option Addr) (pn pc : Nat) (hm : m.length ≤ 16384) (h0 : 0 ≤ at_) (h8 : at_.tmod 4 = 0) (hc :  mget m at_ 4 = iand .u64 v 4294967295) (h1 : at_ + 4 ≤ 8 * (m.length : Int)) (F : List HP) : Spec ω Tryz.prog 113 #[.pointer (some ⟨bb, 0, none⟩), .agg #[.int .i64 4, .int .i64 at_, .int .i64 4, .int .u64 v, .int .u64 u, .slice p pn pc]] (row bb 0 [.slice (some ⟨wb, 0, none⟩) m.length m.length, .int .i64 cnt] :: row wb 0 (wcells m) :: F) fun v' H' => ∃ cnt', v' = .tuple #[.agg #[.int .u64 (mget m at_ 4), .bool true, .slice none 0 0], .int .i64 0] ∧ H' = row bb 0 [.slice (some ⟨wb, 0, none⟩) m.length m.length, .int .i64 cnt'] :: row wb 0 (wcells (mput m at_ 4 u)) :: F := by
  refine spec_of_body Tryz.func113 rfl Tryz.ntmps113 rfl ?_
  refine Cr ?_
  refine Ro rfl (ot_box rfl rfl (rfl : _ = [_, _, _, _, _, _])) ?_
  rintro _ _ ⟨b1, rfl, rfl⟩
  refine Ro rfl (ot_alloc rfl Tryz.zeroValue31 (rfl : _ = [_, _, _])) ?_
  rintro _ _ ⟨b2, rfl, rfl⟩
  refine Rp rfl (pv_assign rfl) ?_
  refine Kn3 0 3 4 rfl ?_
  refine ct_seq ?_
  refine ct_seq ?_
  refine ct_planH [.q 0, .q 1, .q 2, .b 3, .q 4] mixed (by decide +kernel) ?_
  refine pw_q rfl rfl rfl rfl (oq_pv (pv_move rfl)) ?_
  refine pw_q rfl rfl rfl rfl (oq_call_of (cs := [_, _]) rfl Tryz.call148 (vs := [_]) rfl (Pick.cons Z2 (Pick.cons Z2 (Pick.nil))) (fun F => bsize_read _ _ _ _ _ hm F)) ?_
  refine pw_q rfl rfl rfl rfl (oq_loadAgg (us := [_, _, _, _, _, _]) rfl rfl Tryz.isAgg36 Tryz.sizeOf36 Z1 (by rfl) (by rfl) (by rfl)) ?_
  refine pwb_call rfl rfl rfl rfl Tryz.call147 (vs := [_, _]) rfl Tryz.func147 rfl Tryz.ntmps147 rfl rfl ?_
  refine Cr ?_
  refine Ro rfl (ot_box rfl rfl (rfl : _ = [_, _, _, _, _, _])) ?_
  rintro _ _ ⟨b3, rfl, rfl⟩
  refine Rp rfl (pv_assign rfl) ?_
  refine Kn2 0 3 rfl ?_
  refine ct_seq ?_
  refine ct_block ?_
  refine Cr ?_
  refine Rq rfl (oq_loadAgg (us := [_, _, _, _, _, _]) rfl rfl Tryz.isAgg36 Tryz.sizeOf36 Z0 (by rfl) (by rfl) (by rfl)) ?_
  refine rl_call rfl rfl (by decide) Tryz.call168 (vs := [_]) rfl Tryz.func168 rfl Tryz.ntmps168 rfl rfl ?_
  refine Cr ?_
  refine Ro rfl (ot_box rfl rfl (rfl : _ = [_, _, _, _, _, _])) ?_
  rintro _ _ ⟨b4, rfl, rfl⟩
  refine Rp rfl (pv_assign rfl) ?_
  refine Kn1 1 rfl ?_
  refine ct_seq ?_
  refine Cr ?_
  refine Rp rfl (pv_fieldAddr (k := 0) rfl Tryz.runUnderlying36 rfl Tryz.sizeOf3 rfl rfl) ?_
  refine Rq rfl (oq_load rfl rfl Tryz.isAgg3 Z0 (by rfl) (by rfl)) ?_
  refine Kn2 1 4 rfl ?_
  refine ct_block ?_
  refine ct_seq ?_
  refine Cr ?_
  refine Rp rfl (pv_bin (v := .bool false) rfl rfl (by rfl)) ?_
  refine Rp rfl (pv_assign rfl) ?_
  refine Kn3 1 4 5 rfl ?_
  refine ct_false rfl ?_
  refine Cr ?_
  refine Rp rfl (pv_bin (v := .bool false) rfl rfl (by rfl)) ?_
  refine Rp rfl (pv_assign rfl) ?_
  refine Kn3 1 4 5 rfl ?_
  refine ct_false rfl ?_
  refine ct_region ?_
  refine Rp rfl (pv_bin (v := .bool true) rfl rfl (by rfl)) ?_
  refine Rp rfl (pv_assign rfl) ?_
  refine Kn3 1 4 5 rfl ?_
  refine ct_true rfl ?_
  refine Cr ?_
  refine Rp rfl (pv_fieldAddr (k := 2) rfl Tryz.runUnderlying36 rfl Tryz.sizeOf3 rfl rfl) ?_
  refine Rq rfl (oq_load rfl rfl Tryz.isAgg3 Z0 (by rfl) (by rfl)) ?_
  refine Rp rfl (pv_bin (v := .bool true) rfl rfl (by rfl)) ?_
  refine Rp rfl (pv_move rfl) ?_
  refine rl_u rfl rfl (by decide) ?_
  refine rl_u rfl rfl (by decide) ?_
  refine rl_u rfl rfl (by decide) ?_
  refine Rp rfl (pv_pick1 rfl rfl) ?_
  refine Rp rfl (pv_assign rfl) ?_
  refine Kn1 2 rfl ?_
  refine ct_ret ?_
  refine xt_ret_block ?_
  refine xt_ret_then ?_
  refine fin_ret1 (RVs.tmp rfl (RVs.nil)) Tryz.results168 ?_ Sees.refl
  refine Rp rfl (pv_not rfl) ?_
  refine Rp rfl (pv_assign rfl) ?_
  refine Kn3 0 3 5 rfl ?_
  refine ct_false rfl ?_
  refine Cr ?_
  refine Rp rfl (pv_fieldAddr (k := 1) rfl Tryz.runUnderlying36 rfl Tryz.sizeOf3 rfl rfl) ?_
  refine Rq rfl (oq_load rfl rfl Tryz.isAgg3 Z1 (by rfl) (by rfl)) ?_
  refine Rp rfl (pv_bin rfl rfl rfl) ?_
  refine Rp rfl (pv_move rfl) ?_
  refine rl_split_d (fun hz5 => absurd hz5 (by omega)) (fun _ => ?_)
  refine Ru rfl (pv_fieldAddr (k := 1) rfl Tryz.runUnderlying36 rfl Tryz.sizeOf3 rfl rfl) ?_
  refine Rv rfl (oq_load rfl rfl Tryz.isAgg3 Z1 (by rfl) (by rfl)) ?_
  refine Ru rfl (pv_move rfl) ?_
  refine Ru rfl (pv_bin rfl rfl rfl) ?_
  refine Rp rfl (pv_pick0 rfl rfl) ?_
  refine Rp rfl (pv_move rfl) ?_
  refine rl_split_d (fun hz6 => absurd hz6 (by omega)) (fun _ => ?_)
  refine Ru rfl (pv_fieldAddr (k := 2) rfl Tryz.runUnderlying36 rfl Tryz.sizeOf3 rfl rfl) ?_
  refine Rv rfl (oq_load rfl rfl Tryz.isAgg3 Z1 (by rfl) (by rfl)) ?_
  refine Ru rfl (pv_move rfl) ?_
  refine Ru rfl (pv_fieldAddr (k := 1) rfl Tryz.runUnderlying36 rfl Tryz.sizeOf3 rfl rfl) ?_
  refine Rv rfl (oq_load rfl rfl Tryz.isAgg3 Z1 (by rfl) (by rfl)) ?_
  refine Ru rfl (pv_bin rfl rfl rfl) ?_
  refine Ru rfl (pv_bin rfl rfl rfl) ?_
  refine Rp rfl (pv_pick0 rfl rfl) ?_
  refine Rp rfl (pv_assign rfl) ?_
  refine Kn2 3 9 rfl ?_
  refine ct_cond_d rfl (fun hz7 => absurd hz7 (by rw [sub_in h0 (by omega) (by omega)]; omega)) (fun _ => ?_)
  refine Cr ?_
  refine Rp rfl (pv_fieldAddr (k := 0) rfl Tryz.runUnderlying36 rfl Tryz.sizeOf3 rfl rfl) ?_
  refine Rq rfl (oq_load rfl rfl Tryz.isAgg3 Z1 (by rfl) (by rfl)) ?_
  refine Rp rfl (pv_bin (v := .bool true) rfl rfl (by rfl)) ?_
  refine Rp rfl (pv_move rfl) ?_
  refine Ru rfl (pv_fieldAddr (k := 1) rfl Tryz.runUnderlying36 rfl Tryz.sizeOf3 rfl rfl) ?_
  refine Rv rfl (oq_load rfl rfl Tryz.isAgg3 Z1 (by rfl) (by rfl)) ?_
  refine Ru rfl (pv_fieldAddr (k := 2) rfl Tryz.runUnderlying36 rfl Tryz.sizeOf3 rfl rfl) ?_
  refine Rv rfl (oq_load rfl rfl Tryz.isAgg3 Z1 (by rfl) (by rfl)) ?_
  refine Ru rfl (pv_rem rfl rfl (by decide)) ?_
  refine Ru rfl (pv_bin rfl rfl rfl) ?_
  refine Rp rfl (pv_pick1 rfl rfl) ?_
  refine Rp rfl (pv_assign rfl) ?_
  refine Kn1 28 rfl ?_
  refine ct_cond_n rfl (fun hz8 => absurd h8 hz8) (fun _ => ?_)
  refine ct_skip ?_
  refine xt_normal_block ?_
  refine xt_then ?_
  refine CT.weaken (E' := []) (Knows.nil) Sees.refl ?_
  refine Cr ?_
  refine Rp rfl (pv_assign rfl) ?_
  refine Kn1 4 rfl ?_
  refine ct_ret ?_
  refine fin_ret1 (RVs.tmp rfl (RVs.nil)) Tryz.results147 ?_ Sees.refl
  refine pw_q rfl rfl rfl rfl (oq_pv (pv_assign rfl)) ?_
  refine pw_done ?_
  refine Kx4 0 3 4 6 rfl ?_
  refine Cr ?_
  refine Rp rfl (pv_move rfl) ?_
  refine Rp rfl (pv_bin (v := .bool false) rfl rfl (by rfl)) ?_
  refine Kn5 0 3 4 6 15 rfl ?_
  refine ct_false rfl ?_
  refine ct_skip ?_
  refine Kx3 0 3 4 rfl ?_
  refine ct_seq ?_
  refine Cr ?_
  refine Rp rfl (pv_move rfl) ?_
  refine Rp rfl (pv_eql rfl rfl Tryz.runUnderlying53 rfl) ?_
  refine Kn4 0 3 4 19 rfl ?_
  refine ct_false rfl ?_
  refine ct_skip ?_
  refine Kx3 0 3 4 rfl ?_
  refine Cr ?_
  refine Rp rfl (pv_move rfl) ?_
  refine Rp rfl (pv_nilCheck rfl) ?_
  refine Rp rfl (pv_fieldAddr (k := 1) rfl Tryz.runUnderlying110 rfl Tryz.sizeOf108 rfl rfl) ?_
  refine rl_call rfl rfl (by decide) Tryz.call149 (vs := [_, _]) rfl Tryz.func149 rfl Tryz.ntmps149 rfl rfl ?_
  refine Cr ?_
  refine Rp rfl (pv_assign rfl) ?_
  refine Kn2 0 1 rfl ?_
  refine Cr ?_
  refine Rp rfl (pv_move rfl) ?_
  refine Rp rfl (pv_nilCheck rfl) ?_
  refine Rp rfl (pv_fieldAddr (k := 1) rfl Tryz.runUnderlying108 rfl Tryz.sizeOf2 rfl rfl) ?_
  refine Rp rfl (pv_move rfl) ?_
  refine Ro rfl (ot_atomAdd rfl extAddI rfl Z4 rfl (by rfl) (by exact (rfl : _ = [_, _]))) ?_
  rintro _ _ ⟨rfl, rfl⟩
  refine Rp rfl (pv_assign rfl) ?_
  refine Kn1 4 rfl ?_
  refine ct_ret ?_
  refine fin_ret1 (RVs.tmp rfl (RVs.nil)) Tryz.results149 ?_ Sees.refl
  refine Kn3 0 3 4 rfl ?_
  refine ct_seq ?_
  refine Cr ?_
  refine Rp rfl (pv_fieldAddr (k := 0) rfl Tryz.runUnderlying36 rfl Tryz.sizeOf3 rfl rfl) ?_
  refine Rq rfl (oq_load rfl rfl Tryz.isAgg3 Z4 (by rfl) (by rfl)) ?_
  refine Kn4 0 3 4 26 rfl ?_
  refine ct_block ?_
  refine Cr ?_
  refine Rp rfl (pv_bin (v := .bool false) rfl rfl (by rfl)) ?_
  refine Rp rfl (pv_assign rfl) ?_
  refine Kn5 0 3 4 26 27 rfl ?_
  refine ct_false rfl ?_
  refine Cr ?_
  refine Rp rfl (pv_bin (v := .bool false) rfl rfl (by rfl)) ?_
  refine Rp rfl (pv_assign rfl) ?_
  refine Kn4 0 3 4 37 rfl ?_
  refine ct_false rfl ?_
  refine ct_skip ?_
  refine xt_normal_block ?_
  refine Kx3 0 3 4 rfl ?_
  refine Cr ?_
  refine Rp rfl (pv_move rfl) ?_
  refine Rp rfl (pv_fieldAddr (k := 1) rfl Tryz.runUnderlying36 rfl Tryz.sizeOf3 rfl rfl) ?_
  refine Rq rfl (oq_load rfl rfl Tryz.isAgg3 Z4 (by rfl) (by rfl)) ?_
  refine Rp rfl (pv_fieldAddr (k := 2) rfl Tryz.runUnderlying36 rfl Tryz.sizeOf3 rfl rfl) ?_
  refine Rq rfl (oq_load rfl rfl Tryz.isAgg3 Z4 (by rfl) (by rfl)) ?_
  refine rl_call rfl rfl (by decide) Tryz.call151 (vs := [_, _, _]) rfl Tryz.func151 rfl Tryz.ntmps151 rfl rfl ?_
  refine Cr ?_
  refine Ro rfl (ot_alloc rfl Tryz.zeroValue232 (rfl : _ = [_, _, _])) ?_
  rintro _ _ ⟨b9, rfl, rfl⟩
  refine Kn4 0 1 2 6 rfl ?_
  refine Cr ?_
  refine Rp rfl (pv_assign rfl) ?_
  refine Kn5 0 1 2 6 7 rfl ?_
  refine ct_seq ?_
  refine Cr ?_
  refine Rp rfl (pv_move rfl) ?_
  refine Rp rfl (pv_bin (v := .bool true) rfl rfl (by rfl)) ?_
  refine Kn6 0 1 2 6 7 9 rfl ?_
  refine ct_true rfl ?_
  refine ct_region ?_
  refine Rp rfl (pv_move rfl) ?_
  refine Rp rfl (pv_convert_to (v := 4) rfl Tryz.runUnderlying3 Tryz.runUnderlying192 (by rfl)) ?_
  refine Rp rfl (pv_bin (v := .int .u64 32) rfl rfl (by rfl)) ?_
  refine Rp rfl (pv_shl_to (v := 4294967296) rfl rfl (by decide) (by rfl)) ?_
  refine Rp rfl (pv_bin (v := .int .u64 4294967295) rfl rfl (by rfl)) ?_
  refine Rp rfl (pv_assign rfl) ?_
  refine Kn4 0 1 6 7 rfl ?_
  refine Cr ?_
  refine Rp rfl (pv_move rfl) ?_
  refine Rp rfl (pv_nilCheck rfl) ?_
  refine Rp rfl (pv_fieldAddr (k := 0) rfl Tryz.runUnderlying110 rfl Tryz.sizeOf103 rfl rfl) ?_
  refine Rq rfl (oq_load rfl rfl Tryz.isAgg103 Z1 (by rfl) (by rfl)) ?_
  refine Rp rfl (pv_move rfl) ?_
  refine Rp rfl (pv_quo rfl rfl (by decide)) ?_
  refine Rp rfl (pv_indexAddr1 (j := bix at_) rfl rfl Tryz.runUnderlying103 Tryz.sizeOf149 (bix_eq h0 (by omega)) (by simpa using (bix_lt h0 (n := 4) (by omega) h1))) ?_
  refine Rp rfl (pv_move rfl) ?_
  refine Rp rfl (pv_rem rfl rfl (by decide)) ?_
  refine Rp rfl (pv_convert rfl Tryz.runUnderlying3 Tryz.runUnderlying192) ?_
  refine Rp rfl (pv_bin rfl rfl rfl) ?_
  refine Rp rfl (pv_move rfl) ?_
  refine Rp rfl (pv_build (ps := [(0, _), (1, _), (2, _)]) (cs := [_, _, _]) rfl Tryz.zeroValue232 Tryz.runUnderlying232 (.cons Tryz.sizeOf195 (.cons Tryz.sizeOf192 (.cons Tryz.sizeOf28 (.nil)))) rfl) ?_
  refine rl_op0 rfl rfl (ot_store rfl rfl rfl Tryz.sizeOf232 Z0 (rfl : _ = [_, _, _]) rfl (by rfl) (by rfl) (by first | rfl | assumption) (by exact (rfl : _ = [_, _, _]))) ?_
  rintro _ _ rfl
  refine Kn1 6 rfl ?_
  refine ct_ret ?_
  refine fin_ret1 (RVs.agg (us := [_, _, _]) rfl Tryz.isAgg232 Tryz.sizeOf232 Z0 (by rfl) (by rfl) (by rfl) (RVs.nil)) Tryz.results151 ?_ Sees.refl
  refine Ro rfl (ot_alloc rfl Tryz.zeroValue232 (rfl : _ = [_, _, _])) ?_
  rintro _ _ ⟨b10, rfl, rfl⟩
  refine rl_op0 rfl rfl (ot_store rfl rfl rfl Tryz.sizeOf232 Z0 (rfl : _ = [_, _, _]) rfl (by rfl) (by rfl) (by first | rfl | assumption) (by exact (rfl : _ = [_, _, _]))) ?_
  rintro _ _ rfl
  refine Kn3 3 4 9 rfl ?_
  refine ct_seq ?_
  refine Cr ?_
  refine Rp rfl (pv_fieldAddr (k := 0) rfl Tryz.runUnderlying36 rfl Tryz.sizeOf3 rfl rfl) ?_
  refine Rq rfl (oq_load rfl rfl Tryz.isAgg3 Z6 (by rfl) (by rfl)) ?_
  refine Kn4 3 4 9 65 rfl ?_
  refine ct_block ?_
  refine Cr ?_
  refine Rp rfl (pv_bin (v := .bool false) rfl rfl (by rfl)) ?_
  refine Rp rfl (pv_assign rfl) ?_
  refine Kn5 3 4 9 65 66 rfl ?_
  refine ct_false rfl ?_
  refine Cr ?_
  refine Rp rfl (pv_bin (v := .bool false) rfl rfl (by rfl)) ?_
  refine Rp rfl (pv_assign rfl) ?_
  refine Kn5 3 4 9 65 71 rfl ?_
  refine ct_false rfl ?_
  refine Cr ?_
  refine Rp rfl (pv_bin (v := .bool false) rfl rfl (by rfl)) ?_
  refine Rp rfl (pv_assign rfl) ?_
  refine Kn5 3 4 9 65 77 rfl ?_
  refine ct_false rfl ?_
  refine Cr ?_
  refine Rp rfl (pv_bin (v := .bool true) rfl rfl (by rfl)) ?_
  refine Rp rfl (pv_assign rfl) ?_
  refine Kn4 3 4 9 88 rfl ?_
  refine ct_true rfl ?_
  refine ct_region ?_
  refine Rq rfl (oq_loadAgg (us := [_, _, _]) rfl rfl Tryz.isAgg232 Tryz.sizeOf232 Z0 (by rfl) (by rfl) (by rfl)) ?_
  refine Rp rfl (pv_fieldAddr (k := 3) rfl Tryz.runUnderlying36 rfl Tryz.sizeOf28 rfl rfl) ?_
  refine Rq rfl (oq_load rfl rfl Tryz.isAgg28 Z6 (by rfl) (by rfl)) ?_
  refine Rp rfl (pv_fieldAddr (k := 4) rfl Tryz.runUnderlying36 rfl Tryz.sizeOf28 rfl rfl) ?_
  refine Rq rfl (oq_load rfl rfl Tryz.isAgg28 Z6 (by rfl) (by rfl)) ?_
  refine rl_call rfl rfl (by decide) Tryz.call155 (vs := [_, _, _]) rfl Tryz.func155 rfl Tryz.ntmps155 rfl rfl ?_
  refine Cr ?_
  refine Ro rfl (ot_box rfl rfl (rfl : _ = [_, _, _])) ?_
  rintro _ _ ⟨b11, rfl, rfl⟩
  refine Rp rfl (pv_assign rfl) ?_
  refine Rp rfl (pv_assign rfl) ?_
  refine Kn3 1 2 3 rfl ?_
  refine ct_block ?_
  refine ct_loop (α := Unit) (fun _ => [(1, _), (2, _), (3, _)]) (fun _ => _) (fun _ => 0) () (Knows.cons rfl (Knows.cons rfl (Knows.cons rfl (Knows.nil)))) Sees.refl ?_
  intro _
  refine ct_block ?_
  refine Cr ?_
  refine Rp rfl (pv_fieldAddr (k := 0) rfl Tryz.runUnderlying232 rfl Tryz.sizeOf195 rfl rfl) ?_
  refine Rq rfl (oq_load rfl rfl Tryz.isAgg195 Z0 (by rfl) (by rfl)) ?_
  refine rl_call rfl rfl (by decide) Tryz.call54 (vs := [_]) rfl Tryz.func54 rfl Tryz.ntmps54 rfl rfl ?_
  refine Cr ?_
  refine Rp rfl (pv_assign rfl) ?_
  refine Kn1 0 rfl ?_
  refine Cr ?_
  refine Rp rfl (pv_move rfl) ?_
  refine Rp rfl (pv_nilCheck rfl) ?_
  refine Rp rfl (pv_fieldAddr (k := bix at_) rfl Tryz.runUnderlying149 rfl Tryz.sizeOf28 rfl rfl) ?_
  refine Rq rfl (oq_atomLoad rfl extLoad rfl Z8 (Nat.zero_le_ble) (wget_sub (bix_lt h0 (n := 4) (by omega) h1))) ?_
  refine Rp rfl (pv_assign rfl) ?_
  refine Kn1 2 rfl ?_
  refine ct_ret ?_
  refine fin_ret1 (RVs.tmp rfl (RVs.nil)) Tryz.results54 ?_ Sees.refl
  refine Rp rfl (pv_assign rfl) ?_
  refine Kn4 1 2 3 8 rfl ?_
  refine Cr ?_
  refine Rp rfl (pv_move rfl) ?_
  refine Rp rfl (pv_fieldAddr (k := 1) rfl Tryz.runUnderlying232 rfl Tryz.sizeOf192 rfl rfl) ?_
  refine Rq rfl (oq_load rfl rfl Tryz.isAgg192 Z0 (by rfl) (by rfl)) ?_
  refine Rp rfl (pv_shr rfl rfl (inK_wrap .u64 _).1) ?_
  refine Rp rfl (pv_fieldAddr (k := 2) rfl Tryz.runUnderlying232 rfl Tryz.sizeOf28 rfl rfl) ?_
  refine Rq rfl (oq_load rfl rfl Tryz.isAgg28 Z0 (by rfl) (by rfl)) ?_
  refine Rp rfl (pv_bin rfl rfl rfl) ?_
  refine Rp rfl (pv_assign rfl) ?_
  refine Kn5 1 2 3 8 9 rfl ?_
  refine ct_seq ?_
  refine Cr ?_
  refine Rp rfl (pv_move rfl) ?_
  refine Rp rfl (pv_move rfl) ?_
  refine Rp rfl (pv_fieldAddr (k := 2) rfl Tryz.runUnderlying232 rfl Tryz.sizeOf28 rfl rfl) ?_
  refine Rq rfl (oq_load rfl rfl Tryz.isAgg28 Z0 (by rfl) (by rfl)) ?_
  refine Rp rfl (pv_bin rfl rfl rfl) ?_
  refine Rp rfl (pv_bin rfl rfl rfl) ?_
  refine Kn6 1 2 3 8 9 25 rfl ?_
  refine ct_cond_n rfl (fun hz12 => absurd hc hz12) (fun _ => ?_)
  refine ct_skip ?_
  refine Kx5 1 2 3 8 9 rfl ?_
  refine Cr ?_
  refine Rq rfl (oq_loadAgg (us := [_, _, _]) rfl rfl Tryz.isAgg232 Tryz.sizeOf232 Z0 (by rfl) (by rfl) (by rfl)) ?_
  refine Rp rfl (pv_move rfl) ?_
  refine Rp rfl (pv_move rfl) ?_
  refine rl_call rfl rfl (by decide) Tryz.call170 (vs := [_, _, _]) rfl Tryz.func170 rfl Tryz.ntmps170 rfl rfl ?_
  refine Cr ?_
  refine Ro rfl (ot_box rfl rfl (rfl : _ = [_, _, _])) ?_
  rintro _ _ ⟨b13, rfl, rfl⟩
  refine Rp rfl (pv_assign rfl) ?_
  refine Kn3 1 2 3 rfl ?_
  refine Cr ?_
  refine Rp rfl (pv_fieldAddr (k := 0) rfl Tryz.runUnderlying232 rfl Tryz.sizeOf195 rfl rfl) ?_
  refine Rq rfl (oq_load rfl rfl Tryz.isAgg195 Z0 (by rfl) (by rfl)) ?_
  refine Rp rfl (pv_move rfl) ?_
  refine Rp rfl (pv_move rfl) ?_
  refine Rp rfl (pv_fieldAddr (k := 2) rfl Tryz.runUnderlying232 rfl Tryz.sizeOf28 rfl rfl) ?_
  refine Rq rfl (oq_load rfl rfl Tryz.isAgg28 Z0 (by rfl) (by rfl)) ?_
  refine Rp rfl (pv_fieldAddr (k := 1) rfl Tryz.runUnderlying232 rfl Tryz.sizeOf192 rfl rfl) ?_
  refine Rq rfl (oq_load rfl rfl Tryz.isAgg192 Z0 (by rfl) (by rfl)) ?_
  refine Rp rfl (pv_shl rfl rfl (inK_wrap .u64 _).1) ?_
  refine Rp rfl (pv_bin rfl rfl rfl) ?_
  refine Rp rfl (pv_move rfl) ?_
  refine Rp rfl (pv_fieldAddr (k := 2) rfl Tryz.runUnderlying232 rfl Tryz.sizeOf28 rfl rfl) ?_
  refine Rq rfl (oq_load rfl rfl Tryz.isAgg28 Z0 (by rfl) (by rfl)) ?_
  refine Rp rfl (pv_bin rfl rfl rfl) ?_
  refine Rp rfl (pv_fieldAddr (k := 1) rfl Tryz.runUnderlying232 rfl Tryz.sizeOf192 rfl rfl) ?_
  refine Rq rfl (oq_load rfl rfl Tryz.isAgg192 Z0 (by rfl) (by rfl)) ?_
  refine Rp rfl (pv_shl rfl rfl (inK_wrap .u64 _).1) ?_
  refine Rp rfl (pv_bin rfl rfl rfl) ?_
  refine rl_call rfl rfl (by decide) Tryz.call173 (vs := [_, _, _]) rfl Tryz.func173 rfl Tryz.ntmps173 rfl rfl ?_
  refine Cr ?_
  refine Rp rfl (pv_assign rfl) ?_
  refine Kn3 0 1 2 rfl ?_
  refine Cr ?_
  refine Rp rfl (pv_move rfl) ?_
  refine Rp rfl (pv_nilCheck rfl) ?_
  refine Rp rfl (pv_fieldAddr (k := bix at_) rfl Tryz.runUnderlying149 rfl Tryz.sizeOf28 rfl rfl) ?_
  refine Rp rfl (pv_move rfl) ?_
  refine Rp rfl (pv_move rfl) ?_
  refine Ro rfl (ot_atomCas rfl extCas rfl Z9 (Nat.zero_le_ble) (wget_sub (bix_lt h0 (n := 4) (by omega) h1)) (wput_sub _ _ _)) ?_
  rintro _ _ ⟨rfl, rfl⟩
  refine Rp rfl (pv_assign rfl) ?_
  refine Kn1 6 rfl ?_
  refine ct_ret ?_
  refine fin_ret1 (RVs.tmp rfl (RVs.nil)) Tryz.results173 ?_ Sees.refl
  refine Rp rfl (pv_assign rfl) ?_
  refine Kn1 6 rfl ?_
  refine ct_ret ?_
  refine fin_ret1 (RVs.tmp rfl (RVs.nil)) Tryz.results170 ?_ Sees.refl
  refine Kn5 1 2 3 9 30 rfl ?_
  refine ct_true rfl ?_
  refine Cr ?_
  refine Rp rfl (pv_move rfl) ?_
  refine Rp rfl (pv_assign rfl) ?_
  refine Rp rfl (pv_assign rfl) ?_
  refine Kn2 6 7 rfl ?_
  refine ct_ret ?_
  refine xt_ret_block ?_
  refine xt_ret_then ?_
  refine xt_ret_block ?_
  refine fin_ret (RVs.tmp rfl (RVs.tmp rfl (RVs.nil))) Tryz.results155 ?_ Sees.refl
  refine Rp rfl (pv_move rfl) ?_
  refine Rp rfl (pv_extract rfl rfl) ?_
  refine Rp rfl (pv_extract rfl rfl) ?_
  refine Rp rfl (pv_fieldAddr (k := 0) rfl Tryz.runUnderlying31 rfl Tryz.sizeOf28 rfl rfl) ?_
  refine rl_op0 rfl rfl (ot_store rfl rfl rfl Tryz.sizeOf28 Z8 (rfl : _ = [_]) rfl (by rfl) (by rfl) (by first | rfl | assumption) (by exact (rfl : _ = [_, _, _]))) ?_
  rintro _ _ rfl
  refine Rp rfl (pv_fieldAddr (k := 1) rfl Tryz.runUnderlying31 rfl Tryz.sizeOf4 rfl rfl) ?_
  refine rl_op0 rfl rfl (ot_store rfl rfl rfl Tryz.sizeOf4 Z0 (rfl : _ = [_]) rfl (by rfl) (by rfl) (by first | rfl | assumption) (by exact (rfl : _ = [_, _, _]))) ?_
  rintro _ _ rfl
  refine rl_nil ?_
  refine xt_normal_block ?_
  refine Kx1 4 rfl ?_
  refine Cr ?_
  refine Rq rfl (oq_loadAgg (us := [_, _, _]) rfl rfl Tryz.isAgg31 Tryz.sizeOf31 Z0 (by rfl) (by rfl) (by rfl)) ?_
  refine rl_op0 rfl rfl (ot_store rfl rfl rfl Tryz.sizeOf31 Z0 (rfl : _ = [_, _, _]) rfl (by rfl) (by rfl) (by first | rfl | assumption) (by exact (rfl : _ = [_, _, _]))) ?_
  rintro _ _ rfl
  refine Rp rfl (pv_assign rfl) ?_
  refine Kn2 4 5 rfl ?_
  refine ct_ret ?_
  exact fin_ret (RVs.agg (us := [_, _, _]) rfl Tryz.isAgg31 Tryz.sizeOf31 Z0 (by rfl) (by rfl) (by rfl) (RVs.tmp rfl (RVs.nil))) Tryz.results113 ⟨_, rfl, rfl⟩ (Sees.cons Z6 (Sees.cons Z1 (Sees.skip (Sees.skip (Sees.skip (Sees.skip (Sees.skip (Sees.skip (Sees.skip (Sees.skip (Sees.refl)))))))))))
theorem do_cas4_miss (ω : World) (bb wb : Nat) (m : List Int) (cnt at_ v u : Int) (p : Option Addr) (pn pc : Nat) (hm : m.length ≤ 16384) (h0 : 0 ≤ at_) (h8 : at_.tmod 4 = 0) (hc : ¬ mget m at_ 4 = iand .u64 v 4294967295) (h1 : at_ + 4 ≤ 8 * (m.length : Int)) (F : List HP) : Spec ω Tryz.prog 113 #[.pointer (some ⟨bb, 0, none⟩), .agg #[.int .i64 4, .int .i64 at_, .int .i64 4, .int .u64 v, .int .u64 u, .slice p pn pc]] (row bb 0 [.slice (some ⟨wb, 0, none⟩) m.length m.length, .int .i64 cnt] :: row wb 0 (wcells m) :: F) fun v' H' => ∃ cnt', v' = .tuple #[.agg #[.int .u64 (mget m at_ 4), .bool false, .slice none 0 0], .int .i64 0] ∧ H' = row bb 0 [.slice (some ⟨wb, 0, none⟩) m.length m.length, .int .i64 cnt'] :: row wb 0 (wcells m) :: F := by
  refine spec_of_body Tryz.func113 rfl Tryz.ntmps113 rfl ?_
  refine Cr ?_
  refine Ro rfl (ot_box rfl rfl (rfl : _ = [_, _, _, _, _, _])) ?_
  rintro _ _ ⟨b1, rfl, rfl⟩
  refine Ro rfl (ot_alloc rfl Tryz.zeroValue31 (rfl : _ = [_, _, _])) ?_
  rintro _ _ ⟨b2, rfl, rfl⟩
  refine Rp rfl (pv_assign rfl) ?_
  refine Kn3 0 3 4 rfl ?_
  refine ct_seq ?_
  refine ct_seq ?_
  refine ct_planH [.q 0, .q 1, .q 2, .b 3, .q 4] mixed (by decide +kernel) ?_
  refine pw_q rfl rfl rfl rfl (oq_pv (pv_move rfl)) ?_
  refine pw_q rfl rfl rfl rfl (oq_call_of (cs := [_, _]) rfl Tryz.call148 (vs := [_]) rfl (Pick.cons Z2 (Pick.cons Z2 (Pick.nil))) (fun F => bsize_read _ _ _ _ _ hm F)) ?_
  refine pw_q rfl rfl rfl rfl (oq_loadAgg (us := [_, _, _, _, _, _]) rfl rfl Tryz.isAgg36 Tryz.sizeOf36 Z1 (by rfl) (by rfl) (by rfl)) ?_
  refine pwb_call rfl rfl rfl rfl Tryz.call147 (vs := [_, _]) rfl Tryz.func147 rfl Tryz.ntmps147 rfl rfl ?_
  refine Cr ?_
  refine Ro rfl (ot_box rfl rfl (rfl : _ = [_, _, _, _, _, _])) ?_
  rintro _ _ ⟨b3, rfl, rfl⟩
  refine Rp rfl (pv_assign rfl) ?_
  refine Kn2 0 3 rfl ?_
  refine ct_seq ?_
  refine ct_block ?_
  refine Cr ?_
  refine Rq rfl (oq_loadAgg (us := [_, _, _, _, _, _]) rfl rfl Tryz.isAgg36 Tryz.sizeOf36 Z0 (by rfl) (by rfl) (by rfl)) ?_
  refine rl_call rfl rfl (by decide) Tryz.call168 (vs := [_]) rfl Tryz.func168 rfl Tryz.ntmps168 rfl rfl ?_
  refine Cr ?_
  refine Ro rfl (ot_box rfl rfl (rfl : _ = [_, _, _, _, _, _])) ?_
  rintro _ _ ⟨b4, rfl, rfl⟩
  refine Rp rfl (pv_assign rfl) ?_
  refine Kn1 1 rfl ?_
  refine ct_seq ?_
  refine Cr ?_
  refine Rp rfl (pv_fieldAddr (k := 0) rfl Tryz.runUnderlying36 rfl Tryz.sizeOf3 rfl rfl) ?_
  refine Rq rfl (oq_load rfl rfl Tryz.isAgg3 Z0 (by rfl) (by rfl)) ?_
  refine Kn2 1 4 rfl ?_
  refine ct_block ?_
  refine ct_seq ?_
  refine Cr ?_
  refine Rp rfl (pv_bin (v := .bool false) rfl rfl (by rfl)) ?_
  refine Rp rfl (pv_assign rfl) ?_
  refine Kn3 1 4 5 rfl ?_
  refine ct_false rfl ?_
  refine Cr ?_
  refine Rp rfl (pv_bin (v := .bool false) rfl rfl (by rfl)) ?_
  refine Rp rfl (pv_assign rfl) ?_
  refine Kn3 1 4 5 rfl ?_
  refine ct_false rfl ?_
  refine ct_region ?_
  refine Rp rfl (pv_bin (v := .bool true) rfl rfl (by rfl)) ?_
  refine Rp rfl (pv_assign rfl) ?_
  refine Kn3 1 4 5 rfl ?_
  refine ct_true rfl ?_
  refine Cr ?_
  refine Rp rfl (pv_fieldAddr (k := 2) rfl Tryz.runUnderlying36 rfl Tryz.sizeOf3 rfl rfl) ?_
  refine Rq rfl (oq_load rfl rfl Tryz.isAgg3 Z0 (by rfl) (by rfl)) ?_
  refine Rp rfl (pv_bin (v := .bool true) rfl rfl (by rfl)) ?_
  refine Rp rfl (pv_move rfl) ?_
  refine rl_u rfl rfl (by decide) ?_
  refine rl_u rfl rfl (by decide) ?_
  refine rl_u rfl rfl (by decide) ?_
  refine Rp rfl (pv_pick1 rfl rfl) ?_
  refine Rp rfl (pv_assign rfl) ?_
  refine Kn1 2 rfl ?_
  refine ct_ret ?_
  refine xt_ret_block ?_
  refine xt_ret_then ?_
  refine fin_ret1 (RVs.tmp rfl (RVs.nil)) Tryz.results168 ?_ Sees.refl
  refine Rp rfl (pv_not rfl) ?_
  refine Rp rfl (pv_assign rfl) ?_
  refine Kn3 0 3 5 rfl ?_
  refine ct_false rfl ?_
  refine Cr ?_
  refine Rp rfl (pv_fieldAddr (k := 1) rfl Tryz.runUnderlying36 rfl Tryz.sizeOf3 rfl rfl) ?_
  refine Rq rfl (oq_load rfl rfl Tryz.isAgg3 Z1 (by rfl) (by rfl)) ?_
  refine Rp rfl (pv_bin rfl rfl rfl) ?_
  refine Rp rfl (pv_move rfl) ?_
  refine rl_split_d (fun hz5 => absurd hz5 (by omega)) (fun _ => ?_)
  refine Ru rfl (pv_fieldAddr (k := 1) rfl Tryz.runUnderlying36 rfl Tryz.sizeOf3 rfl rfl) ?_
  refine Rv rfl (oq_load rfl rfl Tryz.isAgg3 Z1 (by rfl) (by rfl)) ?_
  refine Ru rfl (pv_move rfl) ?_
  refine Ru rfl (pv_bin rfl rfl rfl) ?_
  refine Rp rfl (pv_pick0 rfl rfl) ?_
  refine Rp rfl (pv_move rfl) ?_
  refine rl_split_d (fun hz6 => absurd hz6 (by omega)) (fun _ => ?_)
  refine Ru rfl (pv_fieldAddr (k := 2) rfl Tryz.runUnderlying36 rfl Tryz.sizeOf3 rfl rfl) ?_
  refine Rv rfl (oq_load rfl rfl Tryz.isAgg3 Z1 (by rfl) (by rfl)) ?_
  refine Ru rfl (pv_move rfl) ?_
  refine Ru rfl (pv_fieldAddr (k := 1) rfl Tryz.runUnderlying36 rfl Tryz.sizeOf3 rfl rfl) ?_
  refine Rv rfl (oq_load rfl rfl Tryz.isAgg3 Z1 (by rfl) (by rfl)) ?_
  refine Ru rfl (pv_bin rfl rfl rfl) ?_
  refine Ru rfl (pv_bin rfl rfl rfl) ?_
  refine Rp rfl (pv_pick0 rfl rfl) ?_
  refine Rp rfl (pv_assign rfl) ?_
  refine Kn2 3 9 rfl ?_
  refine ct_cond_d rfl (fun hz7 => absurd hz7 (by rw [sub_in h0 (by omega) (by omega)]; omega)) (fun _ => ?_)
  refine Cr ?_
  refine Rp rfl (pv_fieldAddr (k := 0) rfl Tryz.runUnderlying36 rfl Tryz.sizeOf3 rfl rfl) ?_
  refine Rq rfl (oq_load rfl rfl Tryz.isAgg3 Z1 (by rfl) (by rfl)) ?_
  refine Rp rfl (pv_bin (v := .bool true) rfl rfl (by rfl)) ?_
  refine Rp rfl (pv_move rfl) ?_
  refine Ru rfl (pv_fieldAddr (k := 1) rfl Tryz.runUnderlying36 rfl Tryz.sizeOf3 rfl rfl) ?_
  refine Rv rfl (oq_load rfl rfl Tryz.isAgg3 Z1 (by rfl) (by rfl)) ?_
  refine Ru rfl (pv_fieldAddr (k := 2) rfl Tryz.runUnderlying36 rfl Tryz.sizeOf3 rfl rfl) ?_
  refine Rv rfl (oq_load rfl rfl Tryz.isAgg3 Z1 (by rfl) (by rfl)) ?_
  refine Ru rfl (pv_rem rfl rfl (by decide)) ?_
  refine Ru rfl (pv_bin rfl rfl rfl) ?_
  refine Rp rfl (pv_pick1 rfl rfl) ?_
  refine Rp rfl (pv_assign rfl) ?_
  refine Kn1 28 rfl ?_
  refine ct_cond_n rfl (fun hz8 => absurd h8 hz8) (fun _ => ?_)
  refine ct_skip ?_
  refine xt_normal_block ?_
  refine xt_then ?_
  refine CT.weaken (E' := []) (Knows.nil) Sees.refl ?_
  refine Cr ?_
  refine Rp rfl (pv_assign rfl) ?_
  refine Kn1 4 rfl ?_
  refine ct_ret ?_
  refine fin_ret1 (RVs.tmp rfl (RVs.nil)) Tryz.results147 ?_ Sees.refl
  refine pw_q rfl rfl rfl rfl (oq_pv (pv_assign rfl)) ?_
  refine pw_done ?_
  refine Kx4 0 3 4 6 rfl ?_
  refine Cr ?_
  refine Rp rfl (pv_move rfl) ?_
  refine Rp rfl (pv_bin (v := .bool false) rfl rfl (by rfl)) ?_
  refine Kn5 0 3 4 6 15 rfl ?_
  refine ct_false rfl ?_
  refine ct_skip ?_
  refine Kx3 0 3 4 rfl ?_
  refine ct_seq ?_
  refine Cr ?_
  refine Rp rfl (pv_move rfl) ?_
  refine Rp rfl (pv_eql rfl rfl Tryz.runUnderlying53 rfl) ?_
  refine Kn4 0 3 4 19 rfl ?_
  refine ct_false rfl ?_
  refine ct_skip ?_
  refine Kx3 0 3 4 rfl ?_
  refine Cr ?_
  refine Rp rfl (pv_move rfl) ?_
  refine Rp rfl (pv_nilCheck rfl) ?_
  refine Rp rfl (pv_fieldAddr (k := 1) rfl Tryz.runUnderlying110 rfl Tryz.sizeOf108 rfl rfl) ?_
  refine rl_call rfl rfl (by decide) Tryz.call149 (vs := [_, _]) rfl Tryz.func149 rfl Tryz.ntmps149 rfl rfl ?_
  refine Cr ?_
  refine Rp rfl (pv_assign rfl) ?_
  refine Kn2 0 1 rfl ?_
  refine Cr ?_
  refine Rp rfl (pv_move rfl) ?_
  refine Rp rfl (pv_nilCheck rfl) ?_
  refine Rp rfl (pv_fieldAddr (k := 1) rfl Tryz.runUnderlying108 rfl Tryz.sizeOf2 rfl rfl) ?_
  refine Rp rfl (pv_move rfl) ?_
  refine Ro rfl (ot_atomAdd rfl extAddI rfl Z4 rfl (by rfl) (by exact (rfl : _ = [_, _]))) ?_
  rintro _ _ ⟨rfl, rfl⟩
  refine Rp rfl (pv_assign rfl) ?_
  refine Kn1 4 rfl ?_
  refine ct_ret ?_
  refine fin_ret1 (RVs.tmp rfl (RVs.nil)) Tryz.results149 ?_ Sees.refl
  refine Kn3 0 3 4 rfl ?_
  refine ct_seq ?_
  refine Cr ?_
  refine Rp rfl (pv_fieldAddr (k := 0) rfl Tryz.runUnderlying36 rfl Tryz.sizeOf3 rfl rfl) ?_
  refine Rq rfl (oq_load rfl rfl Tryz.isAgg3 Z4 (by rfl) (by rfl)) ?_
  refine Kn4 0 3 4 26 rfl ?_
  refine ct_block ?_
  refine Cr ?_
  refine Rp rfl (pv_bin (v := .bool false) rfl rfl (by rfl)) ?_
  refine Rp rfl (pv_assign rfl) ?_
  refine Kn5 0 3 4 26 27 rfl ?_
  refine ct_false rfl ?_
  refine Cr ?_
  refine Rp rfl (pv_bin (v := .bool false) rfl rfl (by rfl)) ?_
  refine Rp rfl (pv_assign rfl) ?_
  refine Kn4 0 3 4 37 rfl ?_
  refine ct_false rfl ?_
  refine ct_skip ?_
  refine xt_normal_block ?_
  refine Kx3 0 3 4 rfl ?_
  refine Cr ?_
  refine Rp rfl (pv_move rfl) ?_
  refine Rp rfl (pv_fieldAddr (k := 1) rfl Tryz.runUnderlying36 rfl Tryz.sizeOf3 rfl rfl) ?_
  refine Rq rfl (oq_load rfl rfl Tryz.isAgg3 Z4 (by rfl) (by rfl)) ?_
  refine Rp rfl (pv_fieldAddr (k := 2) rfl Tryz.runUnderlying36 rfl Tryz.sizeOf3 rfl rfl) ?_
  refine Rq rfl (oq_load rfl rfl Tryz.isAgg3 Z4 (by rfl) (by rfl)) ?_
  refine rl_call rfl rfl (by decide) Tryz.call151 (vs := [_, _, _]) rfl Tryz.func151 rfl Tryz.ntmps151 rfl rfl ?_
  refine Cr ?_
  refine Ro rfl (ot_alloc rfl Tryz.zeroValue232 (rfl : _ = [_, _, _])) ?_
  rintro _ _ ⟨b9, rfl, rfl⟩
  refine Kn4 0 1 2 6 rfl ?_
  refine Cr ?_
  refine Rp rfl (pv_assign rfl) ?_
  refine Kn5 0 1 2 6 7 rfl ?_
  refine ct_seq ?_
  refine Cr ?_
  refine Rp rfl (pv_move rfl) ?_
  refine Rp rfl (pv_bin (v := .bool true) rfl rfl (by rfl)) ?_
  refine Kn6 0 1 2 6 7 9 rfl ?_
  refine ct_true rfl ?_
  refine ct_region ?_
  refine Rp rfl (pv_move rfl) ?_
  refine Rp rfl (pv_convert_to (v := 4) rfl Tryz.runUnderlying3 Tryz.runUnderlying192 (by rfl)) ?_
  refine Rp rfl (pv_bin (v := .int .u64 32) rfl rfl (by rfl)) ?_
  refine Rp rfl (pv_shl_to (v := 4294967296) rfl rfl (by decide) (by rfl)) ?_
  refine Rp rfl (pv_bin (v := .int .u64 4294967295) rfl rfl (by rfl)) ?_
  refine Rp rfl (pv_assign rfl) ?_
  refine Kn4 0 1 6 7 rfl ?_
  refine Cr ?_
  refine Rp rfl (pv_move rfl) ?_
  refine Rp rfl (pv_nilCheck rfl) ?_
  refine Rp rfl (pv_fieldAddr (k := 0) rfl Tryz.runUnderlying110 rfl Tryz.sizeOf103 rfl rfl) ?_
  refine Rq rfl (oq_load rfl rfl Tryz.isAgg103 Z1 (by rfl) (by rfl)) ?_
  refine Rp rfl (pv_move rfl) ?_
  refine Rp rfl (pv_quo rfl rfl (by decide)) ?_
  refine Rp rfl (pv_indexAddr1 (j := bix at_) rfl rfl Tryz.runUnderlying103 Tryz.sizeOf149 (bix_eq h0 (by omega)) (by simpa using (bix_lt h0 (n := 4) (by omega) h1))) ?_
  refine Rp rfl (pv_move rfl) ?_
  refine Rp rfl (pv_rem rfl rfl (by decide)) ?_
  refine Rp rfl (pv_convert rfl Tryz.runUnderlying3 Tryz.runUnderlying192) ?_
  refine Rp rfl (pv_bin rfl rfl rfl) ?_
  refine Rp rfl (pv_move rfl) ?_
  refine Rp rfl (pv_build (ps := [(0, _), (1, _), (2, _)]) (cs := [_, _, _]) rfl Tryz.zeroValue232 Tryz.runUnderlying232 (.cons Tryz.sizeOf195 (.cons Tryz.sizeOf192 (.cons Tryz.sizeOf28 (.nil)))) rfl) ?_
  refine rl_op0 rfl rfl (ot_store rfl rfl rfl Tryz.sizeOf232 Z0 (rfl : _ = [_, _, _]) rfl (by rfl) (by rfl) (by first | rfl | assumption) (by exact (rfl : _ = [_, _, _]))) ?_
  rintro _ _ rfl
  refine Kn1 6 rfl ?_
  refine ct_ret ?_
  refine fin_ret1 (RVs.agg (us := [_, _, _]) rfl Tryz.isAgg232 Tryz.sizeOf232 Z0 (by rfl) (by rfl) (by rfl) (RVs.nil)) Tryz.results151 ?_ Sees.refl
  refine Ro rfl (ot_alloc rfl Tryz.zeroValue232 (rfl : _ = [_, _, _])) ?_
  rintro _ _ ⟨b10, rfl, rfl⟩
  refine rl_op0 rfl rfl (ot_store rfl rfl rfl Tryz.sizeOf232 Z0 (rfl : _ = [_, _, _]) rfl (by rfl) (by rfl) (by first | rfl | assumption) (by exact (rfl : _ = [_, _, _]))) ?_
  rintro _ _ rfl
  refine Kn3 3 4 9 rfl ?_
  refine ct_seq ?_
  refine Cr ?_
  refine Rp rfl (pv_fieldAddr (k := 0) rfl Tryz.runUnderlying36 rfl Tryz.sizeOf3 rfl rfl) ?_
  refine Rq rfl (oq_load rfl rfl Tryz.isAgg3 Z6 (by rfl) (by rfl)) ?_
  refine Kn4 3 4 9 65 rfl ?_
  refine ct_block ?_
  refine Cr ?_
  refine Rp rfl (pv_bin (v := .bool false) rfl rfl (by rfl)) ?_
  refine Rp rfl (pv_assign rfl) ?_
  refine Kn5 3 4 9 65 66 rfl ?_
  refine ct_false rfl ?_
  refine Cr ?_
  refine Rp rfl (pv_bin (v := .bool false) rfl rfl (by rfl)) ?_
  refine Rp rfl (pv_assign rfl) ?_
  refine Kn5 3 4 9 65 71 rfl ?_
  refine ct_false rfl ?_
  refine Cr ?_
  refine Rp rfl (pv_bin (v := .bool false) rfl rfl (by rfl)) ?_
  refine Rp rfl (pv_assign rfl) ?_
  refine Kn5 3 4 9 65 77 rfl ?_
  refine ct_false rfl ?_
  refine Cr ?_
  refine Rp rfl (pv_bin (v := .bool true) rfl rfl (by rfl)) ?_
  refine Rp rfl (pv_assign rfl) ?_
  refine Kn4 3 4 9 88 rfl ?_
  refine ct_true rfl ?_
  refine ct_region ?_
  refine Rq rfl (oq_loadAgg (us := [_, _, _]) rfl rfl Tryz.isAgg232 Tryz.sizeOf232 Z0 (by rfl) (by rfl) (by rfl)) ?_
  refine Rp rfl (pv_fieldAddr (k := 3) rfl Tryz.runUnderlying36 rfl Tryz.sizeOf28 rfl rfl) ?_
  refine Rq rfl (oq_load rfl rfl Tryz.isAgg28 Z6 (by rfl) (by rfl)) ?_
  refine Rp rfl (pv_fieldAddr (k := 4) rfl Tryz.runUnderlying36 rfl Tryz.sizeOf28 rfl rfl) ?_
  refine Rq rfl (oq_load rfl rfl Tryz.isAgg28 Z6 (by rfl) (by rfl)) ?_
  refine rl_call rfl rfl (by decide) Tryz.call155 (vs := [_, _, _]) rfl Tryz.func155 rfl Tryz.ntmps155 rfl rfl ?_
  refine Cr ?_
  refine Ro rfl (ot_box rfl rfl (rfl : _ = [_, _, _])) ?_
  rintro _ _ ⟨b11, rfl, rfl⟩
  refine Rp rfl (pv_assign rfl) ?_
  refine Rp rfl (pv_assign rfl) ?_
  refine Kn3 1 2 3 rfl ?_
  refine ct_block ?_
  refine ct_loop (α := Unit) (fun _ => [(1, _), (2, _), (3, _)]) (fun _ => _) (fun _ => 0) () (Knows.cons rfl (Knows.cons rfl (Knows.cons rfl (Knows.nil)))) Sees.refl ?_
  intro _
  refine ct_block ?_
  refine Cr ?_
  refine Rp rfl (pv_fieldAddr (k := 0) rfl Tryz.runUnderlying232 rfl Tryz.sizeOf195 rfl rfl) ?_
  refine Rq rfl (oq_load rfl rfl Tryz.isAgg195 Z0 (by rfl) (by rfl)) ?_
  refine rl_call rfl rfl (by decide) Tryz.call54 (vs := [_]) rfl Tryz.func54 rfl Tryz.ntmps54 rfl rfl ?_
  refine Cr ?_
  refine Rp rfl (pv_assign rfl) ?_
  refine Kn1 0 rfl ?_
  refine Cr ?_
  refine Rp rfl (pv_move rfl) ?_
  refine Rp rfl (pv_nilCheck rfl) ?_
  refine Rp rfl (pv_fieldAddr (k := bix at_) rfl Tryz.runUnderlying149 rfl Tryz.sizeOf28 rfl rfl) ?_
  refine Rq rfl (oq_atomLoad rfl extLoad rfl Z8 (Nat.zero_le_ble) (wget_sub (bix_lt h0 (n := 4) (by omega) h1))) ?_
  refine Rp rfl (pv_assign rfl) ?_
  refine Kn1 2 rfl ?_
  refine ct_ret ?_
  refine fin_ret1 (RVs.tmp rfl (RVs.nil)) Tryz.results54 ?_ Sees.refl
  refine Rp rfl (pv_assign rfl) ?_
  refine Kn4 1 2 3 8 rfl ?_
  refine Cr ?_
  refine Rp rfl (pv_move rfl) ?_
  refine Rp rfl (pv_fieldAddr (k := 1) rfl Tryz.runUnderlying232 rfl Tryz.sizeOf192 rfl rfl) ?_
  refine Rq rfl (oq_load rfl rfl Tryz.isAgg192 Z0 (by rfl) (by rfl)) ?_
  refine Rp rfl (pv_shr rfl rfl (inK_wrap .u64 _).1) ?_
  refine Rp rfl (pv_fieldAddr (k := 2) rfl Tryz.runUnderlying232 rfl Tryz.sizeOf28 rfl rfl) ?_
  refine Rq rfl (oq_load rfl rfl Tryz.isAgg28 Z0 (by rfl) (by rfl)) ?_
  refine Rp rfl (pv_bin rfl rfl rfl) ?_
  refine Rp rfl (pv_assign rfl) ?_
  refine Kn5 1 2 3 8 9 rfl ?_
  refine ct_seq ?_
  refine Cr ?_
  refine Rp rfl (pv_move rfl) ?_
  refine Rp rfl (pv_move rfl) ?_
  refine Rp rfl (pv_fieldAddr (k := 2) rfl Tryz.runUnderlying232 rfl Tryz.sizeOf28 rfl rfl) ?_
  refine Rq rfl (oq_load rfl rfl Tryz.isAgg28 Z0 (by rfl) (by rfl)) ?_
  refine Rp rfl (pv_bin rfl rfl rfl) ?_
  refine Rp rfl (pv_bin rfl rfl rfl) ?_
  refine Kn6 1 2 3 8 9 25 rfl ?_
  refine ct_cond_n rfl (fun _ => ?_) (fun hz12 => absurd hz12 hc)
  refine Cr ?_
  refine Rp rfl (pv_move rfl) ?_
  refine Rp rfl (pv_assign rfl) ?_
  refine Rp rfl (pv_assign rfl) ?_
  refine Kn2 6 7 rfl ?_
  refine ct_ret ?_
  refine xt_ret_then ?_
  refine xt_ret_block ?_
  refine xt_ret_then ?_
  refine xt_ret_block ?_
  refine fin_ret (RVs.tmp rfl (RVs.tmp rfl (RVs.nil))) Tryz.results155 ?_ Sees.refl
  refine Rp rfl (pv_move rfl) ?_
  refine Rp rfl (pv_extract rfl rfl) ?_
  refine Rp rfl (pv_extract rfl rfl) ?_
  refine Rp rfl (pv_fieldAddr (k := 0) rfl Tryz.runUnderlying31 rfl Tryz.sizeOf28 rfl rfl) ?_
  refine rl_op0 rfl rfl (ot_store rfl rfl rfl Tryz.sizeOf28 Z6 (rfl : _ = [_]) rfl (by rfl) (by rfl) (by first | rfl | assumption) (by exact (rfl : _ = [_, _, _]))) ?_
  rintro _ _ rfl
  refine Rp rfl (pv_fieldAddr (k := 1) rfl Tryz.runUnderlying31 rfl Tryz.sizeOf4 rfl rfl) ?_
  refine rl_op0 rfl rfl (ot_store rfl rfl rfl Tryz.sizeOf4 Z0 (rfl : _ = [_]) rfl (by rfl) (by rfl) (by first | rfl | assumption) (by exact (rfl : _ = [_, _, _]))) ?_
  rintro _ _ rfl
  refine rl_nil ?_
  refine xt_normal_block ?_
  refine Kx1 4 rfl ?_
  refine Cr ?_
  refine Rq rfl (oq_loadAgg (us := [_, _, _]) rfl rfl Tryz.isAgg31 Tryz.sizeOf31 Z0 (by rfl) (by rfl) (by rfl)) ?_
  refine rl_op0 rfl rfl (ot_store rfl rfl rfl Tryz.sizeOf31 Z0 (rfl : _ = [_, _, _]) rfl (by rfl) (by rfl) (by first | rfl | assumption) (by exact (rfl : _ = [_, _, _]))) ?_
  rintro _ _ rfl
  refine Rp rfl (pv_assign rfl) ?_
  refine Kn2 4 5 rfl ?_
  refine ct_ret ?_
  exact fin_ret (RVs.agg (us := [_, _, _]) rfl Tryz.isAgg31 Tryz.sizeOf31 Z0 (by rfl) (by rfl) (by rfl) (RVs.tmp rfl (RVs.nil))) Tryz.results113 ⟨_, rfl, rfl⟩ (Sees.cons Z4 (Sees.cons Z7 (Sees.skip (Sees.skip (Sees.skip (Sees.skip (Sees.skip (Sees.skip (Sees.skip (Sees.refl))))))))))
theorem do_add (ω : World) (bb wb : Nat) (m : List Int) (cnt at_ v u : Int) (p : Option Addr) (pn pc : Nat) (hm : m.length ≤ 16384) (h0 : 0 ≤ at_) (h8 : at_.tmod 8 = 0) (h1 : at_ + 8 ≤ 8 * (m.length : Int)) (F : List HP) : Spec ω Tryz.prog 113 #[.pointer (some ⟨bb, 0, none⟩), .agg #[.int .i64 3, .int .i64 at_, .int .i64 8, .int .u64 v, .int .u64 u, .slice p pn pc]] (row bb 0 [.slice (some ⟨wb, 0, none⟩) m.length m.length, .int .i64 cnt] :: row wb 0 (wcells m) :: F) fun v' H' => ∃ cnt', v' = .tuple #[.agg #[.int .u64 (IntKind.u64.wrap (IntKind.u64.wrap (wat m (bix at_) + v) - v)), .bool false, .slice none 0 0], .int .i64 0] ∧ H' = row bb 0 [.slice (some ⟨wb, 0, none⟩) m.length m.length, .int .i64 cnt'] :: row wb 0 (wcells (wput m (bix at_) (IntKind.u64.wrap (wat m (bix at_) + v)))) :: F := by
  refine spec_of_body Tryz.func113 rfl Tryz.ntmps113 rfl ?_
  refine Cr ?_
  refine Ro rfl (ot_box rfl rfl (rfl : _ = [_, _, _, _, _, _])) ?_
  rintro _ _ ⟨b1, rfl, rfl⟩
  refine Ro rfl (ot_alloc rfl Tryz.zeroValue31 (rfl : _ = [_, _, _])) ?_
  rintro _ _ ⟨b2, rfl, rfl⟩
  refine Rp rfl (pv_assign rfl) ?_
  refine Kn3 0 3 4 rfl ?_
  refine ct_seq ?_
  refine ct_seq ?_
  refine ct_planH [.q 0, .q 1, .q 2, .b 3, .q 4] mixed (by decide +kernel) ?_
  refine pw_q rfl rfl rfl rfl (oq_pv (pv_move rfl)) ?_
  refine pw_q rfl rfl rfl rfl (oq_call_of (cs := [_, _]) rfl Tryz.call148 (vs := [_]) rfl (Pick.cons Z2 (Pick.cons Z2 (Pick.nil))) (fun F => bsize_read _ _ _ _ _ hm F)) ?_
  refine pw_q rfl rfl rfl rfl (oq_loadAgg (us := [_, _, _, _, _, _]) rfl rfl Tryz.isAgg36 Tryz.sizeOf36 Z1 (by rfl) (by rfl) (by rfl)) ?_
  refine pwb_call rfl rfl rfl rfl Tryz.call147 (vs := [_, _]) rfl Tryz.func147 rfl Tryz.ntmps147 rfl rfl ?_
  refine Cr ?_
  refine Ro rfl (ot_box rfl rfl (rfl : _ = [_, _, _, _, _, _])) ?_
  rintro _ _ ⟨b3, rfl, rfl⟩
  refine Rp rfl (pv_assign rfl) ?_
  refine Kn2 0 3 rfl ?_
  refine ct_seq ?_
  refine ct_block ?_
  refine Cr ?_
  refine Rq rfl (oq_loadAgg (us := [_, _, _, _, _, _]) rfl rfl Tryz.isAgg36 Tryz.sizeOf36 Z0 (by rfl) (by rfl) (by rfl)) ?_
  refine rl_call rfl rfl (by decide) Tryz.call168 (vs := [_]) rfl Tryz.func168 rfl Tryz.ntmps168 rfl rfl ?_
  refine Cr ?_
  refine Ro rfl (ot_box rfl rfl (rfl : _ = [_, _, _, _, _, _])) ?_
  rintro _ _ ⟨b4, rfl, rfl⟩
  refine Rp rfl (pv_assign rfl) ?_
  refine Kn1 1 rfl ?_
  refine ct_seq ?_
  refine Cr ?_
  refine Rp rfl (pv_fieldAddr (k := 0) rfl Tryz.runUnderlying36 rfl Tryz.sizeOf3 rfl rfl) ?_
  refine Rq rfl (oq_load rfl rfl Tryz.isAgg3 Z0 (by rfl) (by rfl)) ?_
  refine Kn2 1 4 rfl ?_
  refine ct_block ?_
  refine ct_seq ?_
  refine Cr ?_
  refine Rp rfl (pv_bin (v := .bool false) rfl rfl (by rfl)) ?_
  refine Rp rfl (pv_assign rfl) ?_
  refine Kn3 1 4 5 rfl ?_
  refine ct_false rfl ?_
  refine Cr ?_
  refine Rp rfl (pv_bin (v := .bool false) rfl rfl (by rfl)) ?_
  refine Rp rfl (pv_assign rfl) ?_
  refine Kn3 1 4 5 rfl ?_
  refine ct_false rfl ?_
  refine ct_region ?_
  refine Rp rfl (pv_bin (v := .bool false) rfl rfl (by rfl)) ?_
  refine Rp rfl (pv_assign rfl) ?_
  refine Kn3 1 4 5 rfl ?_
  refine ct_false rfl ?_
  refine Cr ?_
  refine Rp rfl (pv_bin (v := .bool true) rfl rfl (by rfl)) ?_
  refine Rp rfl (pv_assign rfl) ?_
  refine Kn3 1 4 17 rfl ?_
  refine ct_true rfl ?_
  refine Cr ?_
  refine Rp rfl (pv_fieldAddr (k := 2) rfl Tryz.runUnderlying36 rfl Tryz.sizeOf3 rfl rfl) ?_
  refine Rq rfl (oq_load rfl rfl Tryz.isAgg3 Z0 (by rfl) (by rfl)) ?_
  refine Rp rfl (pv_bin (v := .bool true) rfl rfl (by rfl)) ?_
  refine Rp rfl (pv_assign rfl) ?_
  refine Kn1 2 rfl ?_
  refine ct_ret ?_
  refine xt_ret_block ?_
  refine xt_ret_then ?_
  refine fin_ret1 (RVs.tmp rfl (RVs.nil)) Tryz.results168 ?_ Sees.refl
  refine Rp rfl (pv_not rfl) ?_
  refine Rp rfl (pv_assign rfl) ?_
  refine Kn3 0 3 5 rfl ?_
  refine ct_false rfl ?_
  refine Cr ?_
  refine Rp rfl (pv_fieldAddr (k := 1) rfl Tryz.runUnderlying36 rfl Tryz.sizeOf3 rfl rfl) ?_
  refine Rq rfl (oq_load rfl rfl Tryz.isAgg3 Z1 (by rfl) (by rfl)) ?_
  refine Rp rfl (pv_bin rfl rfl rfl) ?_
  refine Rp rfl (pv_move rfl) ?_
  refine rl_split_d (fun hz5 => absurd hz5 (by omega)) (fun _ => ?_)
  refine Ru rfl (pv_fieldAddr (k := 1) rfl Tryz.runUnderlying36 rfl Tryz.sizeOf3 rfl rfl) ?_
  refine Rv rfl (oq_load rfl rfl Tryz.isAgg3 Z1 (by rfl) (by rfl)) ?_
  refine Ru rfl (pv_move rfl) ?_
  refine Ru rfl (pv_bin rfl rfl rfl) ?_
  refine Rp rfl (pv_pick0 rfl rfl) ?_
  refine Rp rfl (pv_move rfl) ?_
  refine rl_split_d (fun hz6 => absurd hz6 (by omega)) (fun _ => ?_)
  refine Ru rfl (pv_fieldAddr (k := 2) rfl Tryz.runUnderlying36 rfl Tryz.sizeOf3 rfl rfl) ?_
  refine Rv rfl (oq_load rfl rfl Tryz.isAgg3 Z1 (by rfl) (by rfl)) ?_
  refine Ru rfl (pv_move rfl) ?_
  refine Ru rfl (pv_fieldAddr (k := 1) rfl Tryz.runUnderlying36 rfl Tryz.sizeOf3 rfl rfl) ?_
  refine Rv rfl (oq_load rfl rfl Tryz.isAgg3 Z1 (by rfl) (by rfl)) ?_
  refine Ru rfl (pv_bin rfl rfl rfl) ?_
  refine Ru rfl (pv_bin rfl rfl rfl) ?_
  refine Rp rfl (pv_pick0 rfl rfl) ?_
  refine Rp rfl (pv_assign rfl) ?_
  refine Kn2 3 9 rfl ?_
  refine ct_cond_d rfl (fun hz7 => absurd hz7 (by rw [sub_in h0 (by omega) (by omega)]; omega)) (fun _ => ?_)
  refine Cr ?_
  refine Rp rfl (pv_fieldAddr (k := 0) rfl Tryz.runUnderlying36 rfl Tryz.sizeOf3 rfl rfl) ?_
  refine Rq rfl (oq_load rfl rfl Tryz.isAgg3 Z1 (by rfl) (by rfl)) ?_
  refine Rp rfl (pv_bin (v := .bool true) rfl rfl (by rfl)) ?_
  refine Rp rfl (pv_move rfl) ?_
  refine Ru rfl (pv_fieldAddr (k := 1) rfl Tryz.runUnderlying36 rfl Tryz.sizeOf3 rfl rfl) ?_
  refine Rv rfl (oq_load rfl rfl Tryz.isAgg3 Z1 (by rfl) (by rfl)) ?_
  refine Ru rfl (pv_fieldAddr (k := 2) rfl Tryz.runUnderlying36 rfl Tryz.sizeOf3 rfl rfl) ?_
  refine Rv rfl (oq_load rfl rfl Tryz.isAgg3 Z1 (by rfl) (by rfl)) ?_
  refine Ru rfl (pv_rem rfl rfl (by decide)) ?_
  refine Ru rfl (pv_bin rfl rfl rfl) ?_
  refine Rp rfl (pv_pick1 rfl rfl) ?_
  refine Rp rfl (pv_assign rfl) ?_
  refine Kn1 28 rfl ?_
  refine ct_cond_n rfl (fun hz8 => absurd h8 hz8) (fun _ => ?_)
  refine ct_skip ?_
  refine xt_normal_block ?_
  refine xt_then ?_
  refine CT.weaken (E' := []) (Knows.nil) Sees.refl ?_
  refine Cr ?_
  refine Rp rfl (pv_assign rfl) ?_
  refine Kn1 4 rfl ?_
  refine ct_ret ?_
  refine fin_ret1 (RVs.tmp rfl (RVs.nil)) Tryz.results147 ?_ Sees.refl
  refine pw_q rfl rfl rfl rfl (oq_pv (pv_assign rfl)) ?_
  refine pw_done ?_
  refine Kx4 0 3 4 6 rfl ?_
  refine Cr ?_
  refine Rp rfl (pv_move rfl) ?_
  refine Rp rfl (pv_bin (v := .bool false) rfl rfl (by rfl)) ?_
  refine Kn5 0 3 4 6 15 rfl ?_
  refine ct_false rfl ?_
  refine ct_skip ?_
  refine Kx3 0 3 4 rfl ?_
  refine ct_seq ?_
  refine Cr ?_
  refine Rp rfl (pv_move rfl) ?_
  refine Rp rfl (pv_eql rfl rfl Tryz.runUnderlying53 rfl) ?_
  refine Kn4 0 3 4 19 rfl ?_
  refine ct_false rfl ?_
  refine ct_skip ?_
  refine Kx3 0 3 4 rfl ?_
  refine Cr ?_
  refine Rp rfl (pv_move rfl) ?_
  refine Rp rfl (pv_nilCheck rfl) ?_
  refine Rp rfl (pv_fieldAddr (k := 1) rfl Tryz.runUnderlying110 rfl Tryz.sizeOf108 rfl rfl) ?_
  refine rl_call rfl rfl (by decide) Tryz.call149 (vs := [_, _]) rfl Tryz.func149 rfl Tryz.ntmps149 rfl rfl ?_
  refine Cr ?_
  refine Rp rfl (pv_assign rfl) ?_
  refine Kn2 0 1 rfl ?_
  refine Cr ?_
  refine Rp rfl (pv_move rfl) ?_
  refine Rp rfl (pv_nilCheck rfl) ?_
  refine Rp rfl (pv_fieldAddr (k := 1) rfl Tryz.runUnderlying108 rfl Tryz.sizeOf2 rfl rfl) ?_
  refine Rp rfl (pv_move rfl) ?_
  refine Ro rfl (ot_atomAdd rfl extAddI rfl Z4 rfl (by rfl) (by exact (rfl : _ = [_, _]))) ?_
  rintro _ _ ⟨rfl, rfl⟩
  refine Rp rfl (pv_assign rfl) ?_
  refine Kn1 4 rfl ?_
  refine ct_ret ?_
  refine fin_ret1 (RVs.tmp rfl (RVs.nil)) Tryz.results149 ?_ Sees.refl
  refine Kn3 0 3 4 rfl ?_
  refine ct_seq ?_
  refine Cr ?_
  refine Rp rfl (pv_fieldAddr (k := 0) rfl Tryz.runUnderlying36 rfl Tryz.sizeOf3 rfl rfl) ?_
  refine Rq rfl (oq_load rfl rfl Tryz.isAgg3 Z4 (by rfl) (by rfl)) ?_
  refine Kn4 0 3 4 26 rfl ?_
  refine ct_block ?_
  refine Cr ?_
  refine Rp rfl (pv_bin (v := .bool false) rfl rfl (by rfl)) ?_
  refine Rp rfl (pv_assign rfl) ?_
  refine Kn5 0 3 4 26 27 rfl ?_
  refine ct_false rfl ?_
  refine Cr ?_
  refine Rp rfl (pv_bin (v := .bool false) rfl rfl (by rfl)) ?_
  refine Rp rfl (pv_assign rfl) ?_
  refine Kn4 0 3 4 37 rfl ?_
  refine ct_false rfl ?_
  refine ct_skip ?_
  refine xt_normal_block ?_
  refine Kx3 0 3 4 rfl ?_
  refine Cr ?_
  refine Rp rfl (pv_move rfl) ?_
  refine Rp rfl (pv_fieldAddr (k := 1) rfl Tryz.runUnderlying36 rfl Tryz.sizeOf3 rfl rfl) ?_
  refine Rq rfl (oq_load rfl rfl Tryz.isAgg3 Z4 (by rfl) (by rfl)) ?_
  refine Rp rfl (pv_fieldAddr (k := 2) rfl Tryz.runUnderlying36 rfl Tryz.sizeOf3 rfl rfl) ?_
  refine Rq rfl (oq_load rfl rfl Tryz.isAgg3 Z4 (by rfl) (by rfl)) ?_
  refine rl_call rfl rfl (by decide) Tryz.call151 (vs := [_, _, _]) rfl Tryz.func151 rfl Tryz.ntmps151 rfl rfl ?_
  refine Cr ?_
  refine Ro rfl (ot_alloc rfl Tryz.zeroValue232 (rfl : _ = [_, _, _])) ?_
  rintro _ _ ⟨b9, rfl, rfl⟩
  refine Kn4 0 1 2 6 rfl ?_
  refine Cr ?_
  refine Rp rfl (pv_assign rfl) ?_
  refine Kn5 0 1 2 6 7 rfl ?_
  refine ct_seq ?_
  refine Cr ?_
  refine Rp rfl (pv_move rfl) ?_
  refine Rp rfl (pv_bin (v := .bool false) rfl rfl (by rfl)) ?_
  refine Kn6 0 1 2 6 7 9 rfl ?_
  refine ct_false rfl ?_
  refine ct_skip ?_
  refine Kx4 0 1 6 7 rfl ?_
  refine Cr ?_
  refine Rp rfl (pv_move rfl) ?_
  refine Rp rfl (pv_nilCheck rfl) ?_
  refine Rp rfl (pv_fieldAddr (k := 0) rfl Tryz.runUnderlying110 rfl Tryz.sizeOf103 rfl rfl) ?_
  refine Rq rfl (oq_load rfl rfl Tryz.isAgg103 Z1 (by rfl) (by rfl)) ?_
  refine Rp rfl (pv_move rfl) ?_
  refine Rp rfl (pv_quo rfl rfl (by decide)) ?_
  refine Rp rfl (pv_indexAddr1 (j := bix at_) rfl rfl Tryz.runUnderlying103 Tryz.sizeOf149 (bix_eq h0 (by omega)) (by simpa using (bix_lt h0 (n := 8) (by omega) h1))) ?_
  refine Rp rfl (pv_move rfl) ?_
  refine Rp rfl (pv_rem rfl rfl (by decide)) ?_
  refine Rp rfl (pv_convert rfl Tryz.runUnderlying3 Tryz.runUnderlying192) ?_
  refine Rp rfl (pv_bin rfl rfl rfl) ?_
  refine Rp rfl (pv_move rfl) ?_
  refine Rp rfl (pv_build (ps := [(0, _), (1, _), (2, _)]) (cs := [_, _, _]) rfl Tryz.zeroValue232 Tryz.runUnderlying232 (.cons Tryz.sizeOf195 (.cons Tryz.sizeOf192 (.cons Tryz.sizeOf28 (.nil)))) rfl) ?_
  refine rl_op0 rfl rfl (ot_store rfl rfl rfl Tryz.sizeOf232 Z0 (rfl : _ = [_, _, _]) rfl (by rfl) (by rfl) (by first | rfl | assumption) (by exact (rfl : _ = [_, _, _]))) ?_
  rintro _ _ rfl
  refine Kn1 6 rfl ?_
  refine ct_ret ?_
  refine fin_ret1 (RVs.agg (us := [_, _, _]) rfl Tryz.isAgg232 Tryz.sizeOf232 Z0 (by rfl) (by rfl) (by rfl) (RVs.nil)) Tryz.results151 ?_ Sees.refl
  refine Ro rfl (ot_alloc rfl Tryz.zeroValue232 (rfl : _ = [_, _, _])) ?_
  rintro _ _ ⟨b10, rfl, rfl⟩
  refine rl_op0 rfl rfl (ot_store rfl rfl rfl Tryz.sizeOf232 Z0 (rfl : _ = [_, _, _]) rfl (by rfl) (by rfl) (by first | rfl | assumption) (by exact (rfl : _ = [_, _, _]))) ?_
  rintro _ _ rfl
  refine Kn3 3 4 9 rfl ?_
  refine ct_seq ?_
  refine Cr ?_
  refine Rp rfl (pv_fieldAddr (k := 0) rfl Tryz.runUnderlying36 rfl Tryz.sizeOf3 rfl rfl) ?_
  refine Rq rfl (oq_load rfl rfl Tryz.isAgg3 Z6 (by rfl) (by rfl)) ?_
  refine Kn4 3 4 9 65 rfl ?_
  refine ct_block ?_
  refine Cr ?_
  refine Rp rfl (pv_bin (v := .bool false) rfl rfl (by rfl)) ?_
  refine Rp rfl (pv_assign rfl) ?_
  refine Kn5 3 4 9 65 66 rfl ?_
  refine ct_false rfl ?_
  refine Cr ?_
  refine Rp rfl (pv_bin (v := .bool false) rfl rfl (by rfl)) ?_
  refine Rp rfl (pv_assign rfl) ?_
  refine Kn5 3 4 9 65 71 rfl ?_
  refine ct_false rfl ?_
  refine Cr ?_
  refine Rp rfl (pv_bin (v := .bool true) rfl rfl (by rfl)) ?_
  refine Rp rfl (pv_assign rfl) ?_
  refine Kn5 3 4 9 65 77 rfl ?_
  refine ct_true rfl ?_
  refine ct_plan [.q 0, .q 1, .q 2, .q 3, .q 5, .q 6, .e 4, .q 7, .q 8, .b 9] _ [_] mixed (by decide +kernel) (Sees.cons Z7 (Sees.cons Z0 (Sees.cons Z0 (Sees.cons Z0 (Sees.cons Z0 (Sees.cons Z0 (Sees.cons Z0 (Sees.cons Z0 (Sees.refl))))))))) ?_
  refine pw_q rfl rfl rfl rfl (oq_pv (pv_fieldAddr (k := 0) rfl Tryz.runUnderlying232 rfl Tryz.sizeOf195 rfl rfl)) ?_
  refine pw_q rfl rfl rfl rfl (oq_load rfl rfl Tryz.isAgg195 Z0 (by rfl) (by rfl)) ?_
  refine pw_q rfl rfl rfl rfl (oq_pv (pv_fieldAddr (k := 3) rfl Tryz.runUnderlying36 rfl Tryz.sizeOf28 rfl rfl)) ?_
  refine pw_q rfl rfl rfl rfl (oq_load rfl rfl Tryz.isAgg28 Z6 (by rfl) (by rfl)) ?_
  refine pw_q rfl rfl rfl rfl (oq_pv (pv_fieldAddr (k := 3) rfl Tryz.runUnderlying36 rfl Tryz.sizeOf28 rfl rfl)) ?_
  refine pw_q rfl rfl rfl rfl (oq_load rfl rfl Tryz.isAgg28 Z6 (by rfl) (by rfl)) ?_
  refine pwe_call rfl rfl rfl rfl Tryz.call154 (vs := [_, _]) rfl Tryz.func154 rfl Tryz.ntmps154 rfl rfl ?_
  refine Cr ?_
  refine Rp rfl (pv_assign rfl) ?_
  refine Kn2 0 1 rfl ?_
  refine Cr ?_
  refine Rp rfl (pv_move rfl) ?_
  refine Rp rfl (pv_nilCheck rfl) ?_
  refine Rp rfl (pv_fieldAddr (k := bix at_) rfl Tryz.runUnderlying149 rfl Tryz.sizeOf28 rfl rfl) ?_
  refine Rp rfl (pv_move rfl) ?_
  refine Ro rfl (ot_atomAdd rfl extAdd rfl Z0 (Nat.zero_le_ble) (wget_sub (bix_lt h0 (n := 8) (by omega) h1)) (wput_sub _ _ _)) ?_
  rintro _ _ ⟨rfl, rfl⟩
  refine Rp rfl (pv_assign rfl) ?_
  refine Kn1 4 rfl ?_
  refine ct_ret ?_
  refine fin_ret1 (RVs.tmp rfl (RVs.nil)) Tryz.results154 ?_ Sees.refl
  refine ⟨[_], Sees.cons Z0 (Sees.cons Z0 (Sees.cons Z0 (Sees.cons Z0 (Sees.cons Z0 (Sees.cons Z0 (Sees.cons Z0 (Sees.cons Z0 (Sees.refl)))))))), ?_⟩
  refine pw_q rfl rfl rfl rfl (oq_pv (pv_bin rfl rfl rfl)) ?_
  refine pw_q rfl rfl rfl rfl (oq_pv (pv_fieldAddr (k := 0) rfl Tryz.runUnderlying31 rfl Tryz.sizeOf28 rfl rfl)) ?_
  refine pw_b0 rfl rfl rfl (ot_store rfl rfl rfl Tryz.sizeOf28 Z6 (rfl : _ = [_]) rfl (by rfl) (by rfl) (by first | rfl | assumption) (by exact (rfl : _ = [_, _, _]))) ?_
  rintro _ _ rfl
  refine pw_done ?_
  refine xt_normal_block ?_
  refine Kx1 4 rfl ?_
  refine Cr ?_
  refine Rq rfl (oq_loadAgg (us := [_, _, _]) rfl rfl Tryz.isAgg31 Tryz.sizeOf31 Z0 (by rfl) (by rfl) (by rfl)) ?_
  refine rl_op0 rfl rfl (ot_store rfl rfl rfl Tryz.sizeOf31 Z0 (rfl : _ = [_, _, _]) rfl (by rfl) (by rfl) (by first | rfl | assumption) (by exact (rfl : _ = [_, _, _]))) ?_
  rintro _ _ rfl
  refine Rp rfl (pv_assign rfl) ?_
  refine Kn2 4 5 rfl ?_
  refine ct_ret ?_
  exact fin_ret (RVs.agg (us := [_, _, _]) rfl Tryz.isAgg31 Tryz.sizeOf31 Z0 (by rfl) (by rfl) (by rfl) (RVs.tmp rfl (RVs.nil))) Tryz.results113 ⟨_, rfl, rfl⟩ (Sees.cons Z4 (Sees.cons Z1 (Sees.skip (Sees.skip (Sees.skip (Sees.skip (Sees.skip (Sees.skip (Sees.refl)))))))))
/-- Bytes read, and written, one by one. -/
def mrd (m : List Int) (at_ : Int) (n : Nat) : List UInt8 := (List.range n).map fun (i : Nat) => UInt8.ofNat (IntKind.u8.wrap (mget m (IntKind.i64.wrap (at_ + (i : Int))) 1)).toNat
def mwr : List Int → Int → Nat → List UInt8 → List Int
  | m, _, _, [] => m
  | m, at_, i, c :: l => mwr (mput m (IntKind.i64.wrap (at_ + (i : Int))) 1 (IntKind.u64.wrap (c.toNat : Int))) at_ (i + 1) l
theorem mwr_length : ∀ (l : List UInt8) (m : List Int) (at_ : Int) (i : Nat), (mwr m at_ i l).length = m.length := by
  intro l
  induction l with
  | nil => intro m at_ i; rfl
  | cons c l ih => intro m at_ i; simp only [mwr]; rw [ih, mput_length]
@[simp] theorem mrd_length (m : List Int) (at_ : Int) (n : Nat) : (mrd m at_ n).length = n := by simp [mrd]
theorem byte_cell (x : Int) : (Value.int IntKind.u8 ((UInt8.ofNat (IntKind.u8.wrap x).toNat).toNat : Int)) = .int .u8 (IntKind.u8.wrap x) := by
  have h := inK_wrap .u8 x
  have h2 : (IntKind.u8.wrap x).toNat < 256 := by have := h.2; omega
  congr 1
  rw [UInt8.toNat_ofNat']
  have := h.1
  omega
/-- So far read. -/
def rdcs (m : List Int) (at_ : Int) (n i : Nat) : List Value := byteC (mrd m at_ i) ++ List.replicate (n - i) (.int .u8 0)
theorem rdcs_length (m : List Int) (at_ : Int) (n i : Nat) (h : i ≤ n) : (rdcs m at_ n i).length = n := by simp [rdcs]; omega
theorem rdcs_next (m : List Int) (at_ : Int) {n i : Nat} (h : i < n) : splice (rdcs m at_ n i) i [.int .u8 (IntKind.u8.wrap (mget m (IntKind.i64.wrap (at_ + (i : Int))) 1))] = rdcs m at_ n (i + 1) := by
  have e1 : rdcs m at_ n i = byteC (mrd m at_ i) ++ .int .u8 0 :: List.replicate (n - (i + 1)) (.int .u8 0) := by
    unfold rdcs
    rw [show n - i = (n - (i + 1)) + 1 from by omega, List.replicate_succ]
  have e2 : rdcs m at_ n (i + 1) = byteC (mrd m at_ i) ++ .int .u8 (IntKind.u8.wrap (mget m (IntKind.i64.wrap (at_ + (i : Int))) 1)) :: List.replicate (n - (i + 1)) (.int .u8 0) := by
    unfold rdcs mrd
    rw [List.range_succ, List.map_append, byteC_append, List.append_assoc]
    congr 1
    simp only [byteC, List.map_cons, List.map_nil, List.singleton_append]
    rw [byte_cell]
  rw [e1, e2]
  simp only [splice]
  rw [List.set_append_right _ _ (by simp)]
  simp
theorem rdcs_end (m : List Int) (at_ : Int) (n : Nat) : rdcs m at_ n n = byteC (mrd m at_ n) := by simp [rdcs]
theorem do_read (ω : World) (bb wb : Nat) (m : List Int) (cnt at_ v u : Int) (n : Nat) (p : Option Addr) (pn pc : Nat) (hm : m.length ≤ 16384) (h0 : 0 ≤ at_) (hn : n ≤ 8) (h1 : at_ + (n : Int) ≤ 8 * (m.length : Int)) (F : List HP) : Spec ω Tryz.prog 113 #[.pointer (some ⟨bb, 0, none⟩), .agg #[.int .i64 5, .int .i64 at_, .int .i64 (n : Int), .int .u64 v, .int .u64 u, .slice p pn pc]] (row bb 0 [.slice (some ⟨wb, 0, none⟩) m.length m.length, .int .i64 cnt] :: row wb 0 (wcells m) :: F) fun v' H' => ∃ cnt' q, v' = .tuple #[.agg #[.int .u64 0, .bool false, .slice (some ⟨q, 0, none⟩) n n], .int .i64 0] ∧ H' = own 1 (some ⟨q, 0, none⟩) n n (byteC (mrd m at_ n)) :: row bb 0 [.slice (some ⟨wb, 0, none⟩) m.length m.length, .int .i64 cnt'] :: row wb 0 (wcells m) :: F := by
  refine spec_of_body Tryz.func113 rfl Tryz.ntmps113 rfl ?_
  refine Cr ?_
  refine Ro rfl (ot_box rfl rfl (rfl : _ = [_, _, _, _, _, _])) ?_
  rintro _ _ ⟨b1, rfl, rfl⟩
  refine Ro rfl (ot_alloc rfl Tryz.zeroValue31 (rfl : _ = [_, _, _])) ?_
  rintro _ _ ⟨b2, rfl, rfl⟩
  refine Rp rfl (pv_assign rfl) ?_
  refine Kn3 0 3 4 rfl ?_
  refine ct_seq ?_
  refine ct_seq ?_
  refine ct_planH [.q 0, .q 1, .q 2, .b 3, .q 4] mixed (by decide +kernel) ?_
  refine pw_q rfl rfl rfl rfl (oq_pv (pv_move rfl)) ?_
  refine pw_q rfl rfl rfl rfl (oq_call_of (cs := [_, _]) rfl Tryz.call148 (vs := [_]) rfl (Pick.cons Z2 (Pick.cons Z2 (Pick.nil))) (fun F => bsize_read _ _ _ _ _ hm F)) ?_
  refine pw_q rfl rfl rfl rfl (oq_loadAgg (us := [_, _, _, _, _, _]) rfl rfl Tryz.isAgg36 Tryz.sizeOf36 Z1 (by rfl) (by rfl) (by rfl)) ?_
  refine pwb_call rfl rfl rfl rfl Tryz.call147 (vs := [_, _]) rfl Tryz.func147 rfl Tryz.ntmps147 rfl rfl ?_
  refine Cr ?_
  refine Ro rfl (ot_box rfl rfl (rfl : _ = [_, _, _, _, _, _])) ?_
  rintro _ _ ⟨b3, rfl, rfl⟩
  refine Rp rfl (pv_assign rfl) ?_
  refine Kn2 0 3 rfl ?_
  refine ct_seq ?_
  refine ct_block ?_
  refine Cr ?_
  refine Rq rfl (oq_loadAgg (us := [_, _, _, _, _, _]) rfl rfl Tryz.isAgg36 Tryz.sizeOf36 Z0 (by rfl) (by rfl) (by rfl)) ?_
  refine rl_call rfl rfl (by decide) Tryz.call168 (vs := [_]) rfl Tryz.func168 rfl Tryz.ntmps168 rfl rfl ?_
  refine Cr ?_
  refine Ro rfl (ot_box rfl rfl (rfl : _ = [_, _, _, _, _, _])) ?_
  rintro _ _ ⟨b4, rfl, rfl⟩
  refine Rp rfl (pv_assign rfl) ?_
  refine Kn1 1 rfl ?_
  refine ct_seq ?_
  refine Cr ?_
  refine Rp rfl (pv_fieldAddr (k := 0) rfl Tryz.runUnderlying36 rfl Tryz.sizeOf3 rfl rfl) ?_
  refine Rq rfl (oq_load rfl rfl Tryz.isAgg3 Z0 (by rfl) (by rfl)) ?_
  refine Kn2 1 4 rfl ?_
  refine ct_block ?_
  refine ct_seq ?_
  refine Cr ?_
  refine Rp rfl (pv_bin (v := .bool false) rfl rfl (by rfl)) ?_
  refine Rp rfl (pv_assign rfl) ?_
  refine Kn3 1 4 5 rfl ?_
  refine ct_false rfl ?_
  refine Cr ?_
  refine Rp rfl (pv_bin (v := .bool false) rfl rfl (by rfl)) ?_
  refine Rp rfl (pv_assign rfl) ?_
  refine Kn3 1 4 5 rfl ?_
  refine ct_false rfl ?_
  refine ct_region ?_
  refine Rp rfl (pv_bin (v := .bool false) rfl rfl (by rfl)) ?_
  refine Rp rfl (pv_assign rfl) ?_
  refine Kn3 1 4 5 rfl ?_
  refine ct_false rfl ?_
  refine Cr ?_
  refine Rp rfl (pv_bin (v := .bool false) rfl rfl (by rfl)) ?_
  refine Rp rfl (pv_assign rfl) ?_
  refine Kn3 1 4 17 rfl ?_
  refine ct_false rfl ?_
  refine Cr ?_
  refine Rp rfl (pv_bin (v := .bool true) rfl rfl (by rfl)) ?_
  refine Rp rfl (pv_assign rfl) ?_
  refine Kn3 1 4 22 rfl ?_
  refine ct_true rfl ?_
  refine Cr ?_
  refine Rp rfl (pv_fieldAddr (k := 2) rfl Tryz.runUnderlying36 rfl Tryz.sizeOf3 rfl rfl) ?_
  refine Rq rfl (oq_load rfl rfl Tryz.isAgg3 Z0 (by rfl) (by rfl)) ?_
  refine Rp rfl (pv_bin rfl rfl rfl) ?_
  refine Rp rfl (pv_move rfl) ?_
  refine rl_split_d (fun _ => ?_) (fun hz5 => absurd (by omega) hz5)
  refine Ru rfl (pv_fieldAddr (k := 2) rfl Tryz.runUnderlying36 rfl Tryz.sizeOf3 rfl rfl) ?_
  refine Rv rfl (oq_load rfl rfl Tryz.isAgg3 Z0 (by rfl) (by rfl)) ?_
  refine Ru rfl (pv_bin rfl rfl rfl) ?_
  refine Rp rfl (pv_pick1 rfl rfl) ?_
  refine Rp rfl (pv_assign rfl) ?_
  refine Kn1 2 rfl ?_
  refine ct_ret ?_
  refine xt_ret_block ?_
  refine xt_ret_then ?_
  refine fin_ret1 (RVs.tmp rfl (RVs.nil)) Tryz.results168 ?_ Sees.refl
  refine Rp rfl (pv_not rfl) ?_
  refine Rp rfl (pv_assign rfl) ?_
  refine Kn3 0 3 5 rfl ?_
  refine ct_cond_n rfl (fun hz6 => absurd (by omega) hz6) (fun _ => ?_)
  refine Cr ?_
  refine Rp rfl (pv_fieldAddr (k := 1) rfl Tryz.runUnderlying36 rfl Tryz.sizeOf3 rfl rfl) ?_
  refine Rq rfl (oq_load rfl rfl Tryz.isAgg3 Z1 (by rfl) (by rfl)) ?_
  refine Rp rfl (pv_bin rfl rfl rfl) ?_
  refine Rp rfl (pv_move rfl) ?_
  refine rl_split_d (fun hz7 => absurd hz7 (by omega)) (fun _ => ?_)
  refine Ru rfl (pv_fieldAddr (k := 1) rfl Tryz.runUnderlying36 rfl Tryz.sizeOf3 rfl rfl) ?_
  refine Rv rfl (oq_load rfl rfl Tryz.isAgg3 Z1 (by rfl) (by rfl)) ?_
  refine Ru rfl (pv_move rfl) ?_
  refine Ru rfl (pv_bin rfl rfl rfl) ?_
  refine Rp rfl (pv_pick0 rfl rfl) ?_
  refine Rp rfl (pv_move rfl) ?_
  refine rl_split_d (fun hz8 => absurd hz8 (by omega)) (fun _ => ?_)
  refine Ru rfl (pv_fieldAddr (k := 2) rfl Tryz.runUnderlying36 rfl Tryz.sizeOf3 rfl rfl) ?_
  refine Rv rfl (oq_load rfl rfl Tryz.isAgg3 Z1 (by rfl) (by rfl)) ?_
  refine Ru rfl (pv_move rfl) ?_
  refine Ru rfl (pv_fieldAddr (k := 1) rfl Tryz.runUnderlying36 rfl Tryz.sizeOf3 rfl rfl) ?_
  refine Rv rfl (oq_load rfl rfl Tryz.isAgg3 Z1 (by rfl) (by rfl)) ?_
  refine Ru rfl (pv_bin rfl rfl rfl) ?_
  refine Ru rfl (pv_bin rfl rfl rfl) ?_
  refine Rp rfl (pv_pick0 rfl rfl) ?_
  refine Rp rfl (pv_assign rfl) ?_
  refine Kn2 3 9 rfl ?_
  refine ct_cond_d rfl (fun hz9 => absurd hz9 (by rw [sub_in h0 (by omega) (by omega)]; omega)) (fun _ => ?_)
  refine Cr ?_
  refine Rp rfl (pv_fieldAddr (k := 0) rfl Tryz.runUnderlying36 rfl Tryz.sizeOf3 rfl rfl) ?_
  refine Rq rfl (oq_load rfl rfl Tryz.isAgg3 Z1 (by rfl) (by rfl)) ?_
  refine Rp rfl (pv_bin (v := .bool false) rfl rfl (by rfl)) ?_
  refine Rp rfl (pv_move rfl) ?_
  refine rl_u rfl rfl (by decide) ?_
  refine rl_u rfl rfl (by decide) ?_
  refine rl_u rfl rfl (by decide) ?_
  refine rl_u rfl rfl (by decide) ?_
  refine rl_u rfl rfl (by decide) ?_
  refine rl_u rfl rfl (by decide) ?_
  refine Rp rfl (pv_pick0 rfl rfl) ?_
  refine Rp rfl (pv_assign rfl) ?_
  refine Kn1 28 rfl ?_
  refine ct_false rfl ?_
  refine ct_skip ?_
  refine xt_normal_block ?_
  refine xt_then ?_
  refine CT.weaken (E' := []) (Knows.nil) Sees.refl ?_
  refine Cr ?_
  refine Rp rfl (pv_assign rfl) ?_
  refine Kn1 4 rfl ?_
  refine ct_ret ?_
  refine fin_ret1 (RVs.tmp rfl (RVs.nil)) Tryz.results147 ?_ Sees.refl
  refine pw_q rfl rfl rfl rfl (oq_pv (pv_assign rfl)) ?_
  refine pw_done ?_
  refine Kx4 0 3 4 6 rfl ?_
  refine Cr ?_
  refine Rp rfl (pv_move rfl) ?_
  refine Rp rfl (pv_bin (v := .bool false) rfl rfl (by rfl)) ?_
  refine Kn5 0 3 4 6 15 rfl ?_
  refine ct_false rfl ?_
  refine ct_skip ?_
  refine Kx3 0 3 4 rfl ?_
  refine ct_seq ?_
  refine Cr ?_
  refine Rp rfl (pv_move rfl) ?_
  refine Rp rfl (pv_eql rfl rfl Tryz.runUnderlying53 rfl) ?_
  refine Kn4 0 3 4 19 rfl ?_
  refine ct_false rfl ?_
  refine ct_skip ?_
  refine Kx3 0 3 4 rfl ?_
  refine Cr ?_
  refine Rp rfl (pv_move rfl) ?_
  refine Rp rfl (pv_nilCheck rfl) ?_
  refine Rp rfl (pv_fieldAddr (k := 1) rfl Tryz.runUnderlying110 rfl Tryz.sizeOf108 rfl rfl) ?_
  refine rl_call rfl rfl (by decide) Tryz.call149 (vs := [_, _]) rfl Tryz.func149 rfl Tryz.ntmps149 rfl rfl ?_
  refine Cr ?_
  refine Rp rfl (pv_assign rfl) ?_
  refine Kn2 0 1 rfl ?_
  refine Cr ?_
  refine Rp rfl (pv_move rfl) ?_
  refine Rp rfl (pv_nilCheck rfl) ?_
  refine Rp rfl (pv_fieldAddr (k := 1) rfl Tryz.runUnderlying108 rfl Tryz.sizeOf2 rfl rfl) ?_
  refine Rp rfl (pv_move rfl) ?_
  refine Ro rfl (ot_atomAdd rfl extAddI rfl Z4 rfl (by rfl) (by exact (rfl : _ = [_, _]))) ?_
  rintro _ _ ⟨rfl, rfl⟩
  refine Rp rfl (pv_assign rfl) ?_
  refine Kn1 4 rfl ?_
  refine ct_ret ?_
  refine fin_ret1 (RVs.tmp rfl (RVs.nil)) Tryz.results149 ?_ Sees.refl
  refine Kn3 0 3 4 rfl ?_
  refine ct_seq ?_
  refine Cr ?_
  refine Rp rfl (pv_fieldAddr (k := 0) rfl Tryz.runUnderlying36 rfl Tryz.sizeOf3 rfl rfl) ?_
  refine Rq rfl (oq_load rfl rfl Tryz.isAgg3 Z4 (by rfl) (by rfl)) ?_
  refine Kn4 0 3 4 26 rfl ?_
  refine ct_block ?_
  refine Cr ?_
  refine Rp rfl (pv_bin (v := .bool true) rfl rfl (by rfl)) ?_
  refine Rp rfl (pv_assign rfl) ?_
  refine Kn5 0 3 4 26 27 rfl ?_
  refine ct_true rfl ?_
  refine Cr ?_
  refine Rp rfl (pv_move rfl) ?_
  refine Rp rfl (pv_fieldAddr (k := 1) rfl Tryz.runUnderlying36 rfl Tryz.sizeOf3 rfl rfl) ?_
  refine Rq rfl (oq_load rfl rfl Tryz.isAgg3 Z4 (by rfl) (by rfl)) ?_
  refine Rp rfl (pv_fieldAddr (k := 2) rfl Tryz.runUnderlying36 rfl Tryz.sizeOf3 rfl rfl) ?_
  refine Rq rfl (oq_load rfl rfl Tryz.isAgg3 Z4 (by rfl) (by rfl)) ?_
  refine rl_call rfl rfl (by decide) Tryz.call150 (vs := [_, _, _]) rfl Tryz.func150 rfl Tryz.ntmps150 rfl rfl ?_
  refine Cr ?_
  refine Rp rfl (pv_assign rfl) ?_
  refine Kn3 0 1 2 rfl ?_
  refine Cr ?_
  refine Rp rfl (pv_move rfl) ?_
  refine Ro rfl (ot_make1 (n := n) (by_ := 1) rfl rfl rfl rfl Tryz.runUnderlying29 Tryz.sizeOf5 Tryz.zeroValue5 Tryz.typeInfo5 rfl (by omega) (by omega) (rfl : _ = [_])) ?_
  rintro _ _ ⟨b10, rfl, rfl⟩
  refine Rp rfl (pv_assign rfl) ?_
  refine Kn3 0 1 7 rfl ?_
  refine ct_seq ?_
  refine Cr ?_
  refine Rp rfl (pv_move rfl) ?_
  refine Rp rfl (pv_len_slice rfl rfl Tryz.runUnderlying29) ?_
  refine Rp rfl (pv_move rfl) ?_
  refine Kn5 0 1 7 12 13 rfl ?_
  refine ct_block ?_
  refine ct_loop (α := { i : Nat // i ≤ n }) (fun q => [(0, .pointer (some ⟨bb, 0, none⟩)), (1, .int .i64 at_), (7, .slice (some ⟨b10, 0, none⟩) n n), (12, .int .i64 (n : Int)), (13, .int .i64 (q.1 : Int))]) (fun q => own 1 (some ⟨b10, 0, none⟩) n n (rdcs m at_ n q.1) :: row bb 0 [.slice (some ⟨wb, 0, none⟩) m.length m.length, .int .i64 (IntKind.i64.wrap (cnt + 1))] :: row b4 0 [.int .i64 5, .int .i64 at_, .int .i64 (n : Int), .int .u64 v, .int .u64 u, .slice p pn pc] :: row b3 0 [.int .i64 5, .int .i64 at_, .int .i64 (n : Int), .int .u64 v, .int .u64 u, .slice p pn pc] :: row b2 0 [.int .u64 0, .bool false, .slice none 0 0] :: row b1 0 [.int .i64 5, .int .i64 at_, .int .i64 (n : Int), .int .u64 v, .int .u64 u, .slice p pn pc] :: row wb 0 (wcells m) :: F) (fun q => n - q.1) ⟨0, Nat.zero_le _⟩ (Knows.cons rfl (Knows.cons rfl (Knows.cons rfl (Knows.cons rfl (Knows.cons rfl (Knows.nil)))))) (by rw [show List.replicate n (Value.int IntKind.u8 0) = rdcs m at_ n 0 from by simp [rdcs, mrd, byteC]]; exact Sees.refl) ?_
  intro ⟨i, hi⟩
  dsimp only
  have ew : ∀ k : Nat, k < n → IntKind.i64.wrap (at_ + (k : Int)) = at_ + (k : Int) := fun k hk => wrap_inK (k := .i64) ⟨by omega, by omega⟩
  refine Cr ?_
  refine Rp rfl (pv_bin rfl rfl rfl) ?_
  refine Kn6 0 1 7 12 13 14 rfl ?_
  refine ct_seq ?_
  refine ct_cond_d rfl (fun hz11 => ?_) (fun hz11 => ?_)
  · skip
    refine ct_skip ?_
    refine Kx5 0 1 7 12 13 rfl ?_
    refine ct_seq ?_
    refine ct_block ?_
    refine Cr ?_
    refine Rp rfl (pv_move rfl) ?_
    refine Rp rfl (pv_assign rfl) ?_
    refine Kn6 0 1 7 8 12 13 rfl ?_
    refine ct_region ?_
    refine Rp rfl (pv_move rfl) ?_
    refine Rp rfl (pv_move rfl) ?_
    refine Rp rfl (pv_move rfl) ?_
    refine Rp rfl (pv_move rfl) ?_
    refine Rp rfl (pv_move rfl) ?_
    refine Rp rfl (pv_bin rfl rfl rfl) ?_
    refine rl_call rfl rfl (by decide) Tryz.call151 (vs := [_, _, _]) rfl Tryz.func151 rfl Tryz.ntmps151 rfl rfl ?_
    refine Cr ?_
    refine Ro rfl (ot_alloc rfl Tryz.zeroValue232 (rfl : _ = [_, _, _])) ?_
    rintro _ _ ⟨b12, rfl, rfl⟩
    refine Kn4 0 1 2 6 rfl ?_
    refine Cr ?_
    refine Rp rfl (pv_assign rfl) ?_
    refine Kn5 0 1 2 6 7 rfl ?_
    refine ct_seq ?_
    refine Cr ?_
    refine Rp rfl (pv_move rfl) ?_
    refine Rp rfl (pv_bin (v := .bool true) rfl rfl (by rfl)) ?_
    refine Kn6 0 1 2 6 7 9 rfl ?_
    refine ct_true rfl ?_
    refine ct_region ?_
    refine Rp rfl (pv_move rfl) ?_
    refine Rp rfl (pv_convert_to (v := 1) rfl Tryz.runUnderlying3 Tryz.runUnderlying192 (by rfl)) ?_
    refine Rp rfl (pv_bin (v := .int .u64 8) rfl rfl (by rfl)) ?_
    refine Rp rfl (pv_shl_to (v := 256) rfl rfl (by decide) (by rfl)) ?_
    refine Rp rfl (pv_bin (v := .int .u64 255) rfl rfl (by rfl)) ?_
    refine Rp rfl (pv_assign rfl) ?_
    refine Kn4 0 1 6 7 rfl ?_
    refine Cr ?_
    refine Rp rfl (pv_move rfl) ?_
    refine Rp rfl (pv_nilCheck rfl) ?_
    refine Rp rfl (pv_fieldAddr (k := 0) rfl Tryz.runUnderlying110 rfl Tryz.sizeOf103 rfl rfl) ?_
    refine Rq rfl (oq_load rfl rfl Tryz.isAgg103 Z2 (by rfl) (by rfl)) ?_
    refine Rp rfl (pv_move rfl) ?_
    refine Rp rfl (pv_quo rfl rfl (by decide)) ?_
    refine Rp rfl (pv_indexAddr1 (j := bix (IntKind.i64.wrap (at_ + (i : Int)))) rfl rfl Tryz.runUnderlying103 Tryz.sizeOf149 (bix_eq (by rw [ew i (by omega)]; omega) (by rw [ew i (by omega)]; omega)) (by simpa using (bix_lt (n := 1) (by rw [ew i (by omega)]; omega) (by omega) (by rw [ew i (by omega)]; omega)))) ?_
    refine Rp rfl (pv_move rfl) ?_
    refine Rp rfl (pv_rem rfl rfl (by decide)) ?_
    refine Rp rfl (pv_convert rfl Tryz.runUnderlying3 Tryz.runUnderlying192) ?_
    refine Rp rfl (pv_bin rfl rfl rfl) ?_
    refine Rp rfl (pv_move rfl) ?_
    refine Rp rfl (pv_build (ps := [(0, _), (1, _), (2, _)]) (cs := [_, _, _]) rfl Tryz.zeroValue232 Tryz.runUnderlying232 (.cons Tryz.sizeOf195 (.cons Tryz.sizeOf192 (.cons Tryz.sizeOf28 (.nil)))) rfl) ?_
    refine rl_op0 rfl rfl (ot_store rfl rfl rfl Tryz.sizeOf232 Z0 (rfl : _ = [_, _, _]) rfl (by rfl) (by rfl) (by first | rfl | assumption) (by exact (rfl : _ = [_, _, _]))) ?_
    rintro _ _ rfl
    refine Kn1 6 rfl ?_
    refine ct_ret ?_
    refine fin_ret1 (RVs.agg (us := [_, _, _]) rfl Tryz.isAgg232 Tryz.sizeOf232 Z0 (by rfl) (by rfl) (by rfl) (RVs.nil)) Tryz.results151 ?_ Sees.refl
    refine rl_call rfl rfl (by decide) Tryz.call153 (vs := [_]) rfl Tryz.func153 rfl Tryz.ntmps153 rfl rfl ?_
    refine Cr ?_
    refine Ro rfl (ot_box rfl rfl (rfl : _ = [_, _, _])) ?_
    rintro _ _ ⟨b13, rfl, rfl⟩
    refine Rp rfl (pv_assign rfl) ?_
    refine Kn1 1 rfl ?_
    refine ct_seq ?_
    refine ct_planH [.q 0, .q 1, .q 3, .q 4, .q 6, .q 7, .e 2, .q 5, .q 8, .q 9] mixed (by decide +kernel) ?_
    refine pw_q rfl rfl rfl rfl (oq_pv (pv_fieldAddr (k := 0) rfl Tryz.runUnderlying232 rfl Tryz.sizeOf195 rfl rfl)) ?_
    refine pw_q rfl rfl rfl rfl (oq_load rfl rfl Tryz.isAgg195 Z0 (by rfl) (by rfl)) ?_
    refine pw_q rfl rfl rfl rfl (oq_pv (pv_fieldAddr (k := 1) rfl Tryz.runUnderlying232 rfl Tryz.sizeOf192 rfl rfl)) ?_
    refine pw_q rfl rfl rfl rfl (oq_load rfl rfl Tryz.isAgg192 Z0 (by rfl) (by rfl)) ?_
    refine pw_q rfl rfl rfl rfl (oq_pv (pv_fieldAddr (k := 2) rfl Tryz.runUnderlying232 rfl Tryz.sizeOf28 rfl rfl)) ?_
    refine pw_q rfl rfl rfl rfl (oq_load rfl rfl Tryz.isAgg28 Z0 (by rfl) (by rfl)) ?_
    refine pwe_call rfl rfl rfl rfl Tryz.call54 (vs := [_]) rfl Tryz.func54 rfl Tryz.ntmps54 rfl rfl ?_
    refine Cr ?_
    refine Rp rfl (pv_assign rfl) ?_
    refine Kn1 0 rfl ?_
    refine Cr ?_
    refine Rp rfl (pv_move rfl) ?_
    refine Rp rfl (pv_nilCheck rfl) ?_
    refine Rp rfl (pv_fieldAddr (k := bix (IntKind.i64.wrap (at_ + (i : Int)))) rfl Tryz.runUnderlying149 rfl Tryz.sizeOf28 rfl rfl) ?_
    refine Rq rfl (oq_atomLoad rfl extLoad rfl Z8 (Nat.zero_le_ble) (wget_sub (bix_lt (n := 1) (by rw [ew i (by omega)]; omega) (by omega) (by rw [ew i (by omega)]; omega)))) ?_
    refine Rp rfl (pv_assign rfl) ?_
    refine Kn1 2 rfl ?_
    refine ct_ret ?_
    refine fin_ret1 (RVs.tmp rfl (RVs.nil)) Tryz.results54 ?_ Sees.refl
    refine ⟨[], Sees.cons Z0 (Sees.cons Z0 (Sees.cons Z0 (Sees.cons Z0 (Sees.cons Z0 (Sees.cons Z0 (Sees.cons Z0 (Sees.cons Z0 (Sees.cons Z0 (Sees.refl))))))))), ?_⟩
    refine pw_q rfl rfl rfl rfl (oq_pv (pv_shr rfl rfl (inK_wrap .u64 _).1)) ?_
    refine pw_q rfl rfl rfl rfl (oq_pv (pv_bin rfl rfl rfl)) ?_
    refine pw_q rfl rfl rfl rfl (oq_pv (pv_assign rfl)) ?_
    refine pw_done ?_
    refine Kx1 2 rfl ?_
    refine ct_ret ?_
    refine fin_ret1 (RVs.tmp rfl (RVs.nil)) Tryz.results153 ?_ Sees.refl
    refine Rp rfl (pv_convert rfl Tryz.runUnderlying28 Tryz.runUnderlying5) ?_
    refine Rp rfl (pv_indexAddr1 (j := i) rfl rfl Tryz.runUnderlying29 Tryz.sizeOf5 rfl (by omega)) ?_
    refine rl_op0 rfl rfl (ot_storeOwn (j := i) rfl rfl rfl Tryz.sizeOf5 Z2 (rfl : _ = [_]) rfl (by omega) (by rw [rdcs_length _ _ _ _ hi]; show i + 1 ≤ n; omega) rfl (rdcs_next m at_ (by omega))) ?_
    rintro _ _ rfl
    refine rl_nil ?_
    refine xt_normal_block ?_
    refine Kx5 0 1 7 12 13 rfl ?_
    refine ct_region ?_
    refine Rp rfl (pv_bin rfl rfl rfl) ?_
    refine Rp rfl (pv_move rfl) ?_
    refine rl_nil ?_
    exact xt_round (α := { i : Nat // i ≤ n }) (E' := fun q => [(0, .pointer (some ⟨bb, 0, none⟩)), (1, .int .i64 at_), (7, .slice (some ⟨b10, 0, none⟩) n n), (12, .int .i64 (n : Int)), (13, .int .i64 (q.1 : Int))]) (H' := fun q => own 1 (some ⟨b10, 0, none⟩) n n (rdcs m at_ n q.1) :: row bb 0 [.slice (some ⟨wb, 0, none⟩) m.length m.length, .int .i64 (IntKind.i64.wrap (cnt + 1))] :: row b4 0 [.int .i64 5, .int .i64 at_, .int .i64 (n : Int), .int .u64 v, .int .u64 u, .slice p pn pc] :: row b3 0 [.int .i64 5, .int .i64 at_, .int .i64 (n : Int), .int .u64 v, .int .u64 u, .slice p pn pc] :: row b2 0 [.int .u64 0, .bool false, .slice none 0 0] :: row b1 0 [.int .i64 5, .int .i64 at_, .int .i64 (n : Int), .int .u64 v, .int .u64 u, .slice p pn pc] :: row wb 0 (wcells m) :: F) (μ := fun q => n - q.1) (p := ⟨i, hi⟩) (⟨i + 1, by omega⟩) (by show n - (i + 1) < n - i; omega) (Knows.cons rfl (Knows.cons rfl (Knows.cons rfl (Knows.cons rfl (Knows.cons (look_int rfl (cnt_wrap (by omega))) (Knows.nil)))))) (Sees.cons Z0 (Sees.cons Z2 (Sees.cons Z2 (Sees.cons Z2 (Sees.cons Z2 (Sees.cons Z2 (Sees.cons Z2 (Sees.skip (Sees.skip (Sees.refl))))))))))
  · skip
    refine ct_exit ?_
    refine xt_exit_then ?_
    refine xt_exit_then ?_
    refine xt_exit_block ?_
    refine Kx1 7 rfl ?_
    refine Cr ?_
    refine Rp rfl (pv_move rfl) ?_
    refine Rp rfl (pv_assign rfl) ?_
    refine Kn1 6 rfl ?_
    refine ct_ret ?_
    refine fin_ret1 (RVs.tmp rfl (RVs.nil)) Tryz.results150 ?_ Sees.refl
    refine Rp rfl (pv_fieldAddr (k := 2) rfl Tryz.runUnderlying31 rfl Tryz.sizeOf29 rfl rfl) ?_
    refine rl_op0 rfl rfl (ot_store rfl rfl rfl Tryz.sizeOf29 Z4 (rfl : _ = [_]) rfl (by rfl) (by rfl) (by first | rfl | assumption) (by exact (rfl : _ = [_, _, _]))) ?_
    rintro _ _ rfl
    refine Kn1 4 rfl ?_
    refine Cr ?_
    refine Rq rfl (oq_loadAgg (us := [_, _, _]) rfl rfl Tryz.isAgg31 Tryz.sizeOf31 Z0 (by rfl) (by rfl) (by rfl)) ?_
    refine rl_op0 rfl rfl (ot_store rfl rfl rfl Tryz.sizeOf31 Z0 (rfl : _ = [_, _, _]) rfl (by rfl) (by rfl) (by first | rfl | assumption) (by exact (rfl : _ = [_, _, _]))) ?_
    rintro _ _ rfl
    refine Rp rfl (pv_assign rfl) ?_
    refine Kn2 4 5 rfl ?_
    refine ct_ret ?_
    refine xt_ret_block ?_
    refine xt_ret_then ?_
    have ei : i = n := by omega
    subst ei
    refine fin_ret (RVs.agg (us := [_, _, _]) rfl Tryz.isAgg31 Tryz.sizeOf31 Z0 (by rfl) (by rfl) (by rfl) (RVs.tmp rfl (RVs.nil))) Tryz.results113 ⟨IntKind.i64.wrap (cnt + 1), _, rfl, rfl⟩ ?_
    rw [← rdcs_end]
    exact Sees.cons Z1 (Sees.cons Z1 (Sees.cons Z4 (Sees.skip (Sees.skip (Sees.skip (Sees.skip (Sees.refl)))))))
theorem mwr_step {m : List Int} {at_ : Int} {l : List UInt8} {i : Nat} {c : UInt8} (hc : l[i]? = some c) : mwr m at_ i (l.drop i) = mwr (mput m (IntKind.i64.wrap (at_ + (i : Int))) 1 (IntKind.u64.wrap (c.toNat : Int))) at_ (i + 1) (l.drop (i + 1)) := by
  have hlt : i < l.length := by
    rcases Nat.lt_or_ge i l.length with h | h
    · exact h
    · rw [List.getElem?_eq_none h] at hc; cases hc
  have e : l[i] = c := by rw [List.getElem?_eq_getElem hlt] at hc; exact Option.some.inj hc
  rw [List.drop_eq_getElem_cons hlt, e]; rfl
theorem do_write (ω : World) (bb wb : Nat) (m : List Int) (cnt at_ v u : Int) (l : List UInt8) (p : Option Addr) (pc : Nat) (X : HP) (hX : Rd ω X 1 p l.length (byteC l)) (hm : m.length ≤ 16384) (h0 : 0 ≤ at_) (hn : l.length ≤ 8) (h1 : at_ + (l.length : Int) ≤ 8 * (m.length : Int)) (F : List HP) : Spec ω Tryz.prog 113 #[.pointer (some ⟨bb, 0, none⟩), .agg #[.int .i64 6, .int .i64 at_, .int .i64 (l.length : Int), .int .u64 v, .int .u64 u, .slice p l.length pc]] (row bb 0 [.slice (some ⟨wb, 0, none⟩) m.length m.length, .int .i64 cnt] :: row wb 0 (wcells m) :: X :: F) fun v' H' => ∃ cnt', v' = .tuple #[.agg #[.int .u64 0, .bool false, .slice none 0 0], .int .i64 0] ∧ H' = row bb 0 [.slice (some ⟨wb, 0, none⟩) m.length m.length, .int .i64 cnt'] :: row wb 0 (wcells (mwr m at_ 0 l)) :: X :: F := by
  refine spec_of_body Tryz.func113 rfl Tryz.ntmps113 rfl ?_
  refine Cr ?_
  refine Ro rfl (ot_box rfl rfl (rfl : _ = [_, _, _, _, _, _])) ?_
  rintro _ _ ⟨b1, rfl, rfl⟩
  refine Ro rfl (ot_alloc rfl Tryz.zeroValue31 (rfl : _ = [_, _, _])) ?_
  rintro _ _ ⟨b2, rfl, rfl⟩
  refine Rp rfl (pv_assign rfl) ?_
  refine Kn3 0 3 4 rfl ?_
  refine ct_seq ?_
  refine ct_seq ?_
  refine ct_planH [.q 0, .q 1, .q 2, .b 3, .q 4] mixed (by decide +kernel) ?_
  refine pw_q rfl rfl rfl rfl (oq_pv (pv_move rfl)) ?_
  refine pw_q rfl rfl rfl rfl (oq_call_of (cs := [_, _]) rfl Tryz.call148 (vs := [_]) rfl (Pick.cons Z2 (Pick.cons Z2 (Pick.nil))) (fun F => bsize_read _ _ _ _ _ hm F)) ?_
  refine pw_q rfl rfl rfl rfl (oq_loadAgg (us := [_, _, _, _, _, _]) rfl rfl Tryz.isAgg36 Tryz.sizeOf36 Z1 (by rfl) (by rfl) (by rfl)) ?_
  refine pwb_call rfl rfl rfl rfl Tryz.call147 (vs := [_, _]) rfl Tryz.func147 rfl Tryz.ntmps147 rfl rfl ?_
  refine Cr ?_
  refine Ro rfl (ot_box rfl rfl (rfl : _ = [_, _, _, _, _, _])) ?_
  rintro _ _ ⟨b3, rfl, rfl⟩
  refine Rp rfl (pv_assign rfl) ?_
  refine Kn2 0 3 rfl ?_
  refine ct_seq ?_
  refine ct_block ?_
  refine Cr ?_
  refine Rq rfl (oq_loadAgg (us := [_, _, _, _, _, _]) rfl rfl Tryz.isAgg36 Tryz.sizeOf36 Z0 (by rfl) (by rfl) (by rfl)) ?_
  refine rl_call rfl rfl (by decide) Tryz.call168 (vs := [_]) rfl Tryz.func168 rfl Tryz.ntmps168 rfl rfl ?_
  refine Cr ?_
  refine Ro rfl (ot_box rfl rfl (rfl : _ = [_, _, _, _, _, _])) ?_
  rintro _ _ ⟨b4, rfl, rfl⟩
  refine Rp rfl (pv_assign rfl) ?_
  refine Kn1 1 rfl ?_
  refine ct_seq ?_
  refine Cr ?_
  refine Rp rfl (pv_fieldAddr (k := 0) rfl Tryz.runUnderlying36 rfl Tryz.sizeOf3 rfl rfl) ?_
  refine Rq rfl (oq_load rfl rfl Tryz.isAgg3 Z0 (by rfl) (by rfl)) ?_
  refine Kn2 1 4 rfl ?_
  refine ct_block ?_
  refine ct_seq ?_
  refine Cr ?_
  refine Rp rfl (pv_bin (v := .bool false) rfl rfl (by rfl)) ?_
  refine Rp rfl (pv_assign rfl) ?_
  refine Kn3 1 4 5 rfl ?_
  refine ct_false rfl ?_
  refine Cr ?_
  refine Rp rfl (pv_bin (v := .bool false) rfl rfl (by rfl)) ?_
  refine Rp rfl (pv_assign rfl) ?_
  refine Kn3 1 4 5 rfl ?_
  refine ct_false rfl ?_
  refine ct_region ?_
  refine Rp rfl (pv_bin (v := .bool false) rfl rfl (by rfl)) ?_
  refine Rp rfl (pv_assign rfl) ?_
  refine Kn3 1 4 5 rfl ?_
  refine ct_false rfl ?_
  refine Cr ?_
  refine Rp rfl (pv_bin (v := .bool false) rfl rfl (by rfl)) ?_
  refine Rp rfl (pv_assign rfl) ?_
  refine Kn3 1 4 17 rfl ?_
  refine ct_false rfl ?_
  refine Cr ?_
  refine Rp rfl (pv_bin (v := .bool false) rfl rfl (by rfl)) ?_
  refine Rp rfl (pv_assign rfl) ?_
  refine Kn3 1 4 22 rfl ?_
  refine ct_false rfl ?_
  refine Cr ?_
  refine Rp rfl (pv_bin (v := .bool true) rfl rfl (by rfl)) ?_
  refine Rp rfl (pv_assign rfl) ?_
  refine Kn2 1 32 rfl ?_
  refine ct_true rfl ?_
  refine Cr ?_
  refine Rp rfl (pv_fieldAddr (k := 2) rfl Tryz.runUnderlying36 rfl Tryz.sizeOf3 rfl rfl) ?_
  refine Rq rfl (oq_load rfl rfl Tryz.isAgg3 Z0 (by rfl) (by rfl)) ?_
  refine Rp rfl (pv_fieldAddr (k := 5) rfl Tryz.runUnderlying36 rfl Tryz.sizeOf29 rfl rfl) ?_
  refine Rq rfl (oq_load rfl rfl Tryz.isAgg29 Z0 (by rfl) (by rfl)) ?_
  refine Rp rfl (pv_len_slice rfl rfl Tryz.runUnderlying29) ?_
  refine Rp rfl (pv_bin rfl rfl rfl) ?_
  refine Rp rfl (pv_move rfl) ?_
  refine rl_split_d (fun _ => ?_) (fun hz5 => absurd rfl hz5)
  refine Ru rfl (pv_fieldAddr (k := 2) rfl Tryz.runUnderlying36 rfl Tryz.sizeOf3 rfl rfl) ?_
  refine Rv rfl (oq_load rfl rfl Tryz.isAgg3 Z0 (by rfl) (by rfl)) ?_
  refine Ru rfl (pv_bin rfl rfl rfl) ?_
  refine Rp rfl (pv_pick1 rfl rfl) ?_
  refine Rp rfl (pv_assign rfl) ?_
  refine Kn1 2 rfl ?_
  refine ct_ret ?_
  refine xt_ret_block ?_
  refine xt_ret_then ?_
  refine fin_ret1 (RVs.tmp rfl (RVs.nil)) Tryz.results168 ?_ Sees.refl
  refine Rp rfl (pv_not rfl) ?_
  refine Rp rfl (pv_assign rfl) ?_
  refine Kn3 0 3 5 rfl ?_
  refine ct_cond_n rfl (fun hz6 => absurd (by omega) hz6) (fun _ => ?_)
  refine Cr ?_
  refine Rp rfl (pv_fieldAddr (k := 1) rfl Tryz.runUnderlying36 rfl Tryz.sizeOf3 rfl rfl) ?_
  refine Rq rfl (oq_load rfl rfl Tryz.isAgg3 Z1 (by rfl) (by rfl)) ?_
  refine Rp rfl (pv_bin rfl rfl rfl) ?_
  refine Rp rfl (pv_move rfl) ?_
  refine rl_split_d (fun hz7 => absurd hz7 (by omega)) (fun _ => ?_)
  refine Ru rfl (pv_fieldAddr (k := 1) rfl Tryz.runUnderlying36 rfl Tryz.sizeOf3 rfl rfl) ?_
  refine Rv rfl (oq_load rfl rfl Tryz.isAgg3 Z1 (by rfl) (by rfl)) ?_
  refine Ru rfl (pv_move rfl) ?_
  refine Ru rfl (pv_bin rfl rfl rfl) ?_
  refine Rp rfl (pv_pick0 rfl rfl) ?_
  refine Rp rfl (pv_move rfl) ?_
  refine rl_split_d (fun hz8 => absurd hz8 (by omega)) (fun _ => ?_)
  refine Ru rfl (pv_fieldAddr (k := 2) rfl Tryz.runUnderlying36 rfl Tryz.sizeOf3 rfl rfl) ?_
  refine Rv rfl (oq_load rfl rfl Tryz.isAgg3 Z1 (by rfl) (by rfl)) ?_
  refine Ru rfl (pv_move rfl) ?_
  refine Ru rfl (pv_fieldAddr (k := 1) rfl Tryz.runUnderlying36 rfl Tryz.sizeOf3 rfl rfl) ?_
  refine Rv rfl (oq_load rfl rfl Tryz.isAgg3 Z1 (by rfl) (by rfl)) ?_
  refine Ru rfl (pv_bin rfl rfl rfl) ?_
  refine Ru rfl (pv_bin rfl rfl rfl) ?_
  refine Rp rfl (pv_pick0 rfl rfl) ?_
  refine Rp rfl (pv_assign rfl) ?_
  refine Kn2 3 9 rfl ?_
  refine ct_cond_d rfl (fun hz9 => absurd hz9 (by rw [sub_in h0 (by omega) (by omega)]; omega)) (fun _ => ?_)
  refine Cr ?_
  refine Rp rfl (pv_fieldAddr (k := 0) rfl Tryz.runUnderlying36 rfl Tryz.sizeOf3 rfl rfl) ?_
  refine Rq rfl (oq_load rfl rfl Tryz.isAgg3 Z1 (by rfl) (by rfl)) ?_
  refine Rp rfl (pv_bin (v := .bool false) rfl rfl (by rfl)) ?_
  refine Rp rfl (pv_move rfl) ?_
  refine rl_u rfl rfl (by decide) ?_
  refine rl_u rfl rfl (by decide) ?_
  refine rl_u rfl rfl (by decide) ?_
  refine rl_u rfl rfl (by decide) ?_
  refine rl_u rfl rfl (by decide) ?_
  refine rl_u rfl rfl (by decide) ?_
  refine Rp rfl (pv_pick0 rfl rfl) ?_
  refine Rp rfl (pv_assign rfl) ?_
  refine Kn1 28 rfl ?_
  refine ct_false rfl ?_
  refine ct_skip ?_
  refine xt_normal_block ?_
  refine xt_then ?_
  refine CT.weaken (E' := []) (Knows.nil) Sees.refl ?_
  refine Cr ?_
  refine Rp rfl (pv_assign rfl) ?_
  refine Kn1 4 rfl ?_
  refine ct_ret ?_
  refine fin_ret1 (RVs.tmp rfl (RVs.nil)) Tryz.results147 ?_ Sees.refl
  refine pw_q rfl rfl rfl rfl (oq_pv (pv_assign rfl)) ?_
  refine pw_done ?_
  refine Kx4 0 3 4 6 rfl ?_
  refine Cr ?_
  refine Rp rfl (pv_move rfl) ?_
  refine Rp rfl (pv_bin (v := .bool false) rfl rfl (by rfl)) ?_
  refine Kn5 0 3 4 6 15 rfl ?_
  refine ct_false rfl ?_
  refine ct_skip ?_
  refine Kx3 0 3 4 rfl ?_
  refine ct_seq ?_
  refine Cr ?_
  refine Rp rfl (pv_move rfl) ?_
  refine Rp rfl (pv_eql rfl rfl Tryz.runUnderlying53 rfl) ?_
  refine Kn4 0 3 4 19 rfl ?_
  refine ct_false rfl ?_
  refine ct_skip ?_
  refine Kx3 0 3 4 rfl ?_
  refine Cr ?_
  refine Rp rfl (pv_move rfl) ?_
  refine Rp rfl (pv_nilCheck rfl) ?_
  refine Rp rfl (pv_fieldAddr (k := 1) rfl Tryz.runUnderlying110 rfl Tryz.sizeOf108 rfl rfl) ?_
  refine rl_call rfl rfl (by decide) Tryz.call149 (vs := [_, _]) rfl Tryz.func149 rfl Tryz.ntmps149 rfl rfl ?_
  refine Cr ?_
  refine Rp rfl (pv_assign rfl) ?_
  refine Kn2 0 1 rfl ?_
  refine Cr ?_
  refine Rp rfl (pv_move rfl) ?_
  refine Rp rfl (pv_nilCheck rfl) ?_
  refine Rp rfl (pv_fieldAddr (k := 1) rfl Tryz.runUnderlying108 rfl Tryz.sizeOf2 rfl rfl) ?_
  refine Rp rfl (pv_move rfl) ?_
  refine Ro rfl (ot_atomAdd rfl extAddI rfl Z4 rfl (by rfl) (by exact (rfl : _ = [_, _]))) ?_
  rintro _ _ ⟨rfl, rfl⟩
  refine Rp rfl (pv_assign rfl) ?_
  refine Kn1 4 rfl ?_
  refine ct_ret ?_
  refine fin_ret1 (RVs.tmp rfl (RVs.nil)) Tryz.results149 ?_ Sees.refl
  refine Kn3 0 3 4 rfl ?_
  refine ct_seq ?_
  refine Cr ?_
  refine Rp rfl (pv_fieldAddr (k := 0) rfl Tryz.runUnderlying36 rfl Tryz.sizeOf3 rfl rfl) ?_
  refine Rq rfl (oq_load rfl rfl Tryz.isAgg3 Z4 (by rfl) (by rfl)) ?_
  refine Kn4 0 3 4 26 rfl ?_
  refine ct_block ?_
  refine Cr ?_
  refine Rp rfl (pv_bin (v := .bool false) rfl rfl (by rfl)) ?_
  refine Rp rfl (pv_assign rfl) ?_
  refine Kn5 0 3 4 26 27 rfl ?_
  refine ct_false rfl ?_
  refine Cr ?_
  refine Rp rfl (pv_bin (v := .bool true) rfl rfl (by rfl)) ?_
  refine Rp rfl (pv_assign rfl) ?_
  refine Kn4 0 3 4 37 rfl ?_
  refine ct_true rfl ?_
  refine ct_seq ?_
  refine Cr ?_
  refine Rp rfl (pv_fieldAddr (k := 5) rfl Tryz.runUnderlying36 rfl Tryz.sizeOf29 rfl rfl) ?_
  refine Rq rfl (oq_load rfl rfl Tryz.isAgg29 Z4 (by rfl) (by rfl)) ?_
  refine Rp rfl (pv_len_slice rfl rfl Tryz.runUnderlying29) ?_
  refine Rp rfl (pv_move rfl) ?_
  refine Kn6 0 3 4 40 41 42 rfl ?_
  refine ct_block ?_
  refine ct_loop (α := { q : Nat × List Int // q.1 ≤ l.length ∧ mwr q.2 at_ q.1 (l.drop q.1) = mwr m at_ 0 l ∧ q.2.length = m.length }) (fun q => [(0, .pointer (some ⟨bb, 0, none⟩)), (3, .pointer (some ⟨b1, 0, none⟩)), (4, .pointer (some ⟨b2, 0, none⟩)), (40, .slice p l.length pc), (41, .int .i64 (l.length : Int)), (42, .int .i64 (q.1.1 : Int))]) (fun q => row bb 0 [.slice (some ⟨wb, 0, none⟩) m.length m.length, .int .i64 (IntKind.i64.wrap (cnt + 1))] :: row b4 0 [.int .i64 6, .int .i64 at_, .int .i64 (l.length : Int), .int .u64 v, .int .u64 u, .slice p l.length pc] :: row b3 0 [.int .i64 6, .int .i64 at_, .int .i64 (l.length : Int), .int .u64 v, .int .u64 u, .slice p l.length pc] :: row b2 0 [.int .u64 0, .bool false, .slice none 0 0] :: row b1 0 [.int .i64 6, .int .i64 at_, .int .i64 (l.length : Int), .int .u64 v, .int .u64 u, .slice p l.length pc] :: row wb 0 (wcells q.1.2) :: X :: F) (fun q => l.length - q.1.1) ⟨(0, m), Nat.zero_le _, rfl, rfl⟩ (Knows.cons rfl (Knows.cons rfl (Knows.cons rfl (Knows.cons rfl (Knows.cons rfl (Knows.cons rfl (Knows.nil))))))) (Sees.refl) ?_
  intro ⟨⟨i, m1⟩, hi, hg, hl⟩
  dsimp only at hi hg hl ⊢
  have ew : ∀ k : Nat, k < l.length → IntKind.i64.wrap (at_ + (k : Int)) = at_ + (k : Int) := fun k hk => wrap_inK (k := .i64) ⟨by omega, by omega⟩
  refine Cr ?_
  refine Rp rfl (pv_bin rfl rfl rfl) ?_
  refine Kn7 0 3 4 40 41 42 43 rfl ?_
  refine ct_seq ?_
  refine ct_cond_d rfl (fun hz10 => ?_) (fun hz10 => ?_)
  · skip
    have hilt : i < l.length := by omega
    obtain ⟨c, hc⟩ : ∃ c, l[i]? = some c := ⟨l[i], List.getElem?_eq_getElem hilt⟩
    have hcc : (byteC l)[i]? = some (.int .u8 (c.toNat : Int)) := by simp [byteC, hc]
    refine ct_rdsome hX Z6 (Nat.lt_of_le_of_lt (Nat.zero_le _) hilt) (fun b0 o0 hp0 => ?_)
    subst hp0
    refine ct_skip ?_
    refine Kx6 0 3 4 40 41 42 rfl ?_
    refine ct_seq ?_
    refine ct_block ?_
    refine Cr ?_
    refine Rp rfl (pv_move rfl) ?_
    refine Rp rfl (pv_indexAddrN (j := i) rfl rfl Tryz.runUnderlying29 Tryz.sizeOf5 rfl hilt) ?_
    refine Rq rfl (oq_load_of (b := b0) (off := o0) (vs := byteC l) rfl rfl Tryz.isAgg5 (hX.reads) Z6 (Nat.ble_eq_true_of_le (by omega)) (by rw [show o0 + i * 1 - o0 = i from by omega]; exact hcc)) ?_
    refine Rp rfl (pv_assign rfl) ?_
    refine Rp rfl (pv_assign rfl) ?_
    refine Kn8 0 3 4 7 8 40 41 42 rfl ?_
    refine ct_region ?_
    refine Rp rfl (pv_move rfl) ?_
    refine Rp rfl (pv_fieldAddr (k := 1) rfl Tryz.runUnderlying36 rfl Tryz.sizeOf3 rfl rfl) ?_
    refine Rq rfl (oq_load rfl rfl Tryz.isAgg3 Z4 (by rfl) (by rfl)) ?_
    refine Rp rfl (pv_move rfl) ?_
    refine Rp rfl (pv_bin rfl rfl rfl) ?_
    refine rl_call rfl rfl (by decide) Tryz.call151 (vs := [_, _, _]) rfl Tryz.func151 rfl Tryz.ntmps151 rfl rfl ?_
    refine Cr ?_
    refine Ro rfl (ot_alloc rfl Tryz.zeroValue232 (rfl : _ = [_, _, _])) ?_
    rintro _ _ ⟨b11, rfl, rfl⟩
    refine Kn4 0 1 2 6 rfl ?_
    refine Cr ?_
    refine Rp rfl (pv_assign rfl) ?_
    refine Kn5 0 1 2 6 7 rfl ?_
    refine ct_seq ?_
    refine Cr ?_
    refine Rp rfl (pv_move rfl) ?_
    refine Rp rfl (pv_bin (v := .bool true) rfl rfl (by rfl)) ?_
    refine Kn6 0 1 2 6 7 9 rfl ?_
    refine ct_true rfl ?_
    refine ct_region ?_
    refine Rp rfl (pv_move rfl) ?_
    refine Rp rfl (pv_convert_to (v := 1) rfl Tryz.runUnderlying3 Tryz.runUnderlying192 (by rfl)) ?_
    refine Rp rfl (pv_bin (v := .int .u64 8) rfl rfl (by rfl)) ?_
    refine Rp rfl (pv_shl_to (v := 256) rfl rfl (by decide) (by rfl)) ?_
    refine Rp rfl (pv_bin (v := .int .u64 255) rfl rfl (by rfl)) ?_
    refine Rp rfl (pv_assign rfl) ?_
    refine Kn4 0 1 6 7 rfl ?_
    refine Cr ?_
    refine Rp rfl (pv_move rfl) ?_
    refine Rp rfl (pv_nilCheck rfl) ?_
    refine Rp rfl (pv_fieldAddr (k := 0) rfl Tryz.runUnderlying110 rfl Tryz.sizeOf103 rfl rfl) ?_
    refine Rq rfl (oq_load rfl rfl Tryz.isAgg103 Z1 (by rfl) (by rfl)) ?_
    refine Rp rfl (pv_move rfl) ?_
    refine Rp rfl (pv_quo rfl rfl (by decide)) ?_
    refine Rp rfl (pv_indexAddr1 (j := bix (IntKind.i64.wrap (at_ + (i : Int)))) rfl rfl Tryz.runUnderlying103 Tryz.sizeOf149 (bix_eq (by rw [ew i hilt]; omega) (by rw [ew i hilt]; omega)) (by rw [← hl]; exact (bix_lt (m := m1) (n := 1) (by rw [ew i hilt]; omega) (by omega) (by rw [ew i hilt]; omega)))) ?_
    refine Rp rfl (pv_move rfl) ?_
    refine Rp rfl (pv_rem rfl rfl (by decide)) ?_
    refine Rp rfl (pv_convert rfl Tryz.runUnderlying3 Tryz.runUnderlying192) ?_
    refine Rp rfl (pv_bin rfl rfl rfl) ?_
    refine Rp rfl (pv_move rfl) ?_
    refine Rp rfl (pv_build (ps := [(0, _), (1, _), (2, _)]) (cs := [_, _, _]) rfl Tryz.zeroValue232 Tryz.runUnderlying232 (.cons Tryz.sizeOf195 (.cons Tryz.sizeOf192 (.cons Tryz.sizeOf28 (.nil)))) rfl) ?_
    refine rl_op0 rfl rfl (ot_store rfl rfl rfl Tryz.sizeOf232 Z0 (rfl : _ = [_, _, _]) rfl (by rfl) (by rfl) (by first | rfl | assumption) (by exact (rfl : _ = [_, _, _]))) ?_
    rintro _ _ rfl
    refine Kn1 6 rfl ?_
    refine ct_ret ?_
    refine fin_ret1 (RVs.agg (us := [_, _, _]) rfl Tryz.isAgg232 Tryz.sizeOf232 Z0 (by rfl) (by rfl) (by rfl) (RVs.nil)) Tryz.results151 ?_ Sees.refl
    refine Rp rfl (pv_move rfl) ?_
    refine Rp rfl (pv_convert rfl Tryz.runUnderlying5 Tryz.runUnderlying28) ?_
    refine rl_call rfl rfl (by decide) Tryz.call152 (vs := [_, _]) rfl Tryz.func152 rfl Tryz.ntmps152 rfl rfl ?_
    refine Cr ?_
    refine Ro rfl (ot_box rfl rfl (rfl : _ = [_, _, _])) ?_
    rintro _ _ ⟨b12, rfl, rfl⟩
    refine Kn2 1 2 rfl ?_
    refine ct_block ?_
    refine ct_loop (α := Unit) (fun _ => [(1, _), (2, _)]) (fun _ => _) (fun _ => 0) () (Knows.cons rfl (Knows.cons rfl (Knows.nil))) Sees.refl ?_
    intro _
    refine ct_seq ?_
    refine ct_seq ?_
    refine ct_planH [.q 0, .q 1, .q 2, .q 4, .e 3, .b 5, .q 6] mixed (by decide +kernel) ?_
    refine pw_q rfl rfl rfl rfl (oq_loadAgg (us := [_, _, _]) rfl rfl Tryz.isAgg232 Tryz.sizeOf232 Z0 (by rfl) (by rfl) (by rfl)) ?_
    refine pw_q rfl rfl rfl rfl (oq_pv (pv_fieldAddr (k := 0) rfl Tryz.runUnderlying232 rfl Tryz.sizeOf195 rfl rfl)) ?_
    refine pw_q rfl rfl rfl rfl (oq_load rfl rfl Tryz.isAgg195 Z0 (by rfl) (by rfl)) ?_
    refine pw_q rfl rfl rfl rfl (oq_pv (pv_move rfl)) ?_
    refine pwe_call rfl rfl rfl rfl Tryz.call54 (vs := [_]) rfl Tryz.func54 rfl Tryz.ntmps54 rfl rfl ?_
    refine Cr ?_
    refine Rp rfl (pv_assign rfl) ?_
    refine Kn1 0 rfl ?_
    refine Cr ?_
    refine Rp rfl (pv_move rfl) ?_
    refine Rp rfl (pv_nilCheck rfl) ?_
    refine Rp rfl (pv_fieldAddr (k := bix (IntKind.i64.wrap (at_ + (i : Int)))) rfl Tryz.runUnderlying149 rfl Tryz.sizeOf28 rfl rfl) ?_
    refine Rq rfl (oq_atomLoad rfl extLoad rfl Z7 (Nat.zero_le_ble) (wget_sub (bix_lt (m := m1) (n := 1) (by rw [ew i hilt]; omega) (by omega) (by rw [ew i hilt]; omega)))) ?_
    refine Rp rfl (pv_assign rfl) ?_
    refine Kn1 2 rfl ?_
    refine ct_ret ?_
    refine fin_ret1 (RVs.tmp rfl (RVs.nil)) Tryz.results54 ?_ Sees.refl
    refine ⟨[], Sees.cons Z0 (Sees.cons Z0 (Sees.cons Z0 (Sees.cons Z0 (Sees.cons Z0 (Sees.cons Z0 (Sees.cons Z0 (Sees.cons Z0 (Sees.cons Z0 (Sees.refl))))))))), ?_⟩
    refine pwb_call rfl rfl rfl rfl Tryz.call170 (vs := [_, _, _]) rfl Tryz.func170 rfl Tryz.ntmps170 rfl rfl ?_
    refine Cr ?_
    refine Ro rfl (ot_box rfl rfl (rfl : _ = [_, _, _])) ?_
    rintro _ _ ⟨b13, rfl, rfl⟩
    refine Rp rfl (pv_assign rfl) ?_
    refine Kn3 1 2 3 rfl ?_
    refine Cr ?_
    refine Rp rfl (pv_fieldAddr (k := 0) rfl Tryz.runUnderlying232 rfl Tryz.sizeOf195 rfl rfl) ?_
    refine Rq rfl (oq_load rfl rfl Tryz.isAgg195 Z0 (by rfl) (by rfl)) ?_
    refine Rp rfl (pv_move rfl) ?_
    refine Rp rfl (pv_move rfl) ?_
    refine Rp rfl (pv_fieldAddr (k := 2) rfl Tryz.runUnderlying232 rfl Tryz.sizeOf28 rfl rfl) ?_
    refine Rq rfl (oq_load rfl rfl Tryz.isAgg28 Z0 (by rfl) (by rfl)) ?_
    refine Rp rfl (pv_fieldAddr (k := 1) rfl Tryz.runUnderlying232 rfl Tryz.sizeOf192 rfl rfl) ?_
    refine Rq rfl (oq_load rfl rfl Tryz.isAgg192 Z0 (by rfl) (by rfl)) ?_
    refine Rp rfl (pv_shl rfl rfl (inK_wrap .u64 _).1) ?_
    refine Rp rfl (pv_bin rfl rfl rfl) ?_
    refine Rp rfl (pv_move rfl) ?_
    refine Rp rfl (pv_fieldAddr (k := 2) rfl Tryz.runUnderlying232 rfl Tryz.sizeOf28 rfl rfl) ?_
    refine Rq rfl (oq_load rfl rfl Tryz.isAgg28 Z0 (by rfl) (by rfl)) ?_
    refine Rp rfl (pv_bin rfl rfl rfl) ?_
    refine Rp rfl (pv_fieldAddr (k := 1) rfl Tryz.runUnderlying232 rfl Tryz.sizeOf192 rfl rfl) ?_
    refine Rq rfl (oq_load rfl rfl Tryz.isAgg192 Z0 (by rfl) (by rfl)) ?_
    refine Rp rfl (pv_shl rfl rfl (inK_wrap .u64 _).1) ?_
    refine Rp rfl (pv_bin rfl rfl rfl) ?_
    refine rl_call rfl rfl (by decide) Tryz.call173 (vs := [_, _, _]) rfl Tryz.func173 rfl Tryz.ntmps173 rfl rfl ?_
    refine Cr ?_
    refine Rp rfl (pv_assign rfl) ?_
    refine Kn3 0 1 2 rfl ?_
    refine Cr ?_
    refine Rp rfl (pv_move rfl) ?_
    refine Rp rfl (pv_nilCheck rfl) ?_
    refine Rp rfl (pv_fieldAddr (k := bix (IntKind.i64.wrap (at_ + (i : Int)))) rfl Tryz.runUnderlying149 rfl Tryz.sizeOf28 rfl rfl) ?_
    refine Rp rfl (pv_move rfl) ?_
    refine Rp rfl (pv_move rfl) ?_
    refine Ro rfl (ot_atomCas rfl extCas rfl Z8 (Nat.zero_le_ble) (wget_sub (bix_lt (m := m1) (n := 1) (by rw [ew i hilt]; omega) (by omega) (by rw [ew i hilt]; omega))) (wput_sub _ _ _)) ?_
    rintro _ _ ⟨rfl, rfl⟩
    refine Rp rfl (pv_assign rfl) ?_
    refine Kn1 6 rfl ?_
    refine ct_ret ?_
    refine fin_ret1 (RVs.tmp rfl (RVs.nil)) Tryz.results173 ?_ Sees.refl
    refine Rp rfl (pv_assign rfl) ?_
    refine Kn1 6 rfl ?_
    refine ct_ret ?_
    refine fin_ret1 (RVs.tmp rfl (RVs.nil)) Tryz.results170 ?_ Sees.refl
    refine pw_q rfl rfl rfl rfl (oq_pv (pv_not rfl)) ?_
    refine pw_done ?_
    refine Kx3 1 2 10 rfl ?_
    refine ct_false rfl ?_
    refine ct_exit ?_
    refine xt_exit_then ?_
    refine xt_exit_then ?_
    refine xt_exit_block ?_
    refine fin_end (RVs.nil) Tryz.results152 ?_ Sees.refl
    refine rl_nil ?_
    refine xt_normal_block ?_
    refine Kx6 0 3 4 40 41 42 rfl ?_
    refine ct_region ?_
    refine Rp rfl (pv_bin rfl rfl rfl) ?_
    refine Rp rfl (pv_move rfl) ?_
    refine rl_nil ?_
    exact xt_round (α := { q : Nat × List Int // q.1 ≤ l.length ∧ mwr q.2 at_ q.1 (l.drop q.1) = mwr m at_ 0 l ∧ q.2.length = m.length }) (E' := fun q => [(0, .pointer (some ⟨bb, 0, none⟩)), (3, .pointer (some ⟨b1, 0, none⟩)), (4, .pointer (some ⟨b2, 0, none⟩)), (40, .slice (some ⟨b0, o0, none⟩) l.length pc), (41, .int .i64 (l.length : Int)), (42, .int .i64 (q.1.1 : Int))]) (H' := fun q => row bb 0 [.slice (some ⟨wb, 0, none⟩) m.length m.length, .int .i64 (IntKind.i64.wrap (cnt + 1))] :: row b4 0 [.int .i64 6, .int .i64 at_, .int .i64 (l.length : Int), .int .u64 v, .int .u64 u, .slice (some ⟨b0, o0, none⟩) l.length pc] :: row b3 0 [.int .i64 6, .int .i64 at_, .int .i64 (l.length : Int), .int .u64 v, .int .u64 u, .slice (some ⟨b0, o0, none⟩) l.length pc] :: row b2 0 [.int .u64 0, .bool false, .slice none 0 0] :: row b1 0 [.int .i64 6, .int .i64 at_, .int .i64 (l.length : Int), .int .u64 v, .int .u64 u, .slice (some ⟨b0, o0, none⟩) l.length pc] :: row wb 0 (wcells q.1.2) :: X :: F) (μ := fun q => l.length - q.1.1) (p := ⟨(i, m1), hi, hg, hl⟩) (⟨(i + 1, mput m1 (IntKind.i64.wrap (at_ + (i : Int))) 1 (IntKind.u64.wrap (c.toNat : Int))), by dsimp only; omega, by rw [← hg]; exact (mwr_step hc).symm, by dsimp only; rw [mput_length]; exact hl⟩) (by show l.length - (i + 1) < l.length - i; omega) (Knows.cons rfl (Knows.cons rfl (Knows.cons rfl (Knows.cons rfl (Knows.cons rfl (Knows.cons (look_int rfl (cnt_wrap (by omega))) (Knows.nil))))))) (Sees.cons Z4 (Sees.cons Z4 (Sees.cons Z4 (Sees.cons Z4 (Sees.cons Z4 (Sees.cons Z0 (Sees.cons Z3 (Sees.skip (Sees.skip (Sees.skip (Sees.refl)))))))))))
  · skip
    refine ct_exit ?_
    refine xt_exit_then ?_
    refine xt_exit_then ?_
    refine xt_exit_block ?_
    refine Kx1 4 rfl ?_
    refine Cr ?_
    refine Rq rfl (oq_loadAgg (us := [_, _, _]) rfl rfl Tryz.isAgg31 Tryz.sizeOf31 Z3 (by rfl) (by rfl) (by rfl)) ?_
    refine rl_op0 rfl rfl (ot_store rfl rfl rfl Tryz.sizeOf31 Z3 (rfl : _ = [_, _, _]) rfl (by rfl) (by rfl) (by first | rfl | assumption) (by exact (rfl : _ = [_, _, _]))) ?_
    rintro _ _ rfl
    refine Rp rfl (pv_assign rfl) ?_
    refine Kn2 4 5 rfl ?_
    refine ct_ret ?_
    refine xt_ret_block ?_
    refine xt_ret_then ?_
    have ei : i = l.length := by omega
    subst ei
    have e2 : m1 = mwr m at_ 0 l := by rw [← hg, List.drop_length]; rfl
    subst e2
    exact fin_ret (RVs.agg (us := [_, _, _]) rfl Tryz.isAgg31 Tryz.sizeOf31 Z0 (by rfl) (by rfl) (by rfl) (RVs.tmp rfl (RVs.nil))) Tryz.results113 ⟨IntKind.i64.wrap (cnt + 1), rfl, rfl⟩ (Sees.cons Z1 (Sees.cons Z4 (Sees.cons Z4 (Sees.skip (Sees.skip (Sees.skip (Sees.skip (Sees.refl))))))))
end Go.Proofs.YtnjljfjncfbinaaGreat
