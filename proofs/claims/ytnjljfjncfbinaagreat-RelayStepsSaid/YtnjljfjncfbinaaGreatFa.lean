/- Contracts: numbers, powers, headers. -/
import Derived.Test.YtnjljfjncfbinaaGreatSq
import Derived.Test.YtnjljfjncfbinaaGreatChecked
import Derived.Test.YtnjljfjncfbinaaGreatSl5
set_option linter.all false
namespace Go.Proofs.YtnjljfjncfbinaaGreat
open Go Go.Proofs
set_option maxRecDepth 100000
set_option linter.unusedVariables false

theorem mixed : Tryz.prog.follows .mixedOrders = true := by kernel_rfl
@[irreducible] def isPow (n : Int) : Bool := decide (n > 0) && decide (iand .i64 n (n - 1) = 0)
def mask (n to : Int) : Int := if isPow to = true then iand .i64 n (to - 1) else 0
/-- What 'Align' answers. -/
def align (n to : Int) : Int × Int :=
  if isPow to = false ∨ n < 0 ∨ n > 4611686018427387904 then (0, 1)
  else if iandNot .i64 n (to - 1) = n then (n, 0)
  else
    let up := IntKind.i64.wrap (iandNot .i64 n (to - 1) + to)
    if up < 0 ∨ up > 4611686018427387904 then (0, 2) else (up, 0)
theorem align_bad (n to : Int) (h : isPow to = false ∨ n < 0 ∨ n > 4611686018427387904) : align n to = (0, 1) := by unfold align; rw [if_pos h]
theorem align_same (n to : Int) (h : isPow to = true) (h1 : 0 ≤ n ∧ n ≤ 4611686018427387904) (h2 : iandNot .i64 n (to - 1) = n) : align n to = (n, 0) := by
  unfold align; rw [if_neg (by rw [h]; simp; omega), if_pos h2]
theorem align_big (n to : Int) (h : isPow to = true) (h1 : 0 ≤ n ∧ n ≤ 4611686018427387904) (h2 : ¬ iandNot .i64 n (to - 1) = n) (h3 : IntKind.i64.wrap (iandNot .i64 n (to - 1) + to) < 0 ∨ IntKind.i64.wrap (iandNot .i64 n (to - 1) + to) > 4611686018427387904) : align n to = (0, 2) := by
  unfold align; rw [if_neg (by rw [h]; simp; omega), if_neg h2]; simp only [if_pos h3]
theorem align_up (n to : Int) (h : isPow to = true) (h1 : 0 ≤ n ∧ n ≤ 4611686018427387904) (h2 : ¬ iandNot .i64 n (to - 1) = n) (h3 : ¬ (IntKind.i64.wrap (iandNot .i64 n (to - 1) + to) < 0 ∨ IntKind.i64.wrap (iandNot .i64 n (to - 1) + to) > 4611686018427387904)) : align n to = (IntKind.i64.wrap (iandNot .i64 n (to - 1) + to), 0) := by
  unfold align; rw [if_neg (by rw [h]; simp; omega), if_neg h2]; simp only [if_neg h3]
def ringErr (base size : Int) : Int := if size < 64 ∨ size > 8192 ∨ isPow size = false ∨ base < 0 ∨ base.tmod 8 ≠ 0 ∨ base > 131072 - size - 32 then 1 else 0
def w32 (n : Int) : Int := IntKind.i32.wrap (IntKind.u32.wrap n)
def split (v : Int) : Int × Int := (w32 v, w32 (v.fdiv 4294967296))
theorem do_spec (ω : World) (b : Nat) (x0 x1 x2 x3 x4 x5 x6 : Value) (xs : List Value) (k at_ n v u : Int) (p : Option Addr) (m q : Nat) (fn : Fn) (l c : Array Value) (F : List HP)  : Spec ω Tryz.prog 86 #[.pointer (some ⟨b, 0, none⟩), .agg #[.int .i64 k, .int .i64 at_, .int .i64 n, .int .u64 v, .int .u64 u, .slice p m q], .func fn l c] (row b 0 (x0 :: x1 :: x2 :: x3 :: x4 :: x5 :: x6 :: xs) :: F) fun v' H' => v' = .tuple #[] ∧ H' = row b 0 (.int .i64 k :: .int .i64 at_ :: .int .i64 n :: .int .u64 v :: .int .u64 u :: .slice p m q :: .func fn l c :: xs) :: F := by
  refine spec_of_body Tryz.func86 rfl Tryz.ntmps86 rfl ?_
  refine Cr ?_
  refine Ro rfl (ot_box rfl rfl (rfl : _ = [_, _, _, _, _, _])) ?_
  rintro _ _ ⟨b4, rfl, rfl⟩
  refine Kn3 0 2 4 rfl ?_
  refine ct_region ?_
  refine Rp rfl (pv_move rfl) ?_
  refine Rp rfl (pv_move rfl) ?_
  refine Rq rfl (oq_loadAgg (us := [_, _, _, _, _, _]) rfl rfl Tryz.isAgg36 Tryz.sizeOf36 (by repeat (first | exact Z0 | apply Sel.there)) (by rfl) (by rfl) (by rfl)) ?_
  refine Rp rfl (pv_move rfl) ?_
  refine Rp rfl (pv_nilCheck rfl) ?_
  refine Rp rfl (pv_fieldAddr (k := 0) rfl Tryz.runUnderlying133 rfl Tryz.sizeOf36 rfl rfl) ?_
  refine rl_op0 rfl rfl (ot_store rfl rfl rfl Tryz.sizeOf36 (by repeat (first | exact Z0 | apply Sel.there)) (rfl : _ = [_, _, _, _, _, _]) rfl (by rfl) (by rfl) (by first | rfl | assumption) (by exact (rfl : _ = _ :: _ :: _ :: _ :: _ :: _ :: _))) ?_
  rintro _ _ rfl
  refine Rp rfl (pv_nilCheck rfl) ?_
  refine Rp rfl (pv_fieldAddr (k := 6) rfl Tryz.runUnderlying133 rfl Tryz.sizeOf49 rfl rfl) ?_
  refine rl_op0 rfl rfl (ot_store rfl rfl rfl Tryz.sizeOf49 (by repeat (first | exact Z0 | apply Sel.there)) (rfl : _ = [_]) rfl (by rfl) (by rfl) (by first | rfl | assumption) (by exact (rfl : _ = _ :: _ :: _ :: _ :: _ :: _ :: _ :: _))) ?_
  rintro _ _ rfl
  refine rl_nil ?_
  exact fin_end (RVs.nil) Tryz.results86 (⟨rfl, rfl⟩) (by repeat (first | exact Sees.refl | (apply Sees.cons; (focus ((repeat (first | exact Z0 | apply Sel.there)); done))) | apply Sees.skip))
theorem isPower_pure (n : Int) (h : inK .i64 n) : PureSpec Tryz.prog 129 #[.int .i64 n] (.bool (isPow n)) := by
  intro ω F
  refine spec_of_body Tryz.func129 rfl Tryz.ntmps129 rfl ?_
  refine Cr ?_
  refine Rp rfl (pv_assign rfl) ?_
  refine Kn1 0 rfl ?_
  refine Cr ?_
  refine Rp rfl (pv_move rfl) ?_
  refine Rp rfl (pv_bin rfl rfl rfl) ?_
  refine Rp rfl (pv_move rfl) ?_
  first | refine rl_split_d (fun h5 => ?_) (fun h5 => ?_) | refine rl_split_n (fun h5 => ?_) (fun h5 => ?_) | refine rl_split_b (fun h5 => ?_) (fun h5 => ?_) | refine rl_split (fun h5 => ?_) (fun h5 => ?_)
  · skip
    refine Ru rfl (pv_move rfl) ?_
    refine Ru rfl (pv_move rfl) ?_
    refine Ru rfl (pv_sub rfl rfl ⟨by omega, by omega⟩) ?_
    refine Ru rfl (pv_bin rfl rfl rfl) ?_
    refine Ru rfl (pv_bin rfl rfl rfl) ?_
    refine Rp rfl (pv_pick1 rfl rfl) ?_
    refine Rp rfl (pv_assign rfl) ?_
    refine Kn1 2 rfl ?_
    refine ct_ret ?_
    refine fin_ret (H' := F) (RVs.tmp rfl (RVs.nil)) Tryz.results129 (?_) ?_
    · refine ⟨?_, rfl⟩; unfold isPow; simp_all [resOf]; try omega
    · exact (by repeat (first | exact Sees.refl | (apply Sees.cons; (focus ((repeat (first | exact Z0 | apply Sel.there)); done))) | apply Sees.skip))
  · skip
    refine rl_u rfl rfl (by decide) ?_
    refine rl_u rfl rfl (by decide) ?_
    refine rl_u rfl rfl (by decide) ?_
    refine rl_u rfl rfl (by decide) ?_
    refine rl_u rfl rfl (by decide) ?_
    refine Rp rfl (pv_pick0 rfl rfl) ?_
    refine Rp rfl (pv_assign rfl) ?_
    refine Kn1 2 rfl ?_
    refine ct_ret ?_
    refine fin_ret (H' := F) (RVs.tmp rfl (RVs.nil)) Tryz.results129 (?_) ?_
    · refine ⟨?_, rfl⟩; unfold isPow; simp_all [resOf]; try omega
    · exact (by repeat (first | exact Sees.refl | (apply Sees.cons; (focus ((repeat (first | exact Z0 | apply Sel.there)); done))) | apply Sees.skip))
theorem isPow_pos {n : Int} (h : isPow n = true) : 0 < n := by unfold isPow at h; simp at h; omega
theorem inK_iandNot (k : IntKind) (a b : Int) : inK k (iandNot k a b) := inK_wrap _ _
theorem inK_iand (k : IntKind) (a b : Int) : inK k (iand k a b) := inK_wrap _ _
theorem mask_pure (n to : Int) (h : inK .i64 to) : PureSpec Tryz.prog 141 #[.int .i64 n, .int .i64 to] (.int .i64 (mask n to)) := by
  intro ω F
  refine spec_of_body Tryz.func141 rfl Tryz.ntmps141 rfl ?_
  refine Cr ?_
  refine Rp rfl (pv_assign rfl) ?_
  refine Kn2 0 1 rfl ?_
  refine ct_seq ?_
  refine Cr ?_
  refine Rp rfl (pv_move rfl) ?_
  refine Rq rfl (oq_call rfl Tryz.call129 (vs := [_]) rfl (isPower_pure _ ⟨by omega, by omega⟩)) ?_
  refine Rp rfl (pv_not rfl) ?_
  refine Kn3 0 1 7 rfl ?_
  first | refine ct_cond_d rfl (fun h7 => ?_) (fun h7 => ?_) | refine ct_cond_n rfl (fun h7 => ?_) (fun h7 => ?_) | refine ct_cond_b rfl (fun h7 => ?_) (fun h7 => ?_) | refine ct_cond rfl (fun h7 => ?_) (fun h7 => ?_)
  · skip
    refine Cr ?_
    refine Rp rfl (pv_assign rfl) ?_
    refine Kn1 4 rfl ?_
    refine ct_ret ?_
    refine xt_ret_then ?_
    refine fin_ret (H' := F) (RVs.tmp rfl (RVs.nil)) Tryz.results141 (?_) ?_
    · refine ⟨?_, rfl⟩; simp only [resOf, mask]; repeat' split; all_goals (first | rfl | (simp_all; done) | (exfalso; simp_all; omega) | omega)
    · exact (by repeat (first | exact Sees.refl | (apply Sees.cons; (focus ((repeat (first | exact Z0 | apply Sel.there)); done))) | apply Sees.skip))
  · have := isPow_pos h7
    refine ct_skip ?_
    refine Kx2 0 1 rfl ?_
    refine Cr ?_
    refine Rp rfl (pv_move rfl) ?_
    refine Rp rfl (pv_move rfl) ?_
    refine Rp rfl (pv_sub rfl rfl ⟨by omega, by omega⟩) ?_
    refine Rp rfl (pv_bin rfl rfl rfl) ?_
    refine Rp rfl (pv_assign rfl) ?_
    refine Kn1 4 rfl ?_
    refine ct_ret ?_
    refine fin_ret (H' := F) (RVs.tmp rfl (RVs.nil)) Tryz.results141 (?_) ?_
    · refine ⟨?_, rfl⟩; simp only [resOf, mask]; repeat' split; all_goals (first | rfl | (simp_all; done) | (exfalso; simp_all; omega) | omega)
    · exact (by repeat (first | exact Sees.refl | (apply Sees.cons; (focus ((repeat (first | exact Z0 | apply Sel.there)); done))) | apply Sees.skip))
theorem align_pure (n to : Int) (hn : inK .i64 n) (ht : inK .i64 to) : PureSpec Tryz.prog 135 #[.int .i64 n, .int .i64 to] (.tuple #[.int .i64 (align n to).1, .int .i64 (align n to).2]) := by
  intro ω F
  refine spec_of_body Tryz.func135 rfl Tryz.ntmps135 rfl ?_
  refine Cr ?_
  refine Rp rfl (pv_assign rfl) ?_
  refine Rp rfl (pv_assign rfl) ?_
  refine Kn2 0 1 rfl ?_
  refine ct_seq ?_
  refine ct_block ?_
  refine Cr ?_
  refine Rp rfl (pv_move rfl) ?_
  refine Rq rfl (oq_call rfl Tryz.call129 (vs := [_]) rfl (isPower_pure _ ⟨by omega, by omega⟩)) ?_
  refine Rp rfl (pv_not rfl) ?_
  refine Rp rfl (pv_move rfl) ?_
  first | refine rl_split_d (fun h11 => ?_) (fun h11 => ?_) | refine rl_split_n (fun h11 => ?_) (fun h11 => ?_) | refine rl_split_b (fun h11 => ?_) (fun h11 => ?_) | refine rl_split (fun h11 => ?_) (fun h11 => ?_)
  · skip
    refine rl_u rfl rfl (by decide) ?_
    refine rl_u rfl rfl (by decide) ?_
    refine Rp rfl (pv_pick1 rfl rfl) ?_
    refine Rp rfl (pv_move rfl) ?_
    refine rl_u rfl rfl (by decide) ?_
    refine rl_u rfl rfl (by decide) ?_
    refine Rp rfl (pv_pick1 rfl rfl) ?_
    refine Rp rfl (pv_assign rfl) ?_
    refine Kn3 0 1 7 rfl ?_
    refine ct_true rfl ?_
    refine Cr ?_
    refine Rp rfl (pv_assign rfl) ?_
    refine Rp rfl (pv_assign rfl) ?_
    refine Kn2 4 5 rfl ?_
    refine ct_ret ?_
    refine xt_ret_block ?_
    refine xt_ret_then ?_
    refine fin_ret (H' := F) (RVs.tmp rfl (RVs.tmp rfl (RVs.nil))) Tryz.results135 (?_) ?_
    · refine ⟨?_, rfl⟩; first | (rw [align_bad n to (by first | (exact .inl h11) | (right; omega))]; rfl) | (rw [align_same n to h11 (by omega) (by assumption)]; rfl) | (rw [align_big n to h11 (by omega) (by assumption) (by omega)]; rfl) | (rw [align_up n to h11 (by omega) (by assumption) (by omega)]; rfl)
    · exact (by repeat (first | exact Sees.refl | (apply Sees.cons; (focus ((repeat (first | exact Z0 | apply Sel.there)); done))) | apply Sees.skip))
  · have hp := isPow_pos h11
    refine Ru rfl (pv_move rfl) ?_
    refine Ru rfl (pv_bin rfl rfl rfl) ?_
    refine Rp rfl (pv_pick0 rfl rfl) ?_
    refine Rp rfl (pv_move rfl) ?_
    first | refine rl_split_d (fun h15 => ?_) (fun h15 => ?_) | refine rl_split_n (fun h15 => ?_) (fun h15 => ?_) | refine rl_split_b (fun h15 => ?_) (fun h15 => ?_) | refine rl_split (fun h15 => ?_) (fun h15 => ?_)
    · skip
      refine rl_u rfl rfl (by decide) ?_
      refine rl_u rfl rfl (by decide) ?_
      refine Rp rfl (pv_pick1 rfl rfl) ?_
      refine Rp rfl (pv_assign rfl) ?_
      refine Kn3 0 1 7 rfl ?_
      refine ct_true rfl ?_
      refine Cr ?_
      refine Rp rfl (pv_assign rfl) ?_
      refine Rp rfl (pv_assign rfl) ?_
      refine Kn2 4 5 rfl ?_
      refine ct_ret ?_
      refine xt_ret_block ?_
      refine xt_ret_then ?_
      refine fin_ret (H' := F) (RVs.tmp rfl (RVs.tmp rfl (RVs.nil))) Tryz.results135 (?_) ?_
      · refine ⟨?_, rfl⟩; first | (rw [align_bad n to (by first | (exact .inl h11) | (right; omega))]; rfl) | (rw [align_same n to h11 (by omega) (by assumption)]; rfl) | (rw [align_big n to h11 (by omega) (by assumption) (by omega)]; rfl) | (rw [align_up n to h11 (by omega) (by assumption) (by omega)]; rfl)
      · exact (by repeat (first | exact Sees.refl | (apply Sees.cons; (focus ((repeat (first | exact Z0 | apply Sel.there)); done))) | apply Sees.skip))
    · skip
      refine Ru rfl (pv_move rfl) ?_
      refine Ru rfl (pv_bin rfl rfl rfl) ?_
      refine Rp rfl (pv_pick0 rfl rfl) ?_
      refine Rp rfl (pv_assign rfl) ?_
      refine Kn3 0 1 7 rfl ?_
      first | refine ct_cond_d rfl (fun h7 => ?_) (fun h7 => ?_) | refine ct_cond_n rfl (fun h7 => ?_) (fun h7 => ?_) | refine ct_cond_b rfl (fun h7 => ?_) (fun h7 => ?_) | refine ct_cond rfl (fun h7 => ?_) (fun h7 => ?_)
      · skip
        refine Cr ?_
        refine Rp rfl (pv_assign rfl) ?_
        refine Rp rfl (pv_assign rfl) ?_
        refine Kn2 4 5 rfl ?_
        refine ct_ret ?_
        refine xt_ret_block ?_
        refine xt_ret_then ?_
        refine fin_ret (H' := F) (RVs.tmp rfl (RVs.tmp rfl (RVs.nil))) Tryz.results135 (?_) ?_
        · refine ⟨?_, rfl⟩; first | (rw [align_bad n to (by first | (exact .inl h11) | (right; omega))]; rfl) | (rw [align_same n to h11 (by omega) (by assumption)]; rfl) | (rw [align_big n to h11 (by omega) (by assumption) (by omega)]; rfl) | (rw [align_up n to h11 (by omega) (by assumption) (by omega)]; rfl)
        · exact (by repeat (first | exact Sees.refl | (apply Sees.cons; (focus ((repeat (first | exact Z0 | apply Sel.there)); done))) | apply Sees.skip))
      · skip
        refine Cr ?_
        refine Rp rfl (pv_move rfl) ?_
        refine Rp rfl (pv_move rfl) ?_
        refine Rp rfl (pv_sub rfl rfl ⟨by omega, by omega⟩) ?_
        refine Rp rfl (pv_bin rfl rfl rfl) ?_
        refine Rp rfl (pv_move rfl) ?_
        refine Rp rfl (pv_bin rfl rfl rfl) ?_
        refine Rp rfl (pv_assign rfl) ?_
        refine Kn3 0 1 19 rfl ?_
        first | refine ct_cond_d rfl (fun h19 => ?_) (fun h19 => ?_) | refine ct_cond_n rfl (fun h19 => ?_) (fun h19 => ?_) | refine ct_cond_b rfl (fun h19 => ?_) (fun h19 => ?_) | refine ct_cond rfl (fun h19 => ?_) (fun h19 => ?_)
        · skip
          refine Cr ?_
          refine Rp rfl (pv_move rfl) ?_
          refine Rp rfl (pv_assign rfl) ?_
          refine Rp rfl (pv_assign rfl) ?_
          refine Kn2 4 5 rfl ?_
          refine ct_ret ?_
          refine xt_ret_block ?_
          refine xt_ret_then ?_
          refine fin_ret (H' := F) (RVs.tmp rfl (RVs.tmp rfl (RVs.nil))) Tryz.results135 (?_) ?_
          · refine ⟨?_, rfl⟩; first | (rw [align_bad n to (by first | (exact .inl h11) | (right; omega))]; rfl) | (rw [align_same n to h11 (by omega) (by assumption)]; rfl) | (rw [align_big n to h11 (by omega) (by assumption) (by omega)]; rfl) | (rw [align_up n to h11 (by omega) (by assumption) (by omega)]; rfl)
          · exact (by repeat (first | exact Sees.refl | (apply Sees.cons; (focus ((repeat (first | exact Z0 | apply Sel.there)); done))) | apply Sees.skip))
        · skip
          refine ct_skip ?_
          refine xt_normal_block ?_
          refine Kx2 0 1 rfl ?_
          refine Cr ?_
          refine Rp rfl (pv_move rfl) ?_
          refine Rp rfl (pv_move rfl) ?_
          refine Rp rfl (pv_sub rfl rfl ⟨by omega, by omega⟩) ?_
          refine Rp rfl (pv_bin rfl rfl rfl) ?_
          skip
          refine Rp rfl (pv_move rfl) ?_
          refine Rp rfl (pv_bin rfl rfl rfl) ?_
          refine Rp rfl (pv_assign rfl) ?_
          refine Kn1 6 rfl ?_
          refine ct_seq ?_
          refine Cr ?_
          refine Rp rfl (pv_move rfl) ?_
          refine Rp rfl (pv_bin rfl rfl rfl) ?_
          refine Rp rfl (pv_move rfl) ?_
          first | refine rl_split_d (fun h35 => ?_) (fun h35 => ?_) | refine rl_split_n (fun h35 => ?_) (fun h35 => ?_) | refine rl_split_b (fun h35 => ?_) (fun h35 => ?_) | refine rl_split (fun h35 => ?_) (fun h35 => ?_)
          · skip
            refine rl_u rfl rfl (by decide) ?_
            refine rl_u rfl rfl (by decide) ?_
            refine Rp rfl (pv_pick1 rfl rfl) ?_
            refine Kn2 6 38 rfl ?_
            refine ct_true rfl ?_
            refine Cr ?_
            refine Rp rfl (pv_assign rfl) ?_
            refine Rp rfl (pv_assign rfl) ?_
            refine Kn2 4 5 rfl ?_
            refine ct_ret ?_
            refine xt_ret_then ?_
            refine fin_ret (H' := F) (RVs.tmp rfl (RVs.tmp rfl (RVs.nil))) Tryz.results135 (?_) ?_
            · refine ⟨?_, rfl⟩; first | (rw [align_bad n to (by first | (exact .inl h11) | (right; omega))]; rfl) | (rw [align_same n to h11 (by omega) (by assumption)]; rfl) | (rw [align_big n to h11 (by omega) (by assumption) (by omega)]; rfl) | (rw [align_up n to h11 (by omega) (by assumption) (by omega)]; rfl)
            · exact (by repeat (first | exact Sees.refl | (apply Sees.cons; (focus ((repeat (first | exact Z0 | apply Sel.there)); done))) | apply Sees.skip))
          · skip
            refine Ru rfl (pv_move rfl) ?_
            refine Ru rfl (pv_bin rfl rfl rfl) ?_
            refine Rp rfl (pv_pick0 rfl rfl) ?_
            refine Kn2 6 38 rfl ?_
            first | refine ct_cond_d rfl (fun h38 => ?_) (fun h38 => ?_) | refine ct_cond_n rfl (fun h38 => ?_) (fun h38 => ?_) | refine ct_cond_b rfl (fun h38 => ?_) (fun h38 => ?_) | refine ct_cond rfl (fun h38 => ?_) (fun h38 => ?_)
            · skip
              refine Cr ?_
              refine Rp rfl (pv_assign rfl) ?_
              refine Rp rfl (pv_assign rfl) ?_
              refine Kn2 4 5 rfl ?_
              refine ct_ret ?_
              refine xt_ret_then ?_
              refine fin_ret (H' := F) (RVs.tmp rfl (RVs.tmp rfl (RVs.nil))) Tryz.results135 (?_) ?_
              · refine ⟨?_, rfl⟩; first | (rw [align_bad n to (by first | (exact .inl h11) | (right; omega))]; rfl) | (rw [align_same n to h11 (by omega) (by assumption)]; rfl) | (rw [align_big n to h11 (by omega) (by assumption) (by omega)]; rfl) | (rw [align_up n to h11 (by omega) (by assumption) (by omega)]; rfl)
              · exact (by repeat (first | exact Sees.refl | (apply Sees.cons; (focus ((repeat (first | exact Z0 | apply Sel.there)); done))) | apply Sees.skip))
            · skip
              refine ct_skip ?_
              refine Kx1 6 rfl ?_
              refine Cr ?_
              refine Rp rfl (pv_move rfl) ?_
              refine Rp rfl (pv_assign rfl) ?_
              refine Rp rfl (pv_assign rfl) ?_
              refine Kn2 4 5 rfl ?_
              refine ct_ret ?_
              refine fin_ret (H' := F) (RVs.tmp rfl (RVs.tmp rfl (RVs.nil))) Tryz.results135 (?_) ?_
              · refine ⟨?_, rfl⟩; first | (rw [align_bad n to (by first | (exact .inl h11) | (right; omega))]; rfl) | (rw [align_same n to h11 (by omega) (by assumption)]; rfl) | (rw [align_big n to h11 (by omega) (by assumption) (by omega)]; rfl) | (rw [align_up n to h11 (by omega) (by assumption) (by omega)]; rfl)
              · exact (by repeat (first | exact Sees.refl | (apply Sees.cons; (focus ((repeat (first | exact Z0 | apply Sel.there)); done))) | apply Sees.skip))
theorem split_pure (n : Int) (h : inK .u64 n) : PureSpec Tryz.prog 134 #[.int .u64 n] (.tuple #[.int .i32 (split n).1, .int .i32 (split n).2]) := by
  intro ω F
  refine spec_of_body Tryz.func134 rfl Tryz.ntmps134 rfl ?_
  refine Cr ?_
  refine Rp rfl (pv_assign rfl) ?_
  refine Rp rfl (pv_assign rfl) ?_
  refine Kn1 0 rfl ?_
  refine Cr ?_
  refine Rp rfl (pv_move rfl) ?_
  refine Rp rfl (pv_convert rfl Tryz.runUnderlying28 Tryz.runUnderlying86) ?_
  refine Rp rfl (pv_convert rfl Tryz.runUnderlying86 Tryz.runUnderlying21) ?_
  refine Rp rfl (pv_move rfl) ?_
  refine Rp rfl (pv_shr rfl rfl (by omega)) ?_
  refine Rp rfl (pv_convert rfl Tryz.runUnderlying28 Tryz.runUnderlying86) ?_
  refine Rp rfl (pv_convert rfl Tryz.runUnderlying86 Tryz.runUnderlying21) ?_
  refine Rp rfl (pv_assign rfl) ?_
  refine Rp rfl (pv_assign rfl) ?_
  refine Kn2 2 3 rfl ?_
  refine ct_ret ?_
  refine fin_ret (H' := F) (RVs.tmp rfl (RVs.tmp rfl (RVs.nil))) Tryz.results134 (?_) ?_
  · refine ⟨?_, rfl⟩; simp only [resOf, split, w32]; rfl
  · exact (by repeat (first | exact Sees.refl | (apply Sees.cons; (focus ((repeat (first | exact Z0 | apply Sel.there)); done))) | apply Sees.skip))
theorem size_pure (n h to : Int) (hn : inK .i64 n) (hh : 0 ≤ h ∧ h ≤ 64) (ht : inK .i64 to) : PureSpec Tryz.prog 118 #[.int .i64 n, .int .i64 h, .int .i64 to] (if n < 0 ∨ n > 131072 then .tuple #[.int .i64 0, .int .i64 1] else .tuple #[.int .i64 (align (n + h) to).1, .int .i64 (align (n + h) to).2]) := by
  intro ω F
  refine spec_of_body Tryz.func118 rfl Tryz.ntmps118 rfl ?_
  refine Cr ?_
  refine Rp rfl (pv_assign rfl) ?_
  refine Rp rfl (pv_assign rfl) ?_
  refine Kn3 0 1 2 rfl ?_
  refine ct_seq ?_
  refine Cr ?_
  refine Rp rfl (pv_move rfl) ?_
  refine Rp rfl (pv_bin rfl rfl rfl) ?_
  refine Rp rfl (pv_move rfl) ?_
  first | refine rl_split_d (fun h12 => ?_) (fun h12 => ?_) | refine rl_split_n (fun h12 => ?_) (fun h12 => ?_) | refine rl_split_b (fun h12 => ?_) (fun h12 => ?_) | refine rl_split (fun h12 => ?_) (fun h12 => ?_)
  · skip
    refine rl_u rfl rfl (by decide) ?_
    refine rl_u rfl rfl (by decide) ?_
    refine Rp rfl (pv_pick1 rfl rfl) ?_
    refine Kn4 0 1 2 15 rfl ?_
    refine ct_true rfl ?_
    refine Cr ?_
    refine Rp rfl (pv_assign rfl) ?_
    refine Rp rfl (pv_assign rfl) ?_
    refine Kn2 6 7 rfl ?_
    refine ct_ret ?_
    refine xt_ret_then ?_
    refine fin_ret (H' := F) (RVs.tmp rfl (RVs.tmp rfl (RVs.nil))) Tryz.results118 (?_) ?_
    · refine ⟨?_, rfl⟩; simp only [resOf]; repeat' split; all_goals (first | rfl | (simp_all; done) | (exfalso; simp_all; omega) | omega)
    · exact (by repeat (first | exact Sees.refl | (apply Sees.cons; (focus ((repeat (first | exact Z0 | apply Sel.there)); done))) | apply Sees.skip))
  · skip
    refine Ru rfl (pv_move rfl) ?_
    refine Ru rfl (pv_bin rfl rfl rfl) ?_
    refine Rp rfl (pv_pick0 rfl rfl) ?_
    refine Kn4 0 1 2 15 rfl ?_
    first | refine ct_cond_d rfl (fun h15 => ?_) (fun h15 => ?_) | refine ct_cond_n rfl (fun h15 => ?_) (fun h15 => ?_) | refine ct_cond_b rfl (fun h15 => ?_) (fun h15 => ?_) | refine ct_cond rfl (fun h15 => ?_) (fun h15 => ?_)
    · skip
      refine Cr ?_
      refine Rp rfl (pv_assign rfl) ?_
      refine Rp rfl (pv_assign rfl) ?_
      refine Kn2 6 7 rfl ?_
      refine ct_ret ?_
      refine xt_ret_then ?_
      refine fin_ret (H' := F) (RVs.tmp rfl (RVs.tmp rfl (RVs.nil))) Tryz.results118 (?_) ?_
      · refine ⟨?_, rfl⟩; simp only [resOf]; repeat' split; all_goals (first | rfl | (simp_all; done) | (exfalso; simp_all; omega) | omega)
      · exact (by repeat (first | exact Sees.refl | (apply Sees.cons; (focus ((repeat (first | exact Z0 | apply Sel.there)); done))) | apply Sees.skip))
    · skip
      refine ct_skip ?_
      refine Kx3 0 1 2 rfl ?_
      refine Cr ?_
      refine Rp rfl (pv_move rfl) ?_
      refine Rp rfl (pv_move rfl) ?_
      refine Rp rfl (pv_add rfl rfl ⟨by omega, by omega⟩) ?_
      refine Rp rfl (pv_move rfl) ?_
      refine Rq rfl (oq_call rfl Tryz.call135 (vs := [_, _]) rfl (align_pure _ _ ⟨by omega, by omega⟩ ⟨by omega, by omega⟩)) ?_
      refine Rp rfl (pv_move rfl) ?_
      refine Rp rfl (pv_extract rfl rfl) ?_
      refine Rp rfl (pv_extract rfl rfl) ?_
      refine Rp rfl (pv_assign rfl) ?_
      refine Rp rfl (pv_assign rfl) ?_
      refine Kn2 8 9 rfl ?_
      refine Cr ?_
      refine Rp rfl (pv_move rfl) ?_
      refine Rp rfl (pv_move rfl) ?_
      refine Rp rfl (pv_assign rfl) ?_
      refine Rp rfl (pv_assign rfl) ?_
      refine Kn2 6 7 rfl ?_
      refine ct_ret ?_
      refine fin_ret (H' := F) (RVs.tmp rfl (RVs.tmp rfl (RVs.nil))) Tryz.results118 (?_) ?_
      · refine ⟨?_, rfl⟩; simp only [resOf]; repeat' split; all_goals (first | rfl | (simp_all; done) | (exfalso; simp_all; omega) | omega)
      · exact (by repeat (first | exact Sees.refl | (apply Sees.cons; (focus ((repeat (first | exact Z0 | apply Sel.there)); done))) | apply Sees.skip))
theorem ringCheck_pure (base size : Int) (hb : inK .i64 base) (hs : inK .i64 size) : PureSpec Tryz.prog 100 #[.agg #[.int .i64 base, .int .i64 size]] (.int .i64 (ringErr base size)) := by
  intro ω F
  refine spec_of_body Tryz.func100 rfl Tryz.ntmps100 rfl ?_
  refine Cr ?_
  refine Ro rfl (ot_box rfl rfl (rfl : _ = [_, _])) ?_
  rintro _ _ ⟨b1, rfl, rfl⟩
  refine Rp rfl (pv_assign rfl) ?_
  refine Kn1 1 rfl ?_
  refine ct_seq ?_
  refine Cr ?_
  refine Rp rfl (pv_fieldAddr (k := 1) rfl Tryz.runUnderlying23 rfl Tryz.sizeOf3 rfl rfl) ?_
  refine Rq rfl (oq_load rfl rfl Tryz.isAgg3 (by repeat (first | exact Z0 | apply Sel.there)) (by rfl) (by rfl)) ?_
  refine Rp rfl (pv_bin rfl rfl rfl) ?_
  refine Rp rfl (pv_move rfl) ?_
  first | refine rl_split_d (fun h6 => ?_) (fun h6 => ?_) | refine rl_split_n (fun h6 => ?_) (fun h6 => ?_) | refine rl_split_b (fun h6 => ?_) (fun h6 => ?_) | refine rl_split (fun h6 => ?_) (fun h6 => ?_)
  · skip
    refine rl_u rfl rfl (by decide) ?_
    refine rl_u rfl rfl (by decide) ?_
    refine rl_u rfl rfl (by decide) ?_
    refine Rp rfl (pv_pick1 rfl rfl) ?_
    refine Rp rfl (pv_move rfl) ?_
    refine rl_u rfl rfl (by decide) ?_
    refine rl_u rfl rfl (by decide) ?_
    refine rl_u rfl rfl (by decide) ?_
    refine rl_u rfl rfl (by decide) ?_
    refine Rp rfl (pv_pick1 rfl rfl) ?_
    refine Rp rfl (pv_move rfl) ?_
    refine rl_u rfl rfl (by decide) ?_
    refine rl_u rfl rfl (by decide) ?_
    refine rl_u rfl rfl (by decide) ?_
    refine Rp rfl (pv_pick1 rfl rfl) ?_
    refine Rp rfl (pv_move rfl) ?_
    refine rl_u rfl rfl (by decide) ?_
    refine rl_u rfl rfl (by decide) ?_
    refine rl_u rfl rfl (by decide) ?_
    refine rl_u rfl rfl (by decide) ?_
    refine Rp rfl (pv_pick1 rfl rfl) ?_
    refine Rp rfl (pv_move rfl) ?_
    refine rl_u rfl rfl (by decide) ?_
    refine rl_u rfl rfl (by decide) ?_
    refine rl_u rfl rfl (by decide) ?_
    refine rl_u rfl rfl (by decide) ?_
    refine rl_u rfl rfl (by decide) ?_
    refine rl_u rfl rfl (by decide) ?_
    refine rl_u rfl rfl (by decide) ?_
    refine Rp rfl (pv_pick1 rfl rfl) ?_
    refine Kn1 36 rfl ?_
    refine ct_true rfl ?_
    refine Cr ?_
    refine Rp rfl (pv_assign rfl) ?_
    refine Kn1 2 rfl ?_
    refine ct_ret ?_
    refine xt_ret_then ?_
    refine fin_ret (H' := F) (RVs.tmp rfl (RVs.nil)) Tryz.results100 (?_) ?_
    · refine ⟨?_, rfl⟩; simp only [resOf, ringErr]; repeat' split; all_goals (first | rfl | (simp_all; done) | (exfalso; simp_all; omega) | omega)
    · exact (by repeat (first | exact Sees.refl | (apply Sees.cons; (focus ((repeat (first | exact Z0 | apply Sel.there)); done))) | apply Sees.skip))
  · skip
    refine Ru rfl (pv_fieldAddr (k := 1) rfl Tryz.runUnderlying23 rfl Tryz.sizeOf3 rfl rfl) ?_
    refine Rv rfl (oq_load rfl rfl Tryz.isAgg3 (by repeat (first | exact Z0 | apply Sel.there)) (by rfl) (by rfl)) ?_
    refine Ru rfl (pv_bin rfl rfl rfl) ?_
    refine Rp rfl (pv_pick0 rfl rfl) ?_
    refine Rp rfl (pv_move rfl) ?_
    first | refine rl_split_d (fun h11 => ?_) (fun h11 => ?_) | refine rl_split_n (fun h11 => ?_) (fun h11 => ?_) | refine rl_split_b (fun h11 => ?_) (fun h11 => ?_) | refine rl_split (fun h11 => ?_) (fun h11 => ?_)
    · skip
      refine rl_u rfl rfl (by decide) ?_
      refine rl_u rfl rfl (by decide) ?_
      refine rl_u rfl rfl (by decide) ?_
      refine rl_u rfl rfl (by decide) ?_
      refine Rp rfl (pv_pick1 rfl rfl) ?_
      refine Rp rfl (pv_move rfl) ?_
      refine rl_u rfl rfl (by decide) ?_
      refine rl_u rfl rfl (by decide) ?_
      refine rl_u rfl rfl (by decide) ?_
      refine Rp rfl (pv_pick1 rfl rfl) ?_
      refine Rp rfl (pv_move rfl) ?_
      refine rl_u rfl rfl (by decide) ?_
      refine rl_u rfl rfl (by decide) ?_
      refine rl_u rfl rfl (by decide) ?_
      refine rl_u rfl rfl (by decide) ?_
      refine Rp rfl (pv_pick1 rfl rfl) ?_
      refine Rp rfl (pv_move rfl) ?_
      refine rl_u rfl rfl (by decide) ?_
      refine rl_u rfl rfl (by decide) ?_
      refine rl_u rfl rfl (by decide) ?_
      refine rl_u rfl rfl (by decide) ?_
      refine rl_u rfl rfl (by decide) ?_
      refine rl_u rfl rfl (by decide) ?_
      refine rl_u rfl rfl (by decide) ?_
      refine Rp rfl (pv_pick1 rfl rfl) ?_
      refine Kn1 36 rfl ?_
      refine ct_true rfl ?_
      refine Cr ?_
      refine Rp rfl (pv_assign rfl) ?_
      refine Kn1 2 rfl ?_
      refine ct_ret ?_
      refine xt_ret_then ?_
      refine fin_ret (H' := F) (RVs.tmp rfl (RVs.nil)) Tryz.results100 (?_) ?_
      · refine ⟨?_, rfl⟩; simp only [resOf, ringErr]; repeat' split; all_goals (first | rfl | (simp_all; done) | (exfalso; simp_all; omega) | omega)
      · exact (by repeat (first | exact Sees.refl | (apply Sees.cons; (focus ((repeat (first | exact Z0 | apply Sel.there)); done))) | apply Sees.skip))
    · skip
      refine Ru rfl (pv_fieldAddr (k := 1) rfl Tryz.runUnderlying23 rfl Tryz.sizeOf3 rfl rfl) ?_
      refine Rv rfl (oq_load rfl rfl Tryz.isAgg3 (by repeat (first | exact Z0 | apply Sel.there)) (by rfl) (by rfl)) ?_
      refine Rv rfl (oq_call rfl Tryz.call129 (vs := [_]) rfl (isPower_pure _ ⟨by omega, by omega⟩)) ?_
      refine Ru rfl (pv_not rfl) ?_
      refine Rp rfl (pv_pick0 rfl rfl) ?_
      refine Rp rfl (pv_move rfl) ?_
      first | refine rl_split_d (fun h17 => ?_) (fun h17 => ?_) | refine rl_split_n (fun h17 => ?_) (fun h17 => ?_) | refine rl_split_b (fun h17 => ?_) (fun h17 => ?_) | refine rl_split (fun h17 => ?_) (fun h17 => ?_)
      · skip
        refine rl_u rfl rfl (by decide) ?_
        refine rl_u rfl rfl (by decide) ?_
        refine rl_u rfl rfl (by decide) ?_
        refine Rp rfl (pv_pick1 rfl rfl) ?_
        refine Rp rfl (pv_move rfl) ?_
        refine rl_u rfl rfl (by decide) ?_
        refine rl_u rfl rfl (by decide) ?_
        refine rl_u rfl rfl (by decide) ?_
        refine rl_u rfl rfl (by decide) ?_
        refine Rp rfl (pv_pick1 rfl rfl) ?_
        refine Rp rfl (pv_move rfl) ?_
        refine rl_u rfl rfl (by decide) ?_
        refine rl_u rfl rfl (by decide) ?_
        refine rl_u rfl rfl (by decide) ?_
        refine rl_u rfl rfl (by decide) ?_
        refine rl_u rfl rfl (by decide) ?_
        refine rl_u rfl rfl (by decide) ?_
        refine rl_u rfl rfl (by decide) ?_
        refine Rp rfl (pv_pick1 rfl rfl) ?_
        refine Kn1 36 rfl ?_
        refine ct_true rfl ?_
        refine Cr ?_
        refine Rp rfl (pv_assign rfl) ?_
        refine Kn1 2 rfl ?_
        refine ct_ret ?_
        refine xt_ret_then ?_
        refine fin_ret (H' := F) (RVs.tmp rfl (RVs.nil)) Tryz.results100 (?_) ?_
        · refine ⟨?_, rfl⟩; simp only [resOf, ringErr]; repeat' split; all_goals (first | rfl | (simp_all; done) | (exfalso; simp_all; omega) | omega)
        · exact (by repeat (first | exact Sees.refl | (apply Sees.cons; (focus ((repeat (first | exact Z0 | apply Sel.there)); done))) | apply Sees.skip))
      · skip
        refine Ru rfl (pv_fieldAddr (k := 0) rfl Tryz.runUnderlying23 rfl Tryz.sizeOf3 rfl rfl) ?_
        refine Rv rfl (oq_load rfl rfl Tryz.isAgg3 (by repeat (first | exact Z0 | apply Sel.there)) (by rfl) (by rfl)) ?_
        refine Ru rfl (pv_bin rfl rfl rfl) ?_
        refine Rp rfl (pv_pick0 rfl rfl) ?_
        refine Rp rfl (pv_move rfl) ?_
        first | refine rl_split_d (fun h22 => ?_) (fun h22 => ?_) | refine rl_split_n (fun h22 => ?_) (fun h22 => ?_) | refine rl_split_b (fun h22 => ?_) (fun h22 => ?_) | refine rl_split (fun h22 => ?_) (fun h22 => ?_)
        · skip
          refine rl_u rfl rfl (by decide) ?_
          refine rl_u rfl rfl (by decide) ?_
          refine rl_u rfl rfl (by decide) ?_
          refine rl_u rfl rfl (by decide) ?_
          refine Rp rfl (pv_pick1 rfl rfl) ?_
          refine Rp rfl (pv_move rfl) ?_
          refine rl_u rfl rfl (by decide) ?_
          refine rl_u rfl rfl (by decide) ?_
          refine rl_u rfl rfl (by decide) ?_
          refine rl_u rfl rfl (by decide) ?_
          refine rl_u rfl rfl (by decide) ?_
          refine rl_u rfl rfl (by decide) ?_
          refine rl_u rfl rfl (by decide) ?_
          refine Rp rfl (pv_pick1 rfl rfl) ?_
          refine Kn1 36 rfl ?_
          refine ct_true rfl ?_
          refine Cr ?_
          refine Rp rfl (pv_assign rfl) ?_
          refine Kn1 2 rfl ?_
          refine ct_ret ?_
          refine xt_ret_then ?_
          refine fin_ret (H' := F) (RVs.tmp rfl (RVs.nil)) Tryz.results100 (?_) ?_
          · refine ⟨?_, rfl⟩; simp only [resOf, ringErr]; repeat' split; all_goals (first | rfl | (simp_all; done) | (exfalso; simp_all; omega) | omega)
          · exact (by repeat (first | exact Sees.refl | (apply Sees.cons; (focus ((repeat (first | exact Z0 | apply Sel.there)); done))) | apply Sees.skip))
        · skip
          refine Ru rfl (pv_fieldAddr (k := 0) rfl Tryz.runUnderlying23 rfl Tryz.sizeOf3 rfl rfl) ?_
          refine Rv rfl (oq_load rfl rfl Tryz.isAgg3 (by repeat (first | exact Z0 | apply Sel.there)) (by rfl) (by rfl)) ?_
          refine Ru rfl (pv_rem rfl rfl (by decide)) ?_
          refine Ru rfl (pv_bin rfl rfl rfl) ?_
          refine Rp rfl (pv_pick0 rfl rfl) ?_
          refine Rp rfl (pv_move rfl) ?_
          first | refine rl_split_d (fun h28 => ?_) (fun h28 => ?_) | refine rl_split_n (fun h28 => ?_) (fun h28 => ?_) | refine rl_split_b (fun h28 => ?_) (fun h28 => ?_) | refine rl_split (fun h28 => ?_) (fun h28 => ?_)
          · skip
            refine rl_u rfl rfl (by decide) ?_
            refine rl_u rfl rfl (by decide) ?_
            refine rl_u rfl rfl (by decide) ?_
            refine rl_u rfl rfl (by decide) ?_
            refine rl_u rfl rfl (by decide) ?_
            refine rl_u rfl rfl (by decide) ?_
            refine rl_u rfl rfl (by decide) ?_
            refine Rp rfl (pv_pick1 rfl rfl) ?_
            refine Kn1 36 rfl ?_
            refine ct_true rfl ?_
            refine Cr ?_
            refine Rp rfl (pv_assign rfl) ?_
            refine Kn1 2 rfl ?_
            refine ct_ret ?_
            refine xt_ret_then ?_
            refine fin_ret (H' := F) (RVs.tmp rfl (RVs.nil)) Tryz.results100 (?_) ?_
            · refine ⟨?_, rfl⟩; simp only [resOf, ringErr]; repeat' split; all_goals (first | rfl | (simp_all; done) | (exfalso; simp_all; omega) | omega)
            · exact (by repeat (first | exact Sees.refl | (apply Sees.cons; (focus ((repeat (first | exact Z0 | apply Sel.there)); done))) | apply Sees.skip))
          · skip
            refine Ru rfl (pv_fieldAddr (k := 0) rfl Tryz.runUnderlying23 rfl Tryz.sizeOf3 rfl rfl) ?_
            refine Rv rfl (oq_load rfl rfl Tryz.isAgg3 (by repeat (first | exact Z0 | apply Sel.there)) (by rfl) (by rfl)) ?_
            refine Ru rfl (pv_fieldAddr (k := 1) rfl Tryz.runUnderlying23 rfl Tryz.sizeOf3 rfl rfl) ?_
            refine Rv rfl (oq_load rfl rfl Tryz.isAgg3 (by repeat (first | exact Z0 | apply Sel.there)) (by rfl) (by rfl)) ?_
            refine Ru rfl (pv_sub rfl rfl ⟨by omega, by omega⟩) ?_
            refine Ru rfl (pv_sub rfl rfl ⟨by omega, by omega⟩) ?_
            refine Ru rfl (pv_bin rfl rfl rfl) ?_
            refine Rp rfl (pv_pick0 rfl rfl) ?_
            refine Kn1 36 rfl ?_
            first | refine ct_cond_d rfl (fun h36 => ?_) (fun h36 => ?_) | refine ct_cond_n rfl (fun h36 => ?_) (fun h36 => ?_) | refine ct_cond_b rfl (fun h36 => ?_) (fun h36 => ?_) | refine ct_cond rfl (fun h36 => ?_) (fun h36 => ?_)
            · skip
              refine Cr ?_
              refine Rp rfl (pv_assign rfl) ?_
              refine Kn1 2 rfl ?_
              refine ct_ret ?_
              refine xt_ret_then ?_
              refine fin_ret (H' := F) (RVs.tmp rfl (RVs.nil)) Tryz.results100 (?_) ?_
              · refine ⟨?_, rfl⟩; simp only [resOf, ringErr]; repeat' split; all_goals (first | rfl | (simp_all; done) | (exfalso; simp_all; omega) | omega)
              · exact (by repeat (first | exact Sees.refl | (apply Sees.cons; (focus ((repeat (first | exact Z0 | apply Sel.there)); done))) | apply Sees.skip))
            · skip
              refine ct_skip ?_
              refine xt_then ?_
              refine CT.weaken (E' := []) (Knows.nil) Sees.refl ?_
              refine Cr ?_
              refine Rp rfl (pv_assign rfl) ?_
              refine Kn1 2 rfl ?_
              refine ct_ret ?_
              refine fin_ret (H' := F) (RVs.tmp rfl (RVs.nil)) Tryz.results100 (?_) ?_
              · refine ⟨?_, rfl⟩; simp only [resOf, ringErr]; repeat' split; all_goals (first | rfl | (simp_all; done) | (exfalso; simp_all; omega) | omega)
              · exact (by repeat (first | exact Sees.refl | (apply Sees.cons; (focus ((repeat (first | exact Z0 | apply Sel.there)); done))) | apply Sees.skip))
end Go.Proofs.YtnjljfjncfbinaaGreat
