/- Contracts: the document's numbers. -/
import Derived.Test.YtnjljfjncfbinaaGreatSq
import Derived.Test.YtnjljfjncfbinaaGreatFh
set_option linter.all false
namespace Go.Proofs.YtnjljfjncfbinaaGreat
open Go Go.Proofs
set_option maxRecDepth 100000
set_option linter.unusedVariables false

/-- 2 to the k, as the loop has it. -/
def pw : Nat → Int
  | 0 => 1
  | k + 1 => IntKind.i64.wrap (pw k * 2)
def lg (n : Int) : Nat → Nat → Int × Bool
  | 0, _ => (0, false)
  | m + 1, k => if pw k = n then (k, true) else lg n m (k + 1)
def log2 (n : Int) : Int × Bool := lg n 63 0
theorem lg_hit {n : Int} {k : Nat} (hk : k ≤ 62) (h : pw k = n) : lg n (63 - k) k = ((k : Int), true) := by
  rw [show 63 - k = (62 - k) + 1 from by omega]; simp only [lg]; rw [if_pos h]
theorem lg_miss {n : Int} {k : Nat} (hk : k ≤ 62) (h : ¬ pw k = n) : lg n (63 - k) k = lg n (63 - (k + 1)) (k + 1) := by
  rw [show 63 - k = (62 - k) + 1 from by omega]; simp only [lg]; rw [if_neg h, show 62 - k = 63 - (k + 1) from by omega]
theorem log2_pure (n : Int) : PureSpec Tryz.prog 128 #[.int .i64 n] (.tuple #[.int .i64 (log2 n).1, .bool (log2 n).2]) := by
  intro ω F
  refine spec_of_body Tryz.func128 rfl Tryz.ntmps128 rfl ?_
  refine Cr ?_
  refine Rp rfl (pv_assign rfl) ?_
  refine Rp rfl (pv_assign rfl) ?_
  refine Kn1 0 rfl ?_
  refine Cr ?_
  refine Rp rfl (pv_assign rfl) ?_
  refine Kn2 0 4 rfl ?_
  refine ct_seq ?_
  refine Cr ?_
  refine Rp rfl (pv_assign rfl) ?_
  refine Kn3 0 4 5 rfl ?_
  refine ct_block ?_
  refine ct_loop (α := { k : Nat // k ≤ 63 ∧ lg n (63 - k) k = log2 n }) (fun q => [(0, .int .i64 n), (4, .int .i64 (pw q.1)), (5, .int .i64 (q.1 : Int))]) (fun q => F) (fun q => 63 - q.1) ⟨0, by omega, rfl⟩ (Knows.cons rfl (Knows.cons rfl (Knows.cons rfl (Knows.nil)))) (Sees.refl) ?_
  intro ⟨k, hk, hg⟩
  dsimp only
  refine ct_seq ?_
  refine Cr ?_
  refine Rp rfl (pv_move rfl) ?_
  refine Rp rfl (pv_bin rfl rfl rfl) ?_
  refine Kn4 0 4 5 7 rfl ?_
  first | refine ct_cond_d rfl (fun h7 => ?_) (fun h7 => ?_) | refine ct_cond_n rfl (fun h7 => ?_) (fun h7 => ?_) | refine ct_cond_b rfl (fun h7 => ?_) (fun h7 => ?_) | refine ct_cond rfl (fun h7 => ?_) (fun h7 => ?_)
  · skip
    refine ct_skip ?_
    refine Kx3 0 4 5 rfl ?_
    refine ct_seq ?_
    refine ct_block ?_
    refine ct_seq ?_
    refine Cr ?_
    refine Rp rfl (pv_move rfl) ?_
    refine Rp rfl (pv_move rfl) ?_
    refine Rp rfl (pv_bin rfl rfl rfl) ?_
    refine Kn4 0 4 5 12 rfl ?_
    first | refine ct_cond_d rfl (fun h12 => ?_) (fun h12 => ?_) | refine ct_cond_n rfl (fun h12 => ?_) (fun h12 => ?_) | refine ct_cond_b rfl (fun h12 => ?_) (fun h12 => ?_) | refine ct_cond rfl (fun h12 => ?_) (fun h12 => ?_)
    · skip
      refine Cr ?_
      refine Rp rfl (pv_move rfl) ?_
      refine Rp rfl (pv_assign rfl) ?_
      refine Rp rfl (pv_assign rfl) ?_
      refine Kn2 2 3 rfl ?_
      refine ct_ret ?_
      refine xt_ret_then ?_
      refine xt_ret_block ?_
      refine xt_ret_then ?_
      refine xt_ret_then ?_
      refine xt_ret_block ?_
      refine xt_ret_then ?_
      refine fin_ret (H' := F) (RVs.tmp rfl (RVs.tmp rfl (RVs.nil))) Tryz.results128 (?_) ?_
      · refine ⟨?_, rfl⟩; rw [← hg, lg_hit (by omega) h12]; rfl
      · exact (by repeat (first | exact Sees.refl | (apply Sees.cons; (focus ((repeat (first | exact Z0 | apply Sel.there)); done))) | apply Sees.skip))
    · skip
      refine ct_skip ?_
      refine Kx3 0 4 5 rfl ?_
      refine ct_region ?_
      refine Rp rfl (pv_move rfl) ?_
      refine Rp rfl (pv_bin rfl rfl rfl) ?_
      refine Rp rfl (pv_assign rfl) ?_
      refine rl_nil ?_
      refine xt_normal_block ?_
      refine Kx3 0 4 5 rfl ?_
      refine ct_region ?_
      refine Rp rfl (pv_move rfl) ?_
      refine Rp rfl (pv_add rfl rfl ⟨by omega, by omega⟩) ?_
      refine Rp rfl (pv_assign rfl) ?_
      refine rl_nil ?_
      exact xt_round (α := { k : Nat // k ≤ 63 ∧ lg n (63 - k) k = log2 n }) (E' := fun q => [(0, .int .i64 n), (4, .int .i64 (pw q.1)), (5, .int .i64 (q.1 : Int))]) (H' := fun q => F) (μ := fun q => 63 - q.1) (p := ⟨k, hk, hg⟩) (⟨k + 1, by omega, by rw [← lg_miss (by omega) h12]; exact hg⟩) (by show 63 - (k + 1) < 63 - k; omega) (Knows.cons rfl (Knows.cons rfl (Knows.cons rfl (Knows.nil)))) (Sees.refl)
  · skip
    refine ct_exit ?_
    refine xt_exit_then ?_
    refine xt_exit_then ?_
    refine xt_exit_block ?_
    refine xt_then ?_
    refine CT.weaken (E' := []) (Knows.nil) Sees.refl ?_
    refine Cr ?_
    refine Rp rfl (pv_assign rfl) ?_
    refine Rp rfl (pv_assign rfl) ?_
    refine Kn2 2 3 rfl ?_
    refine ct_ret ?_
    refine fin_ret (H' := F) (RVs.tmp rfl (RVs.tmp rfl (RVs.nil))) Tryz.results128 (?_) ?_
    · refine ⟨?_, rfl⟩; have e : k = 63 := by omega
      subst e; rw [← hg]; rfl
    · exact (by repeat (first | exact Sees.refl | (apply Sees.cons; (focus ((repeat (first | exact Z0 | apply Sel.there)); done))) | apply Sees.skip))
theorem risPow_pure (n : Int) : PureSpec Tryz.prog 97 #[.int .i64 n] (.bool (log2 n).2) := by
  intro ω F
  refine spec_of_body Tryz.func97 rfl Tryz.ntmps97 rfl ?_
  refine Cr ?_
  refine Rp rfl (pv_assign rfl) ?_
  refine Kn1 0 rfl ?_
  refine Cr ?_
  refine Rp rfl (pv_move rfl) ?_
  refine Rq rfl (oq_call rfl Tryz.call128 (vs := [_]) rfl (log2_pure _)) ?_
  refine Rp rfl (pv_move rfl) ?_
  refine Rp rfl (pv_extract rfl rfl) ?_
  refine Rp rfl (pv_extract rfl rfl) ?_
  refine Rp rfl (pv_assign rfl) ?_
  refine Rp rfl (pv_assign rfl) ?_
  refine Kn1 4 rfl ?_
  refine Cr ?_
  refine Rp rfl (pv_move rfl) ?_
  refine Rp rfl (pv_assign rfl) ?_
  refine Kn1 2 rfl ?_
  refine ct_ret ?_
  exact fin_ret (RVs.tmp rfl (RVs.nil)) Tryz.results97 (⟨rfl, rfl⟩) (by repeat (first | exact Sees.refl | (apply Sees.cons; (focus ((repeat (first | exact Z0 | apply Sel.there)); done))) | apply Sees.skip))
def right (base size : Int) : Bool := decide (64 ≤ size ∧ size ≤ 8192 ∧ (log2 size).2 = true ∧ 0 ≤ base ∧ base.tmod 8 = 0 ∧ base ≤ 131072 - size - 32)
theorem right_of {base size : Int} (h1 : 64 ≤ size) (h2 : size ≤ 8192) (h3 : (log2 size).2 = true) (h4 : 0 ≤ base) (h5 : base.tmod 8 = 0) {p : Prop} [Decidable p] (h6 : p ↔ base ≤ 131072 - size - 32) : right base size = decide p := by
  unfold right; by_cases hp : p <;> simp [h1, h2, h3, h4, h5, h6.symm, hp]
theorem right_not {base size : Int} (h : ¬ (64 ≤ size ∧ size ≤ 8192 ∧ (log2 size).2 = true ∧ 0 ≤ base ∧ base.tmod 8 = 0)) : right base size = false := by
  unfold right; simp only [decide_eq_false_iff_not]; exact fun h' => h ⟨h'.1, h'.2.1, h'.2.2.1, h'.2.2.2.1, h'.2.2.2.2.1⟩
theorem right_pure (base size : Int) (hb : inK .i64 base) (hs : inK .i64 size) : PureSpec Tryz.prog 60 #[.agg #[.int .i64 base, .int .i64 size]] (.bool (right base size)) := by
  intro ω F
  refine spec_of_body Tryz.func60 rfl Tryz.ntmps60 rfl ?_
  refine Cr ?_
  refine Ro rfl (ot_box rfl rfl (rfl : _ = [_, _])) ?_
  rintro _ _ ⟨b1, rfl, rfl⟩
  refine Rp rfl (pv_assign rfl) ?_
  refine Kn1 1 rfl ?_
  refine Cr ?_
  refine Rp rfl (pv_fieldAddr (k := 1) rfl Tryz.runUnderlying23 rfl Tryz.sizeOf3 rfl rfl) ?_
  refine Rq rfl (oq_load rfl rfl Tryz.isAgg3 (by repeat (first | exact Z0 | apply Sel.there)) (by rfl) (by rfl)) ?_
  refine Rp rfl (pv_bin rfl rfl rfl) ?_
  refine Rp rfl (pv_move rfl) ?_
  first | refine rl_split_d (fun h6 => ?_) (fun h6 => ?_) | refine rl_split_n (fun h6 => ?_) (fun h6 => ?_) | refine rl_split_b (fun h6 => ?_) (fun h6 => ?_) | refine rl_split (fun h6 => ?_) (fun h6 => ?_)
  · skip
    refine Ru rfl (pv_fieldAddr (k := 1) rfl Tryz.runUnderlying23 rfl Tryz.sizeOf3 rfl rfl) ?_
    refine Rv rfl (oq_load rfl rfl Tryz.isAgg3 (by repeat (first | exact Z0 | apply Sel.there)) (by rfl) (by rfl)) ?_
    refine Ru rfl (pv_bin rfl rfl rfl) ?_
    refine Rp rfl (pv_pick1 rfl rfl) ?_
    refine Rp rfl (pv_move rfl) ?_
    first | refine rl_split_d (fun h11 => ?_) (fun h11 => ?_) | refine rl_split_n (fun h11 => ?_) (fun h11 => ?_) | refine rl_split_b (fun h11 => ?_) (fun h11 => ?_) | refine rl_split (fun h11 => ?_) (fun h11 => ?_)
    · skip
      refine Ru rfl (pv_fieldAddr (k := 1) rfl Tryz.runUnderlying23 rfl Tryz.sizeOf3 rfl rfl) ?_
      refine Rv rfl (oq_load rfl rfl Tryz.isAgg3 (by repeat (first | exact Z0 | apply Sel.there)) (by rfl) (by rfl)) ?_
      refine Rv rfl (oq_call rfl Tryz.call97 (vs := [_]) rfl (risPow_pure _)) ?_
      refine Rp rfl (pv_pick1 rfl rfl) ?_
      refine Rp rfl (pv_move rfl) ?_
      first | refine rl_split_d (fun h16 => ?_) (fun h16 => ?_) | refine rl_split_n (fun h16 => ?_) (fun h16 => ?_) | refine rl_split_b (fun h16 => ?_) (fun h16 => ?_) | refine rl_split (fun h16 => ?_) (fun h16 => ?_)
      · skip
        refine Ru rfl (pv_fieldAddr (k := 0) rfl Tryz.runUnderlying23 rfl Tryz.sizeOf3 rfl rfl) ?_
        refine Rv rfl (oq_load rfl rfl Tryz.isAgg3 (by repeat (first | exact Z0 | apply Sel.there)) (by rfl) (by rfl)) ?_
        refine Ru rfl (pv_bin rfl rfl rfl) ?_
        refine Rp rfl (pv_pick1 rfl rfl) ?_
        refine Rp rfl (pv_move rfl) ?_
        first | refine rl_split_d (fun h21 => ?_) (fun h21 => ?_) | refine rl_split_n (fun h21 => ?_) (fun h21 => ?_) | refine rl_split_b (fun h21 => ?_) (fun h21 => ?_) | refine rl_split (fun h21 => ?_) (fun h21 => ?_)
        · skip
          refine Ru rfl (pv_fieldAddr (k := 0) rfl Tryz.runUnderlying23 rfl Tryz.sizeOf3 rfl rfl) ?_
          refine Rv rfl (oq_load rfl rfl Tryz.isAgg3 (by repeat (first | exact Z0 | apply Sel.there)) (by rfl) (by rfl)) ?_
          refine Ru rfl (pv_rem rfl rfl (by decide)) ?_
          refine Ru rfl (pv_bin rfl rfl rfl) ?_
          refine Rp rfl (pv_pick1 rfl rfl) ?_
          refine Rp rfl (pv_move rfl) ?_
          first | refine rl_split_d (fun h27 => ?_) (fun h27 => ?_) | refine rl_split_n (fun h27 => ?_) (fun h27 => ?_) | refine rl_split_b (fun h27 => ?_) (fun h27 => ?_) | refine rl_split (fun h27 => ?_) (fun h27 => ?_)
          · skip
            refine Ru rfl (pv_fieldAddr (k := 0) rfl Tryz.runUnderlying23 rfl Tryz.sizeOf3 rfl rfl) ?_
            refine Rv rfl (oq_load rfl rfl Tryz.isAgg3 (by repeat (first | exact Z0 | apply Sel.there)) (by rfl) (by rfl)) ?_
            refine Ru rfl (pv_fieldAddr (k := 1) rfl Tryz.runUnderlying23 rfl Tryz.sizeOf3 rfl rfl) ?_
            refine Rv rfl (oq_load rfl rfl Tryz.isAgg3 (by repeat (first | exact Z0 | apply Sel.there)) (by rfl) (by rfl)) ?_
            refine Ru rfl (pv_sub rfl rfl ⟨by omega, by omega⟩) ?_
            refine Ru rfl (pv_sub rfl rfl ⟨by omega, by omega⟩) ?_
            refine Ru rfl (pv_bin rfl rfl rfl) ?_
            refine Rp rfl (pv_pick1 rfl rfl) ?_
            refine Rp rfl (pv_assign rfl) ?_
            refine Kn1 2 rfl ?_
            refine ct_ret ?_
            refine fin_ret (H' := F) (RVs.tmp rfl (RVs.nil)) Tryz.results60 (?_) ?_
            · refine ⟨?_, rfl⟩; rw [right_of (by omega) (by omega) h16 (by omega) h27 (p := base ≤ 131072 - size - 32) Iff.rfl]; rfl
            · exact (by repeat (first | exact Sees.refl | (apply Sees.cons; (focus ((repeat (first | exact Z0 | apply Sel.there)); done))) | apply Sees.skip))
          · skip
            refine rl_u rfl rfl (by decide) ?_
            refine rl_u rfl rfl (by decide) ?_
            refine rl_u rfl rfl (by decide) ?_
            refine rl_u rfl rfl (by decide) ?_
            refine rl_u rfl rfl (by decide) ?_
            refine rl_u rfl rfl (by decide) ?_
            refine rl_u rfl rfl (by decide) ?_
            refine Rp rfl (pv_pick0 rfl rfl) ?_
            refine Rp rfl (pv_assign rfl) ?_
            refine Kn1 2 rfl ?_
            refine ct_ret ?_
            refine fin_ret (H' := F) (RVs.tmp rfl (RVs.nil)) Tryz.results60 (?_) ?_
            · refine ⟨?_, rfl⟩; rw [right_not (by rintro ⟨e1, e2, e3, e4, e5⟩; first | (rw [e3] at h16; cases h16; done) | (exact absurd e5 h27) | omega)]; rfl
            · exact (by repeat (first | exact Sees.refl | (apply Sees.cons; (focus ((repeat (first | exact Z0 | apply Sel.there)); done))) | apply Sees.skip))
        · skip
          refine rl_u rfl rfl (by decide) ?_
          refine rl_u rfl rfl (by decide) ?_
          refine rl_u rfl rfl (by decide) ?_
          refine rl_u rfl rfl (by decide) ?_
          refine Rp rfl (pv_pick0 rfl rfl) ?_
          refine Rp rfl (pv_move rfl) ?_
          refine rl_u rfl rfl (by decide) ?_
          refine rl_u rfl rfl (by decide) ?_
          refine rl_u rfl rfl (by decide) ?_
          refine rl_u rfl rfl (by decide) ?_
          refine rl_u rfl rfl (by decide) ?_
          refine rl_u rfl rfl (by decide) ?_
          refine rl_u rfl rfl (by decide) ?_
          refine Rp rfl (pv_pick0 rfl rfl) ?_
          refine Rp rfl (pv_assign rfl) ?_
          refine Kn1 2 rfl ?_
          refine ct_ret ?_
          refine fin_ret (H' := F) (RVs.tmp rfl (RVs.nil)) Tryz.results60 (?_) ?_
          · refine ⟨?_, rfl⟩; rw [right_not (by rintro ⟨e1, e2, e3, e4, e5⟩; first | (rw [e3] at h16; cases h16; done) | (exact absurd e5 h27) | omega)]; rfl
          · exact (by repeat (first | exact Sees.refl | (apply Sees.cons; (focus ((repeat (first | exact Z0 | apply Sel.there)); done))) | apply Sees.skip))
      · skip
        refine rl_u rfl rfl (by decide) ?_
        refine rl_u rfl rfl (by decide) ?_
        refine rl_u rfl rfl (by decide) ?_
        refine Rp rfl (pv_pick0 rfl rfl) ?_
        refine Rp rfl (pv_move rfl) ?_
        refine rl_u rfl rfl (by decide) ?_
        refine rl_u rfl rfl (by decide) ?_
        refine rl_u rfl rfl (by decide) ?_
        refine rl_u rfl rfl (by decide) ?_
        refine Rp rfl (pv_pick0 rfl rfl) ?_
        refine Rp rfl (pv_move rfl) ?_
        refine rl_u rfl rfl (by decide) ?_
        refine rl_u rfl rfl (by decide) ?_
        refine rl_u rfl rfl (by decide) ?_
        refine rl_u rfl rfl (by decide) ?_
        refine rl_u rfl rfl (by decide) ?_
        refine rl_u rfl rfl (by decide) ?_
        refine rl_u rfl rfl (by decide) ?_
        refine Rp rfl (pv_pick0 rfl rfl) ?_
        refine Rp rfl (pv_assign rfl) ?_
        refine Kn1 2 rfl ?_
        refine ct_ret ?_
        refine fin_ret (H' := F) (RVs.tmp rfl (RVs.nil)) Tryz.results60 (?_) ?_
        · refine ⟨?_, rfl⟩; rw [right_not (by rintro ⟨e1, e2, e3, e4, e5⟩; first | (rw [e3] at h16; cases h16; done) | (exact absurd e5 h27) | omega)]; rfl
        · exact (by repeat (first | exact Sees.refl | (apply Sees.cons; (focus ((repeat (first | exact Z0 | apply Sel.there)); done))) | apply Sees.skip))
    · skip
      refine rl_u rfl rfl (by decide) ?_
      refine rl_u rfl rfl (by decide) ?_
      refine rl_u rfl rfl (by decide) ?_
      refine Rp rfl (pv_pick0 rfl rfl) ?_
      refine Rp rfl (pv_move rfl) ?_
      refine rl_u rfl rfl (by decide) ?_
      refine rl_u rfl rfl (by decide) ?_
      refine rl_u rfl rfl (by decide) ?_
      refine Rp rfl (pv_pick0 rfl rfl) ?_
      refine Rp rfl (pv_move rfl) ?_
      refine rl_u rfl rfl (by decide) ?_
      refine rl_u rfl rfl (by decide) ?_
      refine rl_u rfl rfl (by decide) ?_
      refine rl_u rfl rfl (by decide) ?_
      refine Rp rfl (pv_pick0 rfl rfl) ?_
      refine Rp rfl (pv_move rfl) ?_
      refine rl_u rfl rfl (by decide) ?_
      refine rl_u rfl rfl (by decide) ?_
      refine rl_u rfl rfl (by decide) ?_
      refine rl_u rfl rfl (by decide) ?_
      refine rl_u rfl rfl (by decide) ?_
      refine rl_u rfl rfl (by decide) ?_
      refine rl_u rfl rfl (by decide) ?_
      refine Rp rfl (pv_pick0 rfl rfl) ?_
      refine Rp rfl (pv_assign rfl) ?_
      refine Kn1 2 rfl ?_
      refine ct_ret ?_
      refine fin_ret (H' := F) (RVs.tmp rfl (RVs.nil)) Tryz.results60 (?_) ?_
      · refine ⟨?_, rfl⟩; rw [right_not (by rintro ⟨e1, e2, e3, e4, e5⟩; first | (rw [e3] at h16; cases h16; done) | (exact absurd e5 h27) | omega)]; rfl
      · exact (by repeat (first | exact Sees.refl | (apply Sees.cons; (focus ((repeat (first | exact Z0 | apply Sel.there)); done))) | apply Sees.skip))
  · skip
    refine rl_u rfl rfl (by decide) ?_
    refine rl_u rfl rfl (by decide) ?_
    refine rl_u rfl rfl (by decide) ?_
    refine Rp rfl (pv_pick0 rfl rfl) ?_
    refine Rp rfl (pv_move rfl) ?_
    refine rl_u rfl rfl (by decide) ?_
    refine rl_u rfl rfl (by decide) ?_
    refine rl_u rfl rfl (by decide) ?_
    refine Rp rfl (pv_pick0 rfl rfl) ?_
    refine Rp rfl (pv_move rfl) ?_
    refine rl_u rfl rfl (by decide) ?_
    refine rl_u rfl rfl (by decide) ?_
    refine rl_u rfl rfl (by decide) ?_
    refine Rp rfl (pv_pick0 rfl rfl) ?_
    refine Rp rfl (pv_move rfl) ?_
    refine rl_u rfl rfl (by decide) ?_
    refine rl_u rfl rfl (by decide) ?_
    refine rl_u rfl rfl (by decide) ?_
    refine rl_u rfl rfl (by decide) ?_
    refine Rp rfl (pv_pick0 rfl rfl) ?_
    refine Rp rfl (pv_move rfl) ?_
    refine rl_u rfl rfl (by decide) ?_
    refine rl_u rfl rfl (by decide) ?_
    refine rl_u rfl rfl (by decide) ?_
    refine rl_u rfl rfl (by decide) ?_
    refine rl_u rfl rfl (by decide) ?_
    refine rl_u rfl rfl (by decide) ?_
    refine rl_u rfl rfl (by decide) ?_
    refine Rp rfl (pv_pick0 rfl rfl) ?_
    refine Rp rfl (pv_assign rfl) ?_
    refine Kn1 2 rfl ?_
    refine ct_ret ?_
    refine fin_ret (H' := F) (RVs.tmp rfl (RVs.nil)) Tryz.results60 (?_) ?_
    · refine ⟨?_, rfl⟩; rw [right_not (by rintro ⟨e1, e2, e3, e4, e5⟩; first | (rw [e3] at h16; cases h16; done) | (exact absurd e5 h27) | omega)]; rfl
    · exact (by repeat (first | exact Sees.refl | (apply Sees.cons; (focus ((repeat (first | exact Z0 | apply Sel.there)); done))) | apply Sees.skip))
def ralign (n to : Int) : Int × Int :=
  if (log2 to).2 = false ∨ n < 0 ∨ n > 4611686018427387904 then (0, 1)
  else if n.tmod to = 0 then (n, 0)
  else if IntKind.i64.wrap (n.tdiv to) + 1 > IntKind.i64.wrap ((4611686018427387904 : Int).tdiv to) then (0, 2)
  else (IntKind.i64.wrap ((IntKind.i64.wrap (n.tdiv to) + 1) * to), 0)
theorem ralign_bad {n to : Int} (h : (log2 to).2 = false ∨ n < 0 ∨ n > 4611686018427387904) : ralign n to = (0, 1) := if_pos h
theorem ralign_same {n to : Int} (h : (log2 to).2 = true) (h1 : 0 ≤ n ∧ n ≤ 4611686018427387904) (h2 : n.tmod to = 0) : ralign n to = (n, 0) := by
  unfold ralign; rw [if_neg (by rw [h]; simp; omega), if_pos h2]
theorem ralign_big {n to : Int} (h : (log2 to).2 = true) (h1 : 0 ≤ n ∧ n ≤ 4611686018427387904) (h2 : ¬ n.tmod to = 0) (h3 : IntKind.i64.wrap (n.tdiv to) + 1 > IntKind.i64.wrap ((4611686018427387904 : Int).tdiv to)) : ralign n to = (0, 2) := by
  unfold ralign; rw [if_neg (by rw [h]; simp; omega), if_neg h2, if_pos h3]
theorem ralign_up {n to : Int} (h : (log2 to).2 = true) (h1 : 0 ≤ n ∧ n ≤ 4611686018427387904) (h2 : ¬ n.tmod to = 0) (h3 : ¬ IntKind.i64.wrap (n.tdiv to) + 1 > IntKind.i64.wrap ((4611686018427387904 : Int).tdiv to)) : ralign n to = (IntKind.i64.wrap ((IntKind.i64.wrap (n.tdiv to) + 1) * to), 0) := by
  unfold ralign; rw [if_neg (by rw [h]; simp; omega), if_neg h2, if_neg h3]
theorem tdiv_in {n to : Int} (hn : 0 ≤ n ∧ n ≤ 4611686018427387904) (ht : 0 < to) : 0 ≤ IntKind.i64.wrap (n.tdiv to) ∧ IntKind.i64.wrap (n.tdiv to) ≤ 4611686018427387904 := by
  have h1 : 0 ≤ n.tdiv to := Int.tdiv_nonneg hn.1 (by omega)
  have h2 : n.tdiv to ≤ n := by rw [Int.tdiv_eq_ediv_of_nonneg hn.1]; exact Int.ediv_le_self _ hn.1
  rw [wrap_inK (k := .i64) (a := n.tdiv to) ⟨by omega, by omega⟩]; omega
theorem wrapTwo : ∀ k : Nat, k < 63 → pw k = ((2 ^ k : Nat) : Int) := by decide
theorem lg_some {n : Int} : ∀ m k : Nat, m + k ≤ 63 → (lg n m k).2 = true → ∃ j, j < 63 ∧ n = ((2 ^ j : Nat) : Int) := by
  intro m
  induction m with
  | zero => intro k _ h; cases h
  | succ m ih =>
    intro k hk h
    simp only [lg] at h
    split at h
    · rename_i e; exact ⟨k, by omega, by rw [← e]; exact wrapTwo k (by omega)⟩
    · exact ih (k + 1) (by omega) h
theorem log2_some {n : Int} (h : (log2 n).2 = true) : ∃ j, j < 63 ∧ n = ((2 ^ j : Nat) : Int) := lg_some 63 0 (by omega) h
theorem log2_pos {n : Int} (h : (log2 n).2 = true) : 0 < n := by
  obtain ⟨j, _, rfl⟩ := log2_some h
  have : 0 < 2 ^ j := Nat.pow_pos (by decide)
  omega
theorem ralign_pure (n to : Int) (hn : inK .i64 n) : PureSpec Tryz.prog 57 #[.int .i64 n, .int .i64 to] (.tuple #[.int .i64 (ralign n to).1, .int .i64 (ralign n to).2]) := by
  intro ω F
  refine spec_of_body Tryz.func57 rfl Tryz.ntmps57 rfl ?_
  refine Cr ?_
  refine Rp rfl (pv_assign rfl) ?_
  refine Rp rfl (pv_assign rfl) ?_
  refine Kn2 0 1 rfl ?_
  refine ct_seq ?_
  refine Cr ?_
  refine Rp rfl (pv_move rfl) ?_
  refine Rq rfl (oq_call rfl Tryz.call97 (vs := [_]) rfl (risPow_pure _)) ?_
  refine Rp rfl (pv_not rfl) ?_
  refine Rp rfl (pv_move rfl) ?_
  first | refine rl_split_d (fun h10 => ?_) (fun h10 => ?_) | refine rl_split_n (fun h10 => ?_) (fun h10 => ?_) | refine rl_split_b (fun h10 => ?_) (fun h10 => ?_) | refine rl_split (fun h10 => ?_) (fun h10 => ?_)
  · skip
    refine rl_u rfl rfl (by decide) ?_
    refine rl_u rfl rfl (by decide) ?_
    refine Rp rfl (pv_pick1 rfl rfl) ?_
    refine Rp rfl (pv_move rfl) ?_
    refine rl_u rfl rfl (by decide) ?_
    refine rl_u rfl rfl (by decide) ?_
    refine Rp rfl (pv_pick1 rfl rfl) ?_
    refine Kn3 0 1 17 rfl ?_
    refine ct_true rfl ?_
    refine Cr ?_
    refine Rp rfl (pv_assign rfl) ?_
    refine Rp rfl (pv_assign rfl) ?_
    refine Kn2 4 5 rfl ?_
    refine ct_ret ?_
    refine xt_ret_then ?_
    refine fin_ret (H' := F) (RVs.tmp rfl (RVs.tmp rfl (RVs.nil))) Tryz.results57 (?_) ?_
    · refine ⟨?_, rfl⟩; rw [ralign_bad (.inl (by simpa using h10))]; rfl
    · exact (by repeat (first | exact Sees.refl | (apply Sees.cons; (focus ((repeat (first | exact Z0 | apply Sel.there)); done))) | apply Sees.skip))
  · have hp : 0 < to := log2_pos (by simpa using h10)
    have hl : (log2 to).2 = true := by simpa using h10
    have ht : ∀ n : Int, 0 ≤ n ∧ n ≤ 4611686018427387904 → 0 ≤ IntKind.i64.wrap (n.tdiv to) ∧ IntKind.i64.wrap (n.tdiv to) ≤ 4611686018427387904 := fun n hn => tdiv_in hn hp
    refine Ru rfl (pv_move rfl) ?_
    refine Ru rfl (pv_bin rfl rfl rfl) ?_
    refine Rp rfl (pv_pick0 rfl rfl) ?_
    refine Rp rfl (pv_move rfl) ?_
    first | refine rl_split_d (fun h14 => ?_) (fun h14 => ?_) | refine rl_split_n (fun h14 => ?_) (fun h14 => ?_) | refine rl_split_b (fun h14 => ?_) (fun h14 => ?_) | refine rl_split (fun h14 => ?_) (fun h14 => ?_)
    · skip
      refine rl_u rfl rfl (by decide) ?_
      refine rl_u rfl rfl (by decide) ?_
      refine Rp rfl (pv_pick1 rfl rfl) ?_
      refine Kn3 0 1 17 rfl ?_
      refine ct_true rfl ?_
      refine Cr ?_
      refine Rp rfl (pv_assign rfl) ?_
      refine Rp rfl (pv_assign rfl) ?_
      refine Kn2 4 5 rfl ?_
      refine ct_ret ?_
      refine xt_ret_then ?_
      refine fin_ret (H' := F) (RVs.tmp rfl (RVs.tmp rfl (RVs.nil))) Tryz.results57 (?_) ?_
      · refine ⟨?_, rfl⟩; rw [ralign_bad (.inr (.inl h14))]; rfl
      · exact (by repeat (first | exact Sees.refl | (apply Sees.cons; (focus ((repeat (first | exact Z0 | apply Sel.there)); done))) | apply Sees.skip))
    · skip
      refine Ru rfl (pv_move rfl) ?_
      refine Ru rfl (pv_bin rfl rfl rfl) ?_
      refine Rp rfl (pv_pick0 rfl rfl) ?_
      refine Kn3 0 1 17 rfl ?_
      first | refine ct_cond_d rfl (fun h17 => ?_) (fun h17 => ?_) | refine ct_cond_n rfl (fun h17 => ?_) (fun h17 => ?_) | refine ct_cond_b rfl (fun h17 => ?_) (fun h17 => ?_) | refine ct_cond rfl (fun h17 => ?_) (fun h17 => ?_)
      · skip
        refine Cr ?_
        refine Rp rfl (pv_assign rfl) ?_
        refine Rp rfl (pv_assign rfl) ?_
        refine Kn2 4 5 rfl ?_
        refine ct_ret ?_
        refine xt_ret_then ?_
        refine fin_ret (H' := F) (RVs.tmp rfl (RVs.tmp rfl (RVs.nil))) Tryz.results57 (?_) ?_
        · refine ⟨?_, rfl⟩; rw [ralign_bad (.inr (.inr h17))]; rfl
        · exact (by repeat (first | exact Sees.refl | (apply Sees.cons; (focus ((repeat (first | exact Z0 | apply Sel.there)); done))) | apply Sees.skip))
      · have hn0 : 0 ≤ n ∧ n ≤ 4611686018427387904 := ⟨by omega, by omega⟩
        refine ct_skip ?_
        refine Kx2 0 1 rfl ?_
        refine Cr ?_
        refine Rp rfl (pv_move rfl) ?_
        refine Rp rfl (pv_move rfl) ?_
        refine Rp rfl (pv_quo rfl rfl (by omega)) ?_
        refine Rp rfl (pv_assign rfl) ?_
        refine Kn3 0 1 6 rfl ?_
        refine ct_seq ?_
        refine Cr ?_
        refine Rp rfl (pv_move rfl) ?_
        refine Rp rfl (pv_move rfl) ?_
        refine Rp rfl (pv_rem rfl rfl (by omega)) ?_
        refine Rp rfl (pv_bin rfl rfl rfl) ?_
        refine Kn4 0 1 6 24 rfl ?_
        first | refine ct_cond_d rfl (fun h24 => ?_) (fun h24 => ?_) | refine ct_cond_n rfl (fun h24 => ?_) (fun h24 => ?_) | refine ct_cond_b rfl (fun h24 => ?_) (fun h24 => ?_) | refine ct_cond rfl (fun h24 => ?_) (fun h24 => ?_)
        · skip
          refine Cr ?_
          refine Rp rfl (pv_move rfl) ?_
          refine Rp rfl (pv_assign rfl) ?_
          refine Rp rfl (pv_assign rfl) ?_
          refine Kn2 4 5 rfl ?_
          refine ct_ret ?_
          refine xt_ret_then ?_
          refine fin_ret (H' := F) (RVs.tmp rfl (RVs.tmp rfl (RVs.nil))) Tryz.results57 (?_) ?_
          · refine ⟨?_, rfl⟩; rw [ralign_same hl hn0 h24]; rfl
          · exact (by repeat (first | exact Sees.refl | (apply Sees.cons; (focus ((repeat (first | exact Z0 | apply Sel.there)); done))) | apply Sees.skip))
        · skip
          refine ct_skip ?_
          refine Kx2 1 6 rfl ?_
          refine ct_seq ?_
          refine Cr ?_
          refine Rp rfl (pv_move rfl) ?_
          refine Rp rfl (pv_add rfl rfl ⟨by have := ht n hn0; omega, by have := ht n hn0; omega⟩) ?_
          refine Rp rfl (pv_move rfl) ?_
          refine Rp rfl (pv_quo rfl rfl (by omega)) ?_
          refine Rp rfl (pv_bin rfl rfl rfl) ?_
          refine Kn3 1 6 30 rfl ?_
          first | refine ct_cond_d rfl (fun h30 => ?_) (fun h30 => ?_) | refine ct_cond_n rfl (fun h30 => ?_) (fun h30 => ?_) | refine ct_cond_b rfl (fun h30 => ?_) (fun h30 => ?_) | refine ct_cond rfl (fun h30 => ?_) (fun h30 => ?_)
          · skip
            refine Cr ?_
            refine Rp rfl (pv_assign rfl) ?_
            refine Rp rfl (pv_assign rfl) ?_
            refine Kn2 4 5 rfl ?_
            refine ct_ret ?_
            refine xt_ret_then ?_
            refine fin_ret (H' := F) (RVs.tmp rfl (RVs.tmp rfl (RVs.nil))) Tryz.results57 (?_) ?_
            · refine ⟨?_, rfl⟩; rw [ralign_big hl hn0 h24 h30]; rfl
            · exact (by repeat (first | exact Sees.refl | (apply Sees.cons; (focus ((repeat (first | exact Z0 | apply Sel.there)); done))) | apply Sees.skip))
          · skip
            refine ct_skip ?_
            refine Kx2 1 6 rfl ?_
            refine Cr ?_
            refine Rp rfl (pv_move rfl) ?_
            refine Rp rfl (pv_add rfl rfl ⟨by have := ht n hn0; omega, by have := ht n hn0; omega⟩) ?_
            refine Rp rfl (pv_move rfl) ?_
            refine Rp rfl (pv_bin rfl rfl rfl) ?_
            refine Rp rfl (pv_assign rfl) ?_
            refine Rp rfl (pv_assign rfl) ?_
            refine Kn2 4 5 rfl ?_
            refine ct_ret ?_
            refine fin_ret (H' := F) (RVs.tmp rfl (RVs.tmp rfl (RVs.nil))) Tryz.results57 (?_) ?_
            · refine ⟨?_, rfl⟩; rw [ralign_up hl hn0 h24 h30]; rfl
            · exact (by repeat (first | exact Sees.refl | (apply Sees.cons; (focus ((repeat (first | exact Z0 | apply Sel.there)); done))) | apply Sees.skip))
theorem pv_quo_in {P : Program} {E : Env} {k : IntKind} {x y : Operand} {T U : TypeId} {a b : Int} (hx : ev E x = some (.int k a)) (hy : ev E y = some (.int k b)) (h : b ≠ 0) (hi : inK k (a.tdiv b)) : PV P (.binOp .quo T x y U) E (.int k (a.tdiv b)) := by
  have := pv_quo (P := P) (T := T) (U := U) hx hy h
  rwa [wrap_inK hi] at this
theorem look_eq {i : Nat} {E : Env} {v v' : Value} (h : look i E = some v) (e : v = v') : look i E = some v' := by rw [h, e]
theorem Rd.reads {ω : World} {ch : HP} {es b off n : Nat} {xs : List Value} (h : Rd ω ch es (some ⟨b, off, none⟩) n xs) : Reads ω ch b off xs := fun L w hw i v hv => (h L w hw).2.2 i v hv
theorem Rd.cut {ω : World} {ch : HP} {es n l h m : Nat} {p : Option Addr} {xs : List Value} (r : Rd ω ch es p n xs) (h1 : l ≤ h) (h2 : h ≤ n) (h3 : h ≤ m) : Rd ω ch es (cutp p l m es) (h - l) ((xs.drop (l * es)).take ((h - l) * es)) := fun L w hw => (r L w hw).cut h1 h2 h3
theorem Rd.some {ω : World} {ch : HP} {es n : Nat} {p : Option Addr} {xs : List Value} {L : List HP} {w : World} (r : Rd ω ch es p n xs) (hw : Holds ω (ch :: L) w) (hn : 0 < n) : ∃ b o, p = some ⟨b, o, none⟩ := by
  have h := (r L w hw).2
  cases p with
  | none => have : n = 0 := h; omega
  | some a => rcases h.1 with h0 | this; omega; exact ⟨a.block, a.off, by cases a; simp at this; subst this; rfl⟩
theorem ct_rdsome {ω : World} {P : Program} {N : Nat} {E : Env} {H L : List HP} {Q : Post} {c : Code} {ch : HP} {es n : Nat} {p : Option Addr} {xs : List Value} (hr : Rd ω ch es p n xs) (s : Sel H ch L) (hn : 0 < n) (h : ∀ b o, p = Option.some ⟨b, o, none⟩ → CT ω P N c E H Q) : CT ω P N c E H Q := by
  intro a w ha hw
  obtain ⟨b, o, e⟩ := hr.some (hw.sel s) hn
  exact h b o e a w ha hw
theorem oq_loadRd {ω : World} {P : Program} {E : Env} {S S' : List HP} {o : Oper} {T : TypeId} {x : Operand} {b off k j es n : Nat} {v : Value} {xs : List Value} {ch : HP} (ho : o.op = .load T x) (hx : ev E x = some (.pointer (some ⟨b, k, none⟩))) (hT : ∀ w, (isAgg T).run P w = .ok false w)
    (hr : Rd ω ch es (some ⟨b, off, none⟩) n xs) (s : Sel S ch S') (hk : k = off + j) (hv : xs[j]? = some v) : OQ ω P o E S v :=
  oq_load_of ho hx hT hr.reads s (by subst hk; exact Nat.ble_eq_true_of_le (by omega)) (by subst hk; rw [show off + j - off = j from by omega]; exact hv)
theorem byteC_get {l : List UInt8} {i : Nat} {c : UInt8} (h : l[i]? = some c) : (byteC l)[i]? = some (.int .u8 c.toNat) := by simp [byteC, h]
/-- The lowest bytes of a number, the lowest first. -/
def rbytes (v : Nat) (n : Nat) : List UInt8 := (List.range n).map fun i => UInt8.ofNat (v / 256 ^ i)
theorem rbytes_length (v n : Nat) : (rbytes v n).length = n := by simp [rbytes]
theorem rbytes_succ (v n : Nat) : byteC (rbytes v n) ++ [.int .u8 (IntKind.u8.wrap (((v / 256 ^ n : Nat) : Int).tmod 256))] = byteC (rbytes v (n + 1)) := by
  have e : IntKind.u8.wrap (((v / 256 ^ n : Nat) : Int).tmod 256) = ((UInt8.ofNat (v / 256 ^ n)).toNat : Int) := by
    have e1 : ((v / 256 ^ n : Nat) : Int).tmod 256 = ((v / 256 ^ n % 256 : Nat) : Int) := rfl
    rw [e1, wrap_inK (k := .u8) ⟨by omega, by omega⟩]
    simp
  rw [e]
  simp [rbytes, byteC, List.range_succ]
def num : List UInt8 → Nat
  | [] => 0
  | b :: l => b.toNat + 256 * num l
theorem num_lt : ∀ l : List UInt8, num l < 256 ^ l.length := by
  intro l
  induction l with
  | nil => simp [num]
  | cons b l ih =>
    simp only [num, List.length_cons, Nat.pow_succ]
    have := b.toNat_lt
    omega
theorem num_le {l : List UInt8} {k : Nat} (h : l.length ≤ k) : num l < 256 ^ k := Nat.lt_of_lt_of_le (num_lt l) (Nat.pow_le_pow_right (by decide) h)
theorem rbytes_spec (ω : World) (v n : Nat) (hv : v < 18446744073709551616) (hn : n ≤ 8) (F : List HP)  : Spec ω Tryz.prog 96 #[.int .u64 (v : Int), .int .i64 (n : Int)] (F) fun v' H' => ∃ p c, v' = .slice p n c ∧ H' = own 1 p n c (byteC (rbytes v n)) :: F := by
  refine spec_of_body Tryz.func96 rfl Tryz.ntmps96 rfl ?_
  refine Cr ?_
  refine Rp rfl (pv_assign rfl) ?_
  refine Kn2 0 1 rfl ?_
  refine Cr ?_
  refine Rp rfl (pv_assign rfl) ?_
  refine Kn3 0 1 5 rfl ?_
  refine ct_seq ?_
  refine Cr ?_
  refine Rp rfl (pv_move rfl) ?_
  refine Rp rfl (pv_bin rfl rfl rfl) ?_
  refine Rp rfl (pv_move rfl) ?_
  first | refine rl_split_d (fun h9 => ?_) (fun h9 => ?_) | refine rl_split_n (fun h9 => ?_) (fun h9 => ?_) | refine rl_split_b (fun h9 => ?_) (fun h9 => ?_) | refine rl_split (fun h9 => ?_) (fun h9 => ?_)
  · exfalso; omega
  · skip
    refine Ru rfl (pv_move rfl) ?_
    refine Ru rfl (pv_bin rfl rfl rfl) ?_
    refine Rp rfl (pv_pick0 rfl rfl) ?_
    refine Kn4 0 1 5 12 rfl ?_
    first | refine ct_cond_d rfl (fun h12 => ?_) (fun h12 => ?_) | refine ct_cond_n rfl (fun h12 => ?_) (fun h12 => ?_) | refine ct_cond_b rfl (fun h12 => ?_) (fun h12 => ?_) | refine ct_cond rfl (fun h12 => ?_) (fun h12 => ?_)
    · exfalso; first | omega | (simp_all; done) | (simp_all; omega)
    · skip
      refine ct_skip ?_
      refine Kx3 0 1 5 rfl ?_
      refine ct_seq ?_
      refine Cr ?_
      refine Rp rfl (pv_assign rfl) ?_
      refine Kn4 0 1 5 6 rfl ?_
      refine ct_block ?_
      refine ct_loop (α := { i : Nat × Option Addr × Nat // i.1 ≤ n }) (fun q => [(0, .int .u64 ((v / 256 ^ q.1.1 : Nat) : Int)), (1, .int .i64 (n : Int)), (5, .slice q.1.2.1 q.1.1 q.1.2.2), (6, .int .i64 (q.1.1 : Int))]) (fun q => own 1 q.1.2.1 q.1.1 q.1.2.2 (byteC (rbytes v q.1.1)) :: F) (fun q => n - q.1.1) ⟨(0, none, 0), Nat.zero_le _⟩ (Knows.cons (look_eq rfl (by show _ = Value.int .u64 ((v / 1 : Nat) : Int); rw [Nat.div_one])) (Knows.cons rfl (Knows.cons rfl (Knows.cons rfl Knows.nil)))) (Sees.nilOwn (Sees.refl)) ?_
      intro ⟨⟨i, p, c⟩, hi⟩
      dsimp only at hi ⊢
      have hvi : v / 256 ^ i < 18446744073709551616 := Nat.lt_of_le_of_lt (Nat.div_le_self _ _) hv
      refine ct_seq ?_
      refine Cr ?_
      refine Rp rfl (pv_move rfl) ?_
      refine Rp rfl (pv_move rfl) ?_
      refine Rp rfl (pv_bin rfl rfl rfl) ?_
      refine Kn5 0 1 5 6 15 rfl ?_
      first | refine ct_cond_d rfl (fun h15 => ?_) (fun h15 => ?_) | refine ct_cond_n rfl (fun h15 => ?_) (fun h15 => ?_) | refine ct_cond_b rfl (fun h15 => ?_) (fun h15 => ?_) | refine ct_cond rfl (fun h15 => ?_) (fun h15 => ?_)
      · skip
        refine ct_skip ?_
        refine Kx4 0 1 5 6 rfl ?_
        refine ct_seq ?_
        refine ct_block ?_
        refine Cr ?_
        refine Rp rfl (pv_move rfl) ?_
        refine Rp rfl (pv_move rfl) ?_
        refine Rp rfl (pv_rem rfl rfl (by decide)) ?_
        refine Rp rfl (pv_convert rfl Tryz.runUnderlying28 Tryz.runUnderlying5) ?_
        refine Ro rfl (ot_buildSlice (ps := [(0, _)]) (cs := #[_]) rfl rfl Tryz.runUnderlying29 Tryz.sizeOf5 Tryz.zeroValue5 rfl rfl rfl rfl) ?_
        rintro _ _ ⟨b22, rfl, rfl⟩
        refine Ro rfl (ot_append (by_ := 1) rfl rfl rfl Tryz.runUnderlying29 Tryz.runUnderlying29 Tryz.sizeOf5 Tryz.typeInfo5 rfl Tryz.zeroValue5 rfl (by decide) (by repeat (first | exact Z0 | apply Sel.there)) (by repeat (first | exact Z0 | apply Sel.there)) rd_own (by rfl) (by omega)) ?_
        rintro _ _ ⟨p23, c23, rfl, rfl⟩
        refine Rp rfl (pv_assign rfl) ?_
        refine Kn4 0 1 5 6 rfl ?_
        refine ct_region ?_
        refine Rp rfl (pv_move rfl) ?_
        refine Rp rfl (pv_quo_in rfl rfl (by decide) (by show 0 ≤ (((v / 256 ^ i / 256 : Nat)) : Int) ∧ (((v / 256 ^ i / 256 : Nat)) : Int) ≤ 18446744073709551615; generalize v / 256 ^ i = y at hvi ⊢; constructor <;> omega)) ?_
        refine Rp rfl (pv_assign rfl) ?_
        refine rl_nil ?_
        refine xt_normal_block ?_
        refine Kx4 0 1 5 6 rfl ?_
        refine ct_region ?_
        refine Rp rfl (pv_move rfl) ?_
        refine Rp rfl (pv_add rfl rfl ⟨by omega, by omega⟩) ?_
        refine Rp rfl (pv_assign rfl) ?_
        refine rl_nil ?_
        exact xt_round (α := { i : Nat × Option Addr × Nat // i.1 ≤ n }) (E' := fun q => [(0, .int .u64 ((v / 256 ^ q.1.1 : Nat) : Int)), (1, .int .i64 (n : Int)), (5, .slice q.1.2.1 q.1.1 q.1.2.2), (6, .int .i64 (q.1.1 : Int))]) (H' := fun q => own 1 q.1.2.1 q.1.1 q.1.2.2 (byteC (rbytes v q.1.1)) :: F) (μ := fun q => n - q.1.1) (p := ⟨(i, p, c), hi⟩) (⟨(i + 1, p23, c23), by show i + 1 ≤ n; omega⟩) (by show n - (i + 1) < n - i; omega) (Knows.cons (look_eq rfl (by show Value.int .u64 (((v / 256 ^ i / 256 : Nat) : Int)) = _; rw [Nat.div_div_eq_div_mul, ← Nat.pow_succ])) (Knows.cons rfl (Knows.cons rfl (Knows.cons rfl Knows.nil)))) (by dsimp only; rw [← rbytes_succ]; exact (by repeat (first | exact Sees.refl | (apply Sees.cons; (focus ((repeat (first | exact Z0 | apply Sel.there)); done))) | apply Sees.skip)))
      · skip
        refine ct_exit ?_
        refine xt_exit_then ?_
        refine xt_exit_then ?_
        refine xt_exit_block ?_
        refine Kx1 5 rfl ?_
        refine Cr ?_
        refine Rp rfl (pv_move rfl) ?_
        refine Rp rfl (pv_assign rfl) ?_
        refine Kn1 4 rfl ?_
        refine ct_ret ?_
        refine fin_ret (H' := own 1 p n c (byteC (rbytes v n)) :: F) (RVs.tmp rfl (RVs.nil)) Tryz.results96 (?_) ?_
        · have e : i = n := by omega
          subst e; exact ⟨_, _, rfl, rfl⟩
        · exact (by have e : i = n := (by omega); subst e; exact .refl)
theorem num_read (ω : World) (X : HP) (p : Option Addr) (n c : Nat) (l : List UInt8) (hX : Rd ω X 1 p n (byteC l)) (hl : n ≤ 8) (F : List HP) : Spec ω Tryz.prog 163 #[.slice p n c] (X :: F) fun v' H' => v' = .int .u64 (num l : Int) ∧ H' = X :: F := by
  refine spec_of_body Tryz.func163 rfl Tryz.ntmps163 rfl ?_
  refine ct_rd hX (by repeat (first | exact Z0 | apply Sel.there)) fun hln _ _ => ?_
  simp only [byteC_length, Nat.mul_one] at hln
  subst hln
  refine Cr ?_
  refine Rp rfl (pv_assign rfl) ?_
  refine Kn1 0 rfl ?_
  refine Cr ?_
  refine Rp rfl (pv_assign rfl) ?_
  refine Kn2 0 3 rfl ?_
  refine ct_seq ?_
  refine Cr ?_
  refine Rp rfl (pv_move rfl) ?_
  refine Rp rfl (pv_len_slice rfl rfl Tryz.runUnderlying29) ?_
  refine Rp rfl (pv_min rfl rfl) ?_
  refine Rp rfl (pv_sub rfl rfl ⟨by omega, by omega⟩) ?_
  refine Rp rfl (pv_assign rfl) ?_
  refine Kn3 0 3 4 rfl ?_
  refine ct_block ?_
  refine ct_loop (α := { k : Nat // k ≤ l.length }) (fun q => [(0, .slice p l.length c), (3, .int .u64 ((num (l.drop q.1) : Nat) : Int)), (4, .int .i64 ((q.1 : Int) - 1))]) (fun q => X :: F) (fun q => q.1) ⟨l.length, Nat.le_refl _⟩ (Knows.cons rfl (Knows.cons (look_eq rfl (by show _ = Value.int .u64 ((num (l.drop l.length) : Nat) : Int); simp [num])) (Knows.cons (look_eq rfl (by show Value.int .i64 ((if (8 : Int) < (l.length : Int) then (8 : Int) else (l.length : Int)) - 1) = Value.int .i64 ((l.length : Int) - 1); congr 1; split <;> omega)) Knows.nil))) (.refl) ?_
  intro ⟨k, hk⟩
  dsimp only
  refine ct_seq ?_
  refine Cr ?_
  refine Rp rfl (pv_move rfl) ?_
  refine Rp rfl (pv_bin rfl rfl rfl) ?_
  refine Kn4 0 3 4 10 rfl ?_
  first | refine ct_cond_d rfl (fun h10 => ?_) (fun h10 => ?_) | refine ct_cond_n rfl (fun h10 => ?_) (fun h10 => ?_) | refine ct_cond_b rfl (fun h10 => ?_) (fun h10 => ?_) | refine ct_cond rfl (fun h10 => ?_) (fun h10 => ?_)
  · skip
    refine ct_skip ?_
    refine Kx3 0 3 4 rfl ?_
    refine ct_seq ?_
    refine ct_block ?_
    obtain ⟨k', rfl⟩ : ∃ k', k = k' + 1 := ⟨k - 1, by omega⟩
    refine ct_rdsome hX (by repeat (first | exact Z0 | apply Sel.there)) (by omega) (fun b0 o0 hp0 => ?_)
    subst hp0
    obtain ⟨ch, hch⟩ : ∃ ch, l[k']? = some ch := ⟨l[k'], List.getElem?_eq_getElem (by omega)⟩
    have hdrop : l.drop k' = ch :: l.drop (k' + 1) := by rw [List.drop_eq_getElem_cons (by omega)]; congr 1; rw [List.getElem?_eq_getElem (by omega)] at hch; exact Option.some.inj hch
    have hn1 : num (l.drop (k' + 1)) < 256 ^ 7 := num_le (by simp; omega)
    have hcb := ch.toNat_lt
    refine ct_region ?_
    refine Rp rfl (pv_move rfl) ?_
    refine Rp rfl (pv_mul rfl rfl ⟨by omega, by omega⟩) ?_
    refine Rp rfl (pv_move rfl) ?_
    refine Rp rfl (pv_move rfl) ?_
    refine Rp rfl (pv_indexAddrN (j := k') rfl rfl Tryz.runUnderlying29 Tryz.sizeOf5 (by omega) (by omega)) ?_
    refine Rq rfl (oq_loadRd (j := k') rfl rfl Tryz.isAgg5 hX (by repeat (first | exact Z0 | apply Sel.there)) (by omega) (byteC_get hch)) ?_
    refine Rp rfl (pv_convert_in rfl Tryz.runUnderlying5 Tryz.runUnderlying28 ⟨by omega, by omega⟩) ?_
    refine Rp rfl (pv_add rfl rfl ⟨by omega, by omega⟩) ?_
    refine Rp rfl (pv_assign rfl) ?_
    refine rl_nil ?_
    refine xt_normal_block ?_
    refine Kx3 0 3 4 rfl ?_
    refine ct_region ?_
    refine Rp rfl (pv_move rfl) ?_
    refine Rp rfl (pv_sub rfl rfl ⟨by omega, by omega⟩) ?_
    refine Rp rfl (pv_assign rfl) ?_
    refine rl_nil ?_
    exact xt_round (α := { k : Nat // k ≤ l.length }) (E' := fun q => [(0, .slice (some ⟨b0, o0, none⟩) l.length c), (3, .int .u64 ((num (l.drop q.1) : Nat) : Int)), (4, .int .i64 ((q.1 : Int) - 1))]) (H' := fun q => X :: F) (μ := fun q => q.1) (p := ⟨k' + 1, hk⟩) (⟨k', by omega⟩) (by show k' < k' + 1; omega) (Knows.cons rfl (Knows.cons (look_eq rfl (by show Value.int .u64 _ = Value.int .u64 ((num (l.drop k') : Nat) : Int); rw [hdrop]; congr 1; simp only [num]; omega)) (Knows.cons (look_eq rfl (by show Value.int .i64 _ = Value.int .i64 ((k' : Int) - 1); congr 1; omega)) Knows.nil))) (.refl)
  · skip
    refine ct_exit ?_
    refine xt_exit_then ?_
    refine xt_exit_then ?_
    refine xt_exit_block ?_
    refine Kx1 3 rfl ?_
    refine Cr ?_
    refine Rp rfl (pv_move rfl) ?_
    refine Rp rfl (pv_assign rfl) ?_
    refine Kn1 2 rfl ?_
    refine ct_ret ?_
    refine fin_ret (H' := X :: F) (RVs.tmp rfl (RVs.nil)) Tryz.results163 (?_) ?_
    · have e : k = 0 := by omega
      subst e; exact ⟨rfl, rfl⟩
    · exact (.refl)
def sgn (l : List UInt8) : Int := if (num l : Int) ≥ 2147483648 then (num l : Int) - 4294967296 else num l
theorem sgn_read (ω : World) (X : HP) (p : Option Addr) (n c : Nat) (l : List UInt8) (hX : Rd ω X 1 p n (byteC l)) (hl : n = 4) (F : List HP) : Spec ω Tryz.prog 139 #[.slice p n c] (X :: F) fun v' H' => v' = .int .i32 (sgn l) ∧ H' = X :: F := by
  refine spec_of_body Tryz.func139 rfl Tryz.ntmps139 rfl ?_
  refine ct_rd hX (by repeat (first | exact Z0 | apply Sel.there)) fun hln _ _ => ?_
  simp only [byteC_length, Nat.mul_one] at hln
  subst hln
  have hn : num l < 256 ^ 4 := num_le (by omega)
  refine Cr ?_
  refine Rp rfl (pv_assign rfl) ?_
  refine Kn1 0 rfl ?_
  refine Cr ?_
  refine Rp rfl (pv_move rfl) ?_
  refine Rq rfl (oq_call_of (cs := [_]) rfl Tryz.call163 (vs := [_]) rfl (by repeat (first | exact Pick.nil | (apply Pick.cons; (focus ((repeat (first | exact Z0 | apply Sel.there)); done))))) (fun F => num_read _ X _ _ _ l hX (by omega) F)) ?_
  refine Rp rfl (pv_convert_in rfl Tryz.runUnderlying28 Tryz.runUnderlying2 ⟨by omega, by omega⟩) ?_
  refine Rp rfl (pv_assign rfl) ?_
  refine Kn1 3 rfl ?_
  refine ct_seq ?_
  refine Cr ?_
  refine Rp rfl (pv_move rfl) ?_
  refine Rp rfl (pv_bin rfl rfl rfl) ?_
  refine Kn2 3 8 rfl ?_
  first | refine ct_cond_d rfl (fun h8 => ?_) (fun h8 => ?_) | refine ct_cond_n rfl (fun h8 => ?_) (fun h8 => ?_) | refine ct_cond_b rfl (fun h8 => ?_) (fun h8 => ?_) | refine ct_cond rfl (fun h8 => ?_) (fun h8 => ?_)
  · skip
    refine Cr ?_
    refine Rp rfl (pv_move rfl) ?_
    refine Rp rfl (pv_sub rfl rfl ⟨by omega, by omega⟩) ?_
    refine Rp rfl (pv_convert_in rfl Tryz.runUnderlying2 Tryz.runUnderlying21 ⟨by omega, by omega⟩) ?_
    refine Rp rfl (pv_assign rfl) ?_
    refine Kn1 2 rfl ?_
    refine ct_ret ?_
    refine xt_ret_then ?_
    exact fin_ret (RVs.tmp rfl (RVs.nil)) Tryz.results139 (⟨by simp only [resOf, sgn, if_pos h8], rfl⟩) (by repeat (first | exact Sees.refl | (apply Sees.cons; (focus ((repeat (first | exact Z0 | apply Sel.there)); done))) | apply Sees.skip))
  · skip
    refine ct_skip ?_
    refine Kx1 3 rfl ?_
    refine Cr ?_
    refine Rp rfl (pv_move rfl) ?_
    refine Rp rfl (pv_convert_in rfl Tryz.runUnderlying2 Tryz.runUnderlying21 ⟨by omega, by omega⟩) ?_
    refine Rp rfl (pv_assign rfl) ?_
    refine Kn1 2 rfl ?_
    refine ct_ret ?_
    exact fin_ret (RVs.tmp rfl (RVs.nil)) Tryz.results139 (⟨by simp only [resOf, sgn, if_neg h8], rfl⟩) (by repeat (first | exact Sees.refl | (apply Sees.cons; (focus ((repeat (first | exact Z0 | apply Sel.there)); done))) | apply Sees.skip))
theorem byteC_cut (l : List UInt8) (a b : Nat) : ((byteC l).drop (a * 1)).take (b * 1) = byteC ((l.drop a).take b) := by simp [byteC]
theorem rd_cutB {ω : World} {X : HP} {p : Option Addr} {n : Nat} {l : List UInt8} (r : Rd ω X 1 p n (byteC l)) (a h m : Nat) (h1 : a ≤ h) (h2 : h ≤ n) (h3 : h ≤ m) : Rd ω X 1 (cutp p a m 1) (h - a) (byteC ((l.drop a).take (h - a))) := by
  have := r.cut (l := a) (h := h) (m := m) h1 h2 h3
  rwa [byteC_cut] at this
def rsplit (v : Nat) : Int × Int := (sgn (((rbytes v 8).drop 0).take 4), sgn (((rbytes v 8).drop 4).take 4))
theorem rsplit_pure (v : Nat) (hv : v < 18446744073709551616) : PureSpec Tryz.prog 109 #[.int .u64 (v : Int)] (.tuple #[.int .i32 (rsplit v).1, .int .i32 (rsplit v).2]) := by
  intro ω F
  refine spec_of_body Tryz.func109 rfl Tryz.ntmps109 rfl ?_
  refine Cr ?_
  refine Rp rfl (pv_assign rfl) ?_
  refine Rp rfl (pv_assign rfl) ?_
  refine Kn1 0 rfl ?_
  refine Cr ?_
  refine Rp rfl (pv_move rfl) ?_
  refine Ro rfl (ot_call rfl Tryz.call96 (vs := [_, _]) rfl (by repeat (first | exact Sees.refl | (apply Sees.cons; (focus ((repeat (first | exact Z0 | apply Sel.there)); done))) | apply Sees.skip)) (rbytes_spec _ v 8 hv (by omega) _)) ?_
  rintro _ _ ⟨p6, c6, rfl, rfl⟩
  refine Rp rfl (pv_assign rfl) ?_
  refine Kn1 4 rfl ?_
  refine ct_seq ?_
  refine ct_own (by repeat (first | exact Z0 | apply Sel.there)) fun _ h8 _ => ?_
  refine ct_planH [.q 0, .q 1, .q 2, .q 3, .q 4, .q 5, .q 6, .q 7] mixed (by decide +kernel) ?_
  refine pw_q rfl rfl rfl rfl (oq_pv (pv_move rfl)) ?_
  refine pw_q rfl rfl rfl rfl (oq_pv (pv_slice (l := 0) (h := 4) (m := c6) rfl (rfl) (⟨_, _, rfl, by omega⟩) (rfl) Tryz.runUnderlying29 Tryz.sizeOf5 (by omega) (by omega) (by omega) (by simp))) ?_
  refine pw_q rfl rfl rfl rfl (oq_call_of (cs := [_]) rfl Tryz.call139 (vs := [_]) rfl (by repeat (first | exact Pick.nil | (apply Pick.cons; (focus ((repeat (first | exact Z0 | apply Sel.there)); done))))) (fun F => sgn_read _ (own 1 p6 8 c6 (byteC (rbytes v 8))) _ _ _ _ (rd_cutB rd_own 0 4 c6 (by omega) (by omega) (by omega)) rfl F)) ?_
  refine pw_q rfl rfl rfl rfl (oq_pv (pv_move rfl)) ?_
  refine pw_q rfl rfl rfl rfl (oq_pv (pv_slice (l := 4) (h := 8) (m := c6) rfl (⟨_, _, rfl, by omega⟩) (rfl) (rfl) Tryz.runUnderlying29 Tryz.sizeOf5 (by omega) (by omega) (by omega) (by simp))) ?_
  refine pw_q rfl rfl rfl rfl (oq_call_of (cs := [_]) rfl Tryz.call139 (vs := [_]) rfl (by repeat (first | exact Pick.nil | (apply Pick.cons; (focus ((repeat (first | exact Z0 | apply Sel.there)); done))))) (fun F => sgn_read _ (own 1 p6 8 c6 (byteC (rbytes v 8))) _ _ _ _ (rd_cutB rd_own 4 8 c6 (by omega) (by omega) (by omega)) rfl F)) ?_
  refine pw_q rfl rfl rfl rfl (oq_pv (pv_assign rfl)) ?_
  refine pw_q rfl rfl rfl rfl (oq_pv (pv_assign rfl)) ?_
  refine pw_done ?_
  refine Kx2 2 3 rfl ?_
  refine ct_ret ?_
  exact fin_ret (RVs.tmp rfl (RVs.tmp rfl (RVs.nil))) Tryz.results109 (⟨rfl, rfl⟩) (by repeat (first | exact Sees.refl | (apply Sees.cons; (focus ((repeat (first | exact Z0 | apply Sel.there)); done))) | apply Sees.skip))
theorem rplace_pure (base size : Int) (v : Nat) (hs : 64 ≤ size ∧ size ≤ 8192) (hv : v < 18446744073709551616) : PureSpec Tryz.prog 64 #[.agg #[.int .i64 base, .int .i64 size], .int .u64 (v : Int)] (.int .i64 ((v : Int).tmod size)) := by
  intro ω F
  refine spec_of_body Tryz.func64 rfl Tryz.ntmps64 rfl ?_
  have hm : 0 ≤ (v : Int).tmod size ∧ (v : Int).tmod size < size := ⟨Int.tmod_nonneg _ (by omega), Int.tmod_lt_of_pos _ (by omega)⟩
  refine Cr ?_
  refine Ro rfl (ot_box rfl rfl (rfl : _ = [_, _])) ?_
  rintro _ _ ⟨b2, rfl, rfl⟩
  refine Rp rfl (pv_assign rfl) ?_
  refine Kn2 1 2 rfl ?_
  refine Cr ?_
  refine Rp rfl (pv_move rfl) ?_
  refine Rp rfl (pv_fieldAddr (k := 1) rfl Tryz.runUnderlying23 rfl Tryz.sizeOf3 rfl rfl) ?_
  refine Rq rfl (oq_load rfl rfl Tryz.isAgg3 (by repeat (first | exact Z0 | apply Sel.there)) (by rfl) (by rfl)) ?_
  refine Rp rfl (pv_convert_in rfl Tryz.runUnderlying3 Tryz.runUnderlying28 ⟨by omega, by omega⟩) ?_
  refine Rp rfl (pv_rem rfl rfl (by omega)) ?_
  refine Rp rfl (pv_convert_in rfl Tryz.runUnderlying28 Tryz.runUnderlying3 ⟨by omega, by omega⟩) ?_
  refine Rp rfl (pv_assign rfl) ?_
  refine Kn1 4 rfl ?_
  refine ct_ret ?_
  exact fin_ret (RVs.tmp rfl (RVs.nil)) Tryz.results64 (⟨rfl, rfl⟩) (by repeat (first | exact Sees.refl | (apply Sees.cons; (focus ((repeat (first | exact Z0 | apply Sel.there)); done))) | apply Sees.skip))
def crec : Nat → Int → List Int
  | 0, _ => []
  | k + 1, n => if n < 1 then [] else chunk n :: crec k (n - chunk n)
theorem crec_fuel : ∀ (f g : Nat) (n : Int), n.toNat ≤ f → n.toNat ≤ g → crec f n = crec g n := by
  intro f
  induction f with
  | zero =>
    intro g n hf _
    cases g with
    | zero => rfl
    | succ g => simp only [crec]; rw [if_pos (by omega)]
  | succ f ih =>
    intro g n hf hg
    cases g with
    | zero => simp only [crec]; rw [if_pos (by omega)]
    | succ g =>
      simp only [crec]
      split
      · rfl
      · rename_i h
        have := chunk_in n (by omega)
        rw [ih g (n - chunk n) (by omega) (by omega)]
/-- The parts that so many bytes are read in. -/
def chl (n : Int) : List Int := crec n.toNat n
theorem chl_nil {n : Int} (h : n < 1) : chl n = [] := by unfold chl; rw [show n.toNat = 0 from by omega]; rfl
theorem chl_cons {n : Int} (h : 1 ≤ n) : chl n = chunk n :: chl (n - chunk n) := by
  have hc := chunk_in n h
  unfold chl
  rw [show n.toNat = (n.toNat - 1) + 1 from by omega]
  simp only [crec]
  rw [if_neg (by omega), crec_fuel (n.toNat - 1) (n - chunk n).toNat _ (by omega) (by omega)]
theorem crec_len : ∀ (f : Nat) (n : Int), (crec f n).length ≤ f := by
  intro f
  induction f with
  | zero => intro n; simp [crec]
  | succ f ih => intro n; simp only [crec]; split; simp; simp only [List.length_cons]; have := ih (n - chunk n); omega
theorem chl_len (n : Int) : (chl n).length ≤ n.toNat := crec_len _ _
def intC (l : List Int) : List Value := l.map (.int .i64)
theorem intC_append (a b : List Int) : intC (a ++ b) = intC a ++ intC b := by simp [intC]
@[simp] theorem intC_length (l : List Int) : (intC l).length = l.length := by simp [intC]
theorem intC_get {l : List Int} {i : Nat} {v : Int} (h : l[i]? = some v) : (intC l)[i]? = some (.int .i64 v) := by simp [intC, h]
theorem chl_many {n : Int} (h : 8 < n) : chl n = 8 :: chl (n - 8) := by
  have := chl_cons (n := n) (by omega)
  rwa [show chunk n = 8 from if_pos h] at this
theorem chl_one {n : Int} (h : 1 ≤ n) (h2 : n ≤ 8) : chl n = [n] := by
  have := chl_cons (n := n) (by omega)
  rwa [show chunk n = n from if_neg (by omega), show n - n = 0 from by omega, chl_nil (n := 0) (by omega)] at this
theorem rchunks_spec (ω : World) (n : Int) (h1 : n ≤ 131072) (h0 : -9223372036854775808 ≤ n) (F : List HP)  : Spec ω Tryz.prog 110 #[.int .i64 n] (F) fun v' H' => ∃ p c, v' = .slice p (chl n).length c ∧ H' = own 1 p (chl n).length c (intC (chl n)) :: F := by
  refine spec_of_body Tryz.func110 rfl Tryz.ntmps110 rfl ?_
  refine Cr ?_
  refine Rp rfl (pv_assign rfl) ?_
  refine Kn1 0 rfl ?_
  refine Cr ?_
  refine Rp rfl (pv_assign rfl) ?_
  refine Kn2 0 3 rfl ?_
  refine ct_seq ?_
  refine Cr ?_
  refine Rp rfl (pv_move rfl) ?_
  refine Rp rfl (pv_bin rfl rfl rfl) ?_
  refine Kn3 0 3 5 rfl ?_
  first | refine ct_cond_d rfl (fun h5 => ?_) (fun h5 => ?_) | refine ct_cond_n rfl (fun h5 => ?_) (fun h5 => ?_) | refine ct_cond_b rfl (fun h5 => ?_) (fun h5 => ?_) | refine ct_cond rfl (fun h5 => ?_) (fun h5 => ?_)
  · exfalso; first | omega | (simp_all; done) | (simp_all; omega)
  · skip
    refine ct_skip ?_
    refine Kx2 0 3 rfl ?_
    refine ct_seq ?_
    refine ct_block ?_
    refine ct_loop (α := { q : Int × List Int × Option Addr × Nat // q.2.1 ++ chl q.1 = chl n ∧ q.1 ≤ 131072 ∧ -9223372036854775808 ≤ q.1 ∧ 8 * (q.2.1.length : Int) + q.1 = n }) (fun q => [(0, .int .i64 q.1.1), (3, .slice q.1.2.2.1 q.1.2.1.length q.1.2.2.2)]) (fun q => own 1 q.1.2.2.1 q.1.2.1.length q.1.2.2.2 (intC q.1.2.1) :: F) (fun q => q.1.1.toNat) ⟨(n, [], none, 0), rfl, h1, h0, by simp⟩ (Knows.cons rfl (Knows.cons rfl (Knows.nil))) (Sees.nilOwn .refl) ?_
    intro ⟨⟨m, l, p, c⟩, he, h2, h3, h4⟩
    dsimp only at he h2 h3 h4 ⊢
    refine ct_seq ?_
    refine Cr ?_
    refine Rp rfl (pv_move rfl) ?_
    refine Rp rfl (pv_bin rfl rfl rfl) ?_
    refine Kn3 0 3 7 rfl ?_
    first | refine ct_cond_d rfl (fun h7 => ?_) (fun h7 => ?_) | refine ct_cond_n rfl (fun h7 => ?_) (fun h7 => ?_) | refine ct_cond_b rfl (fun h7 => ?_) (fun h7 => ?_) | refine ct_cond rfl (fun h7 => ?_) (fun h7 => ?_)
    · skip
      refine ct_skip ?_
      refine Kx2 0 3 rfl ?_
      refine ct_seq ?_
      refine ct_block ?_
      refine ct_region ?_
      refine Rp rfl (pv_move rfl) ?_
      refine Ro rfl (ot_buildSlice (ps := [(0, _)]) (cs := #[_]) rfl rfl Tryz.runUnderlying134 Tryz.sizeOf3 Tryz.zeroValue3 rfl rfl rfl rfl) ?_
      rintro _ _ ⟨b11, rfl, rfl⟩
      refine Ro rfl (ot_append (by_ := 8) rfl rfl rfl Tryz.runUnderlying134 Tryz.runUnderlying134 Tryz.sizeOf3 Tryz.typeInfo3 rfl Tryz.zeroValue3 rfl (by decide) (by repeat (first | exact Z0 | apply Sel.there)) (by repeat (first | exact Z0 | apply Sel.there)) rd_own (by rfl) (by omega)) ?_
      rintro _ _ ⟨p12, c12, rfl, rfl⟩
      refine Rp rfl (pv_assign rfl) ?_
      refine rl_nil ?_
      refine xt_normal_block ?_
      refine Kx2 0 3 rfl ?_
      refine ct_region ?_
      refine Rp rfl (pv_move rfl) ?_
      refine Rp rfl (pv_sub rfl rfl ⟨by omega, by omega⟩) ?_
      refine Rp rfl (pv_assign rfl) ?_
      refine rl_nil ?_
      exact xt_round (α := { q : Int × List Int × Option Addr × Nat // q.2.1 ++ chl q.1 = chl n ∧ q.1 ≤ 131072 ∧ -9223372036854775808 ≤ q.1 ∧ 8 * (q.2.1.length : Int) + q.1 = n }) (E' := fun q => [(0, .int .i64 q.1.1), (3, .slice q.1.2.2.1 q.1.2.1.length q.1.2.2.2)]) (H' := fun q => own 1 q.1.2.2.1 q.1.2.1.length q.1.2.2.2 (intC q.1.2.1) :: F) (μ := fun q => q.1.1.toNat) (p := ⟨(m, l, p, c), he, h2, h3, h4⟩) (⟨(m - 8, l ++ [8], p12, c12), by rw [← he, chl_many h7]; simp, by dsimp only; omega, by dsimp only; omega, by simp; omega⟩) (by show (m - 8).toNat < m.toNat; omega) (Knows.cons rfl (Knows.cons (look_eq rfl (by dsimp only; simp)) Knows.nil)) (by dsimp only; rw [intC_append, List.length_append]; exact (by repeat (first | exact Sees.refl | (apply Sees.cons; (focus ((repeat (first | exact Z0 | apply Sel.there)); done))) | apply Sees.skip)))
    · skip
      refine ct_exit ?_
      refine xt_exit_then ?_
      refine xt_exit_then ?_
      refine xt_exit_block ?_
      refine Kx2 0 3 rfl ?_
      refine ct_seq ?_
      refine Cr ?_
      refine Rp rfl (pv_move rfl) ?_
      refine Rp rfl (pv_bin rfl rfl rfl) ?_
      refine Kn3 0 3 14 rfl ?_
      first | refine ct_cond_d rfl (fun h14 => ?_) (fun h14 => ?_) | refine ct_cond_n rfl (fun h14 => ?_) (fun h14 => ?_) | refine ct_cond_b rfl (fun h14 => ?_) (fun h14 => ?_) | refine ct_cond rfl (fun h14 => ?_) (fun h14 => ?_)
      · skip
        refine ct_region ?_
        refine Rp rfl (pv_move rfl) ?_
        refine Rp rfl (pv_move rfl) ?_
        refine Ro rfl (ot_buildSlice (ps := [(0, _)]) (cs := #[_]) rfl rfl Tryz.runUnderlying134 Tryz.sizeOf3 Tryz.zeroValue3 rfl rfl rfl rfl) ?_
        rintro _ _ ⟨b17, rfl, rfl⟩
        refine Ro rfl (ot_append (by_ := 8) rfl rfl rfl Tryz.runUnderlying134 Tryz.runUnderlying134 Tryz.sizeOf3 Tryz.typeInfo3 rfl Tryz.zeroValue3 rfl (by decide) (by repeat (first | exact Z0 | apply Sel.there)) (by repeat (first | exact Z0 | apply Sel.there)) rd_own (by rfl) (by omega)) ?_
        rintro _ _ ⟨p18, c18, rfl, rfl⟩
        refine Rp rfl (pv_assign rfl) ?_
        refine Kn1 3 rfl ?_
        refine Cr ?_
        refine Rp rfl (pv_move rfl) ?_
        refine Rp rfl (pv_assign rfl) ?_
        refine Kn1 2 rfl ?_
        refine ct_ret ?_
        skip
        refine fin_ret (H' := own 1 p18 (l.length + [m].length) c18 (intC l ++ intC [m]) :: F) (RVs.tmp rfl (RVs.nil)) Tryz.results110 (?_) ?_
        · have e : chl n = l ++ [m] := (by rw [← he, chl_one (by omega) (by omega)]); rw [e, List.length_append, intC_append]; exact ⟨_, _, rfl, rfl⟩
        · exact (by repeat (first | exact Sees.refl | (apply Sees.cons; (focus ((repeat (first | exact Z0 | apply Sel.there)); done))) | apply Sees.skip))
      · skip
        refine ct_skip ?_
        refine Kx1 3 rfl ?_
        refine Cr ?_
        refine Rp rfl (pv_move rfl) ?_
        refine Rp rfl (pv_assign rfl) ?_
        refine Kn1 2 rfl ?_
        refine ct_ret ?_
        skip
        refine fin_ret (H' := own 1 p l.length c (intC l) :: F) (RVs.tmp rfl (RVs.nil)) Tryz.results110 (?_) ?_
        · have e : chl n = l := (by rw [← he, chl_nil (by omega)]; simp); rw [e]; exact ⟨_, _, rfl, rfl⟩
        · exact (by repeat (first | exact Sees.refl | (apply Sees.cons; (focus ((repeat (first | exact Z0 | apply Sel.there)); done))) | apply Sees.skip))
end Go.Proofs.YtnjljfjncfbinaaGreat
