/- Contracts: copies of slices; machines that go on by closures. -/
import Derived.Test.YtnjljfjncfbinaaGreatSq
import Derived.Test.YtnjljfjncfbinaaGreatFa
import Derived.Test.YtnjljfjncfbinaaGreatSl7
set_option linter.all false
namespace Go.Proofs.YtnjljfjncfbinaaGreat
open Go Go.Proofs
set_option maxRecDepth 100000
set_option linter.unusedVariables false

theorem xs_nil {es : Nat} {xs : List Value} {w : World} (h : RdW w es none 0 xs) : xs = [] := List.eq_nil_of_length_eq_zero (by have := h.1; omega)
theorem cloneBytes (ω : World) (ch : HP) (p : Option Addr) (n c : Nat) (xs : List Value) (hr : Rd ω ch 1 p n xs) (hp : plainCells xs = true) (hb : n * 1 ≤ 140737488355328) (F : List HP)  : Spec ω Tryz.prog 35 #[.slice p n c] (ch :: F) fun v' H' => ∃ p' c', v' = .slice p' n c' ∧ H' = own 1 p' n c' xs :: ch :: F := by
  refine spec_of_body Tryz.func35 rfl Tryz.ntmps35 rfl ?_
  refine ct_rd hr (by repeat (first | exact Z0 | apply Sel.there)) (fun hl hnone _ => ?_)
  refine Cr ?_
  refine Rp rfl (pv_assign rfl) ?_
  refine Kn1 0 rfl ?_
  refine ct_seq ?_
  refine Cr ?_
  refine Rp rfl (pv_move rfl) ?_
  refine Rp rfl (pv_eql rfl rfl Tryz.runUnderlying29 rfl) ?_
  refine Kn2 0 4 rfl ?_
  first | refine ct_cond_d rfl (fun h4 => ?_) (fun h4 => ?_) | refine ct_cond_n rfl (fun h4 => ?_) (fun h4 => ?_) | refine ct_cond_b rfl (fun h4 => ?_) (fun h4 => ?_) | refine ct_cond rfl (fun h4 => ?_) (fun h4 => ?_)
  · have e : p = none := by cases p <;> simp at h4 ⊢
    subst e
    have e0 := hnone rfl
    subst e0
    have ex : xs = [] := List.eq_nil_of_length_eq_zero (by omega)
    subst ex
    refine Cr ?_
    refine Rp rfl (pv_assign rfl) ?_
    refine Kn1 2 rfl ?_
    refine ct_ret ?_
    refine xt_ret_then ?_
    try simp only [Nat.zero_add, List.nil_append]
    refine fin_ret (H' := own 1 none 0 0 [] :: ch :: F) (RVs.tmp rfl (RVs.nil)) Tryz.results35 (?_) ?_
    · exact ⟨_, _, rfl, rfl⟩
    · exact (.of fun m h => own_nil h)
  · skip
    refine ct_skip ?_
    refine Kx1 0 rfl ?_
    refine Cr ?_
    refine Ro rfl (ot_buildSlice (ps := []) (cs := #[]) rfl rfl Tryz.runUnderlying29 Tryz.sizeOf5 Tryz.zeroValue5 rfl rfl rfl rfl) ?_
    rintro _ _ ⟨b5, rfl, rfl⟩
    refine Rp rfl (pv_move rfl) ?_
    refine Ro rfl (ot_append (by_ := 1) rfl rfl rfl Tryz.runUnderlying29 Tryz.runUnderlying29 Tryz.sizeOf5 Tryz.typeInfo5 rfl Tryz.zeroValue5 rfl (by decide) (by repeat (first | exact Z0 | apply Sel.there)) (by repeat (first | exact Z0 | apply Sel.there)) hr hp (by omega)) ?_
    rintro _ _ ⟨p7, c7, rfl, rfl⟩
    refine Rp rfl (pv_assign rfl) ?_
    refine Kn1 2 rfl ?_
    refine ct_ret ?_
    try simp only [Nat.zero_add, List.nil_append]
    refine fin_ret (H' := own 1 p7 n c7 xs :: ch :: F) (RVs.tmp rfl (RVs.nil)) Tryz.results35 (?_) ?_
    · exact ⟨_, _, rfl, rfl⟩
    · exact (by repeat (first | exact Sees.refl | (apply Sees.cons; (focus ((repeat (first | exact Z0 | apply Sel.there)); done))) | apply Sees.skip))
end Go.Proofs.YtnjljfjncfbinaaGreat
