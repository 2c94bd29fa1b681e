/- Contracts: machines that go on by closures (cont). -/
import Derived.Test.YtnjljfjncfbinaaGreatSq
import Derived.Test.YtnjljfjncfbinaaGreatFb
set_option linter.all false
namespace Go.Proofs.YtnjljfjncfbinaaGreat
open Go Go.Proofs
set_option maxRecDepth 100000
set_option linter.unusedVariables false

theorem load_spec (ω : World) (b : Nat) (x0 x1 x2 x3 x4 x5 : Value) (x6 : Value) (xs : List Value) (at_ n : Int) (fn : Fn) (l c : Array Value) (F : List HP)  : Spec ω Tryz.prog 101 #[.pointer (some ⟨b, 0, none⟩), .int .i64 at_, .int .i64 n, .func fn l c] (row b 0 (x0 :: x1 :: x2 :: x3 :: x4 :: x5 :: x6 :: xs) :: F) fun v' H' => ∃ bt, v' = .tuple #[] ∧ H' = row b 0 (.int .i64 1 :: .int .i64 (at_) :: .int .i64 n :: .int .u64 0 :: .int .u64 0 :: .slice none 0 0 :: .func (.func 130) #[] #[.pointer (some ⟨bt, 0, none⟩)] :: xs) :: row bt 0 [.func fn l c] :: F := by
  refine spec_of_body Tryz.func101 rfl Tryz.ntmps101 rfl ?_
  refine Cr ?_
  refine Ro rfl (ot_box rfl rfl (rfl : _ = [_])) ?_
  rintro _ _ ⟨b7, rfl, rfl⟩
  refine Kn4 0 1 2 7 rfl ?_
  refine ct_region ?_
  refine Rp rfl (pv_move rfl) ?_
  refine Rp rfl (pv_move rfl) ?_
  refine Rp rfl (pv_move rfl) ?_
  refine Rp rfl (pv_build (ps := [(0, _), (1, _), (2, _)]) (cs := [_, _, _, _, _, _]) rfl Tryz.zeroValue36 Tryz.runUnderlying36 (.cons Tryz.sizeOf3 (.cons Tryz.sizeOf3 (.cons Tryz.sizeOf3 (.cons Tryz.sizeOf28 (.cons Tryz.sizeOf28 (.cons Tryz.sizeOf29 (.nil))))))) rfl) ?_
  refine Rp rfl (pv_makeFunc (l := []) (c := [_]) rfl rfl) ?_
  refine Ro rfl (ot_call rfl Tryz.call86 (vs := [_, _, _]) rfl (by repeat (first | exact Sees.refl | (apply Sees.cons; (focus ((repeat (first | exact Z0 | apply Sel.there)); done))) | apply Sees.skip)) (do_spec _ _ _ _ _ _ _ _ _ _ _ _ _ _ _ _ _ _ _ _ _ _)) ?_
  rintro _ _ ⟨rfl, rfl⟩
  refine rl_nil ?_
  exact fin_end (RVs.nil) Tryz.results101 (⟨_, rfl, rfl⟩) (by repeat (first | exact Sees.refl | (apply Sees.cons; (focus ((repeat (first | exact Z0 | apply Sel.there)); done))) | apply Sees.skip))
theorem store_spec (ω : World) (b : Nat) (x0 x1 x2 x3 x4 x5 : Value) (x6 : Value) (xs : List Value) (at_ n v : Int) (fn : Fn) (l c : Array Value) (F : List HP)  : Spec ω Tryz.prog 127 #[.pointer (some ⟨b, 0, none⟩), .int .i64 at_, .int .i64 n, .int .u64 v, .func fn l c] (row b 0 (x0 :: x1 :: x2 :: x3 :: x4 :: x5 :: x6 :: xs) :: F) fun v' H' => ∃ bt, v' = .tuple #[] ∧ H' = row b 0 (.int .i64 2 :: .int .i64 at_ :: .int .i64 n :: .int .u64 v :: .int .u64 0 :: .slice none 0 0 :: .func (.func 159) #[] #[.pointer (some ⟨bt, 0, none⟩)] :: xs) :: row bt 0 [.func fn l c] :: F := by
  refine spec_of_body Tryz.func127 rfl Tryz.ntmps127 rfl ?_
  refine Cr ?_
  refine Ro rfl (ot_box rfl rfl (rfl : _ = [_])) ?_
  rintro _ _ ⟨b9, rfl, rfl⟩
  refine Kn5 0 1 2 3 9 rfl ?_
  refine ct_region ?_
  refine Rp rfl (pv_move rfl) ?_
  refine Rp rfl (pv_move rfl) ?_
  refine Rp rfl (pv_move rfl) ?_
  refine Rp rfl (pv_move rfl) ?_
  refine Rp rfl (pv_build (ps := [(0, _), (1, _), (2, _), (3, _)]) (cs := [_, _, _, _, _, _]) rfl Tryz.zeroValue36 Tryz.runUnderlying36 (.cons Tryz.sizeOf3 (.cons Tryz.sizeOf3 (.cons Tryz.sizeOf3 (.cons Tryz.sizeOf28 (.cons Tryz.sizeOf28 (.cons Tryz.sizeOf29 (.nil))))))) rfl) ?_
  refine Rp rfl (pv_makeFunc (l := []) (c := [_]) rfl rfl) ?_
  refine Ro rfl (ot_call rfl Tryz.call86 (vs := [_, _, _]) rfl (by repeat (first | exact Sees.refl | (apply Sees.cons; (focus ((repeat (first | exact Z0 | apply Sel.there)); done))) | apply Sees.skip)) (do_spec _ _ _ _ _ _ _ _ _ _ _ _ _ _ _ _ _ _ _ _ _ _)) ?_
  rintro _ _ ⟨rfl, rfl⟩
  refine rl_nil ?_
  exact fin_end (RVs.nil) Tryz.results127 (⟨_, rfl, rfl⟩) (by repeat (first | exact Sees.refl | (apply Sees.cons; (focus ((repeat (first | exact Z0 | apply Sel.there)); done))) | apply Sees.skip))
theorem load1_spec (ω : World) (av : Int) (ad : Bool) (ap : Option Addr) (an ac : Nat) (bt : Nat) (f : FuncId) (l c : List Value) (R : List HP → Prop) (F : List HP) (hc : ∀ args w, (callFunc f args).run Tryz.prog w = .ok (.enter f args) w) (hf : Spec ω Tryz.prog f (l ++ [Value.int .u64 av] ++ c).toArray F fun v H => v = .tuple #[] ∧ R H) : Spec ω Tryz.prog 130 #[.agg #[.int .u64 av, .bool ad, .slice ap an ac], .pointer (some ⟨bt, 0, none⟩)] (row bt 0 [.func (.func f) l.toArray c.toArray] :: F) fun v' H' => v' = .tuple #[] ∧ R H' := by
  refine spec_of_body Tryz.func130 rfl Tryz.ntmps130 rfl ?_
  refine Cr ?_
  refine Ro rfl (ot_box rfl rfl (rfl : _ = [_, _, _])) ?_
  rintro _ _ ⟨b2, rfl, rfl⟩
  refine Kn2 1 2 rfl ?_
  refine ct_region ?_
  refine Rq rfl (oq_load rfl rfl Tryz.isAgg146 (by repeat (first | exact Z0 | apply Sel.there)) (by rfl) (by rfl)) ?_
  refine Rp rfl (pv_fieldAddr (k := 0) rfl Tryz.runUnderlying31 rfl Tryz.sizeOf28 rfl rfl) ?_
  refine Rq rfl (oq_load rfl rfl Tryz.isAgg28 (by repeat (first | exact Z0 | apply Sel.there)) (by rfl) (by rfl)) ?_
  refine Ro rfl (ot_callv (l := l) (c := c) (vs := [_]) rfl rfl hc rfl (by repeat (first | exact Sees.refl | (apply Sees.cons; (focus ((repeat (first | exact Z0 | apply Sel.there)); done))) | apply Sees.skip)) hf) ?_
  rintro _ _ ⟨rfl, hR⟩
  refine rl_nil ?_
  exact fin_end (RVs.nil) Tryz.results130 (⟨rfl, hR⟩) (.refl)
theorem store1_spec (ω : World) (av : Int) (ad : Bool) (ap : Option Addr) (an ac : Nat) (bt : Nat) (f : FuncId) (l c : List Value) (R : List HP → Prop) (F : List HP) (hc : ∀ args w, (callFunc f args).run Tryz.prog w = .ok (.enter f args) w) (hf : Spec ω Tryz.prog f (l ++ [] ++ c).toArray F fun v H => v = .tuple #[] ∧ R H) : Spec ω Tryz.prog 159 #[.agg #[.int .u64 av, .bool ad, .slice ap an ac], .pointer (some ⟨bt, 0, none⟩)] (row bt 0 [.func (.func f) l.toArray c.toArray] :: F) fun v' H' => v' = .tuple #[] ∧ R H' := by
  refine spec_of_body Tryz.func159 rfl Tryz.ntmps159 rfl ?_
  refine Cr ?_
  refine Ro rfl (ot_box rfl rfl (rfl : _ = [_, _, _])) ?_
  rintro _ _ ⟨b2, rfl, rfl⟩
  refine Kn1 1 rfl ?_
  refine ct_region ?_
  refine Rq rfl (oq_load rfl rfl Tryz.isAgg1 (by repeat (first | exact Z0 | apply Sel.there)) (by rfl) (by rfl)) ?_
  refine Ro rfl (ot_callv (l := l) (c := c) (vs := []) rfl rfl hc rfl (by repeat (first | exact Sees.refl | (apply Sees.cons; (focus ((repeat (first | exact Z0 | apply Sel.there)); done))) | apply Sees.skip)) hf) ?_
  rintro _ _ ⟨rfl, hR⟩
  refine rl_nil ?_
  exact fin_end (RVs.nil) Tryz.results159 (⟨rfl, hR⟩) (.refl)
theorem cnext_spec (ω : World) (b : Nat) (k at_ n v u : Int) (p : Option Addr) (m q : Nat) (fn : Fn) (l c : Array Value) (xs : List Value) (F : List HP)  : Spec ω Tryz.prog 67 #[.pointer (some ⟨b, 0, none⟩)] (row b 0 (.int .i64 k :: .int .i64 at_ :: .int .i64 n :: .int .u64 v :: .int .u64 u :: .slice p m q :: .func fn l c :: xs) :: F) fun v' H' => v' = .tuple #[.agg #[.int .i64 k, .int .i64 at_, .int .i64 n, .int .u64 v, .int .u64 u, .slice p m q], .bool true] ∧ H' = row b 0 (.int .i64 k :: .int .i64 at_ :: .int .i64 n :: .int .u64 v :: .int .u64 u :: .slice p m q :: .func fn l c :: xs) :: F := by
  refine spec_of_body Tryz.func67 rfl Tryz.ntmps67 rfl ?_
  refine Cr ?_
  refine Ro rfl (ot_alloc rfl Tryz.zeroValue36 (rfl : _ = [_, _, _, _, _, _])) ?_
  rintro _ _ ⟨b2, rfl, rfl⟩
  refine Rp rfl (pv_assign rfl) ?_
  refine Kn2 0 2 rfl ?_
  refine ct_seq ?_
  refine Cr ?_
  refine Rp rfl (pv_move rfl) ?_
  refine Rp rfl (pv_eql rfl rfl Tryz.runUnderlying189 rfl) ?_
  refine Rp rfl (pv_move rfl) ?_
  refine Ru rfl (pv_move rfl) ?_
  refine Ru rfl (pv_nilCheck rfl) ?_
  refine Ru rfl (pv_fieldAddr (k := 6) rfl Tryz.runUnderlying133 rfl Tryz.sizeOf49 rfl rfl) ?_
  refine Rv rfl (oq_load rfl rfl Tryz.isAgg49 (by repeat (first | exact Z0 | apply Sel.there)) (by rfl) (by rfl)) ?_
  refine Ru rfl (pv_eql rfl rfl Tryz.runUnderlying49 rfl) ?_
  refine Rp rfl (pv_pick0 rfl rfl) ?_
  refine Kn3 0 2 12 rfl ?_
  refine ct_false rfl ?_
  refine ct_skip ?_
  refine Kx2 0 2 rfl ?_
  refine Cr ?_
  refine Rp rfl (pv_move rfl) ?_
  refine Rp rfl (pv_nilCheck rfl) ?_
  refine Rp rfl (pv_fieldAddr (k := 0) rfl Tryz.runUnderlying133 rfl Tryz.sizeOf36 rfl rfl) ?_
  refine Rq rfl (oq_loadAgg (us := [_, _, _, _, _, _]) rfl rfl Tryz.isAgg36 Tryz.sizeOf36 (by repeat (first | exact Z0 | apply Sel.there)) (by rfl) (by rfl) (by rfl)) ?_
  refine rl_op0 rfl rfl (ot_store rfl rfl rfl Tryz.sizeOf36 (by repeat (first | exact Z0 | apply Sel.there)) (rfl : _ = [_, _, _, _, _, _]) rfl (by rfl) (by rfl) (by first | rfl | assumption) (by exact (rfl : _ = _ :: _ :: _ :: _ :: _ :: _ :: _))) ?_
  rintro _ _ rfl
  refine Rp rfl (pv_assign rfl) ?_
  refine Kn2 2 3 rfl ?_
  refine ct_ret ?_
  exact fin_ret (RVs.agg (us := [_, _, _, _, _, _]) rfl Tryz.isAgg36 Tryz.sizeOf36 (by repeat (first | exact Z0 | apply Sel.there)) (by rfl) (by rfl) (by rfl) (RVs.tmp rfl (RVs.nil))) Tryz.results67 (⟨rfl, rfl⟩) (by repeat (first | exact Sees.refl | (apply Sees.cons; (focus ((repeat (first | exact Z0 | apply Sel.there)); done))) | apply Sees.skip))
theorem cnext_end (ω : World) (b : Nat) (x0 x1 x2 x3 x4 x5 : Value) (xs : List Value) (F : List HP)  : Spec ω Tryz.prog 67 #[.pointer (some ⟨b, 0, none⟩)] (row b 0 (x0 :: x1 :: x2 :: x3 :: x4 :: x5 :: .nilFunc :: xs) :: F) fun v' H' => v' = .tuple #[.agg #[.int .i64 0, .int .i64 0, .int .i64 0, .int .u64 0, .int .u64 0, .slice none 0 0], .bool false] ∧ H' = row b 0 (x0 :: x1 :: x2 :: x3 :: x4 :: x5 :: .nilFunc :: xs) :: F := by
  refine spec_of_body Tryz.func67 rfl Tryz.ntmps67 rfl ?_
  refine Cr ?_
  refine Ro rfl (ot_alloc rfl Tryz.zeroValue36 (rfl : _ = [_, _, _, _, _, _])) ?_
  rintro _ _ ⟨b2, rfl, rfl⟩
  refine Rp rfl (pv_assign rfl) ?_
  refine Kn2 0 2 rfl ?_
  refine ct_seq ?_
  refine Cr ?_
  refine Rp rfl (pv_move rfl) ?_
  refine Rp rfl (pv_eql rfl rfl Tryz.runUnderlying189 rfl) ?_
  refine Rp rfl (pv_move rfl) ?_
  refine Ru rfl (pv_move rfl) ?_
  refine Ru rfl (pv_nilCheck rfl) ?_
  refine Ru rfl (pv_fieldAddr (k := 6) rfl Tryz.runUnderlying133 rfl Tryz.sizeOf49 rfl rfl) ?_
  refine Rv rfl (oq_load rfl rfl Tryz.isAgg49 (by repeat (first | exact Z0 | apply Sel.there)) (by rfl) (by rfl)) ?_
  refine Ru rfl (pv_eql rfl rfl Tryz.runUnderlying49 rfl) ?_
  refine Rp rfl (pv_pick0 rfl rfl) ?_
  refine Kn3 0 2 12 rfl ?_
  refine ct_true rfl ?_
  refine Cr ?_
  refine Rp rfl (pv_build (ps := []) (cs := [_, _, _, _, _, _]) rfl Tryz.zeroValue36 Tryz.runUnderlying36 (.cons Tryz.sizeOf3 (.cons Tryz.sizeOf3 (.cons Tryz.sizeOf3 (.cons Tryz.sizeOf28 (.cons Tryz.sizeOf28 (.cons Tryz.sizeOf29 (.nil))))))) rfl) ?_
  refine rl_op0 rfl rfl (ot_store rfl rfl rfl Tryz.sizeOf36 (by repeat (first | exact Z0 | apply Sel.there)) (rfl : _ = [_, _, _, _, _, _]) rfl (by rfl) (by rfl) (by first | rfl | assumption) (by exact (rfl : _ = _ :: _ :: _ :: _ :: _ :: _ :: _))) ?_
  rintro _ _ rfl
  refine Rp rfl (pv_assign rfl) ?_
  refine Kn2 2 3 rfl ?_
  refine ct_ret ?_
  refine xt_ret_then ?_
  exact fin_ret (RVs.agg (us := [_, _, _, _, _, _]) rfl Tryz.isAgg36 Tryz.sizeOf36 (by repeat (first | exact Z0 | apply Sel.there)) (by rfl) (by rfl) (by rfl) (RVs.tmp rfl (RVs.nil))) Tryz.results67 (⟨rfl, rfl⟩) (by repeat (first | exact Sees.refl | (apply Sees.cons; (focus ((repeat (first | exact Z0 | apply Sel.there)); done))) | apply Sees.skip))
theorem ctake_spec (ω : World) (b : Nat) (x0 x1 x2 x3 x4 x5 : Value) (f : FuncId) (l c : List Value) (xs : List Value) (av : Int) (ad : Bool) (ap : Option Addr) (an ac : Nat) (R : List HP → Prop) (F : List HP) (hc : ∀ args w, (callFunc f args).run Tryz.prog w = .ok (.enter f args) w) (hf : Spec ω Tryz.prog f (l ++ [Value.agg #[.int .u64 av, .bool ad, .slice ap an ac]] ++ c).toArray (row b 0 (.int .i64 0 :: .int .i64 0 :: .int .i64 0 :: .int .u64 0 :: .int .u64 0 :: .slice none 0 0 :: .nilFunc :: xs) :: F) fun v H => v = .tuple #[] ∧ R H) : Spec ω Tryz.prog 68 #[.pointer (some ⟨b, 0, none⟩), .agg #[.int .u64 av, .bool ad, .slice ap an ac]] (row b 0 (x0 :: x1 :: x2 :: x3 :: x4 :: x5 :: .func (.func f) l.toArray c.toArray :: xs) :: F) fun v' H' => v' = .tuple #[] ∧ R H' := by
  refine spec_of_body Tryz.func68 rfl Tryz.ntmps68 rfl ?_
  refine Cr ?_
  refine Ro rfl (ot_box rfl rfl (rfl : _ = [_, _, _])) ?_
  rintro _ _ ⟨b3, rfl, rfl⟩
  refine Kn2 0 3 rfl ?_
  refine ct_seq ?_
  refine Cr ?_
  refine Rp rfl (pv_move rfl) ?_
  refine Rp rfl (pv_eql rfl rfl Tryz.runUnderlying189 rfl) ?_
  refine Rp rfl (pv_move rfl) ?_
  refine Ru rfl (pv_move rfl) ?_
  refine Ru rfl (pv_nilCheck rfl) ?_
  refine Ru rfl (pv_fieldAddr (k := 6) rfl Tryz.runUnderlying133 rfl Tryz.sizeOf49 rfl rfl) ?_
  refine Rv rfl (oq_load rfl rfl Tryz.isAgg49 (by repeat (first | exact Z0 | apply Sel.there)) (by rfl) (by rfl)) ?_
  refine Ru rfl (pv_eql rfl rfl Tryz.runUnderlying49 rfl) ?_
  refine Rp rfl (pv_pick0 rfl rfl) ?_
  refine Kn3 0 3 13 rfl ?_
  refine ct_false rfl ?_
  refine ct_skip ?_
  refine Kx2 0 3 rfl ?_
  refine Cr ?_
  refine Rp rfl (pv_move rfl) ?_
  refine Rp rfl (pv_nilCheck rfl) ?_
  refine Rp rfl (pv_fieldAddr (k := 6) rfl Tryz.runUnderlying133 rfl Tryz.sizeOf49 rfl rfl) ?_
  refine Rq rfl (oq_load rfl rfl Tryz.isAgg49 (by repeat (first | exact Z0 | apply Sel.there)) (by rfl) (by rfl)) ?_
  refine Rp rfl (pv_assign rfl) ?_
  refine Kn3 0 3 4 rfl ?_
  refine Cr ?_
  refine Rp rfl (pv_move rfl) ?_
  refine Rp rfl (pv_move rfl) ?_
  refine Rp rfl (pv_build (ps := []) (cs := [_, _, _, _, _, _]) rfl Tryz.zeroValue36 Tryz.runUnderlying36 (.cons Tryz.sizeOf3 (.cons Tryz.sizeOf3 (.cons Tryz.sizeOf3 (.cons Tryz.sizeOf28 (.cons Tryz.sizeOf28 (.cons Tryz.sizeOf29 (.nil))))))) rfl) ?_
  refine Rp rfl (pv_nilCheck rfl) ?_
  refine Rp rfl (pv_fieldAddr (k := 0) rfl Tryz.runUnderlying133 rfl Tryz.sizeOf36 rfl rfl) ?_
  refine rl_op0 rfl rfl (ot_store rfl rfl rfl Tryz.sizeOf36 (by repeat (first | exact Z0 | apply Sel.there)) (rfl : _ = [_, _, _, _, _, _]) rfl (by rfl) (by rfl) (by first | rfl | assumption) (by exact (rfl : _ = _ :: _ :: _ :: _ :: _ :: _ :: _))) ?_
  rintro _ _ rfl
  refine Rp rfl (pv_nilCheck rfl) ?_
  refine Rp rfl (pv_fieldAddr (k := 6) rfl Tryz.runUnderlying133 rfl Tryz.sizeOf49 rfl rfl) ?_
  refine rl_op0 rfl rfl (ot_store rfl rfl rfl Tryz.sizeOf49 (by repeat (first | exact Z0 | apply Sel.there)) (rfl : _ = [_]) rfl (by rfl) (by rfl) (by first | rfl | assumption) (by exact (rfl : _ = _ :: _ :: _ :: _ :: _ :: _ :: _ :: _))) ?_
  rintro _ _ rfl
  refine Kn2 3 4 rfl ?_
  refine ct_region ?_
  refine Rp rfl (pv_move rfl) ?_
  refine Rq rfl (oq_loadAgg (us := [_, _, _]) rfl rfl Tryz.isAgg31 Tryz.sizeOf31 (by repeat (first | exact Z0 | apply Sel.there)) (by rfl) (by rfl) (by rfl)) ?_
  refine Ro rfl (ot_callv (l := l) (c := c) (vs := [_]) rfl rfl hc rfl (by repeat (first | exact Sees.refl | (apply Sees.cons; (focus ((repeat (first | exact Z0 | apply Sel.there)); done))) | apply Sees.skip)) hf) ?_
  rintro _ _ ⟨rfl, hR⟩
  refine rl_nil ?_
  exact fin_end (RVs.nil) Tryz.results68 (⟨rfl, hR⟩) (.refl)
theorem ctake_end (ω : World) (b : Nat) (x0 x1 x2 x3 x4 x5 : Value) (xs : List Value) (av : Int) (ad : Bool) (ap : Option Addr) (an ac : Nat) (F : List HP)  : Spec ω Tryz.prog 68 #[.pointer (some ⟨b, 0, none⟩), .agg #[.int .u64 av, .bool ad, .slice ap an ac]] (row b 0 (x0 :: x1 :: x2 :: x3 :: x4 :: x5 :: .nilFunc :: xs) :: F) fun v' H' => v' = .tuple #[] ∧ H' = row b 0 (x0 :: x1 :: x2 :: x3 :: x4 :: x5 :: .nilFunc :: xs) :: F := by
  refine spec_of_body Tryz.func68 rfl Tryz.ntmps68 rfl ?_
  refine Cr ?_
  refine Ro rfl (ot_box rfl rfl (rfl : _ = [_, _, _])) ?_
  rintro _ _ ⟨b3, rfl, rfl⟩
  refine Kn2 0 3 rfl ?_
  refine ct_seq ?_
  refine Cr ?_
  refine Rp rfl (pv_move rfl) ?_
  refine Rp rfl (pv_eql rfl rfl Tryz.runUnderlying189 rfl) ?_
  refine Rp rfl (pv_move rfl) ?_
  refine Ru rfl (pv_move rfl) ?_
  refine Ru rfl (pv_nilCheck rfl) ?_
  refine Ru rfl (pv_fieldAddr (k := 6) rfl Tryz.runUnderlying133 rfl Tryz.sizeOf49 rfl rfl) ?_
  refine Rv rfl (oq_load rfl rfl Tryz.isAgg49 (by repeat (first | exact Z0 | apply Sel.there)) (by rfl) (by rfl)) ?_
  refine Ru rfl (pv_eql rfl rfl Tryz.runUnderlying49 rfl) ?_
  refine Rp rfl (pv_pick0 rfl rfl) ?_
  refine Kn3 0 3 13 rfl ?_
  refine ct_true rfl ?_
  refine ct_ret ?_
  refine xt_ret_then ?_
  exact fin_ret (RVs.nil) Tryz.results68 (⟨rfl, rfl⟩) (by repeat (first | exact Sees.refl | (apply Sees.cons; (focus ((repeat (first | exact Z0 | apply Sel.there)); done))) | apply Sees.skip))
theorem out_more (ω : World) (b : Nat) (x0 x1 x2 x3 x4 x5 : Value) (x6 : Value) (xs : List Value) (at_ n : Int) (hp : Option Addr) (hn hc : Nat) (fn : Fn) (l c : Array Value) (h1 : 1 ≤ n) (F : List HP)  : Spec ω Tryz.prog 160 #[.pointer (some ⟨b, 0, none⟩), .int .i64 at_, .int .i64 n, .slice hp hn hc, .func fn l c] (row b 0 (x0 :: x1 :: x2 :: x3 :: x4 :: x5 :: x6 :: xs) :: F) fun v' H' => ∃ b5 b6 b7 b8 b9 b10, v' = .tuple #[] ∧ H' = row b 0 (.int .i64 5 :: .int .i64 at_ :: .int .i64 (if 8 < n then 8 else n) :: .int .u64 0 :: .int .u64 0 :: .slice none 0 0 :: .func (.func 172) #[] #[.pointer (some ⟨b5, 0, none⟩), .pointer (some ⟨b6, 0, none⟩), .pointer (some ⟨b10, 0, none⟩), .pointer (some ⟨b7, 0, none⟩), .pointer (some ⟨b8, 0, none⟩), .pointer (some ⟨b9, 0, none⟩)] :: xs) :: row b10 0 [.int .i64 (if 8 < n then 8 else n)] :: row b9 0 [.func fn l c] :: row b8 0 [.slice hp hn hc] :: row b7 0 [.int .i64 n] :: row b6 0 [.int .i64 at_] :: row b5 0 [.pointer (some ⟨b, 0, none⟩)] :: F := by
  refine spec_of_body Tryz.func160 rfl Tryz.ntmps160 rfl ?_
  refine Cr ?_
  refine Ro rfl (ot_box rfl rfl (rfl : _ = [_])) ?_
  rintro _ _ ⟨b5, rfl, rfl⟩
  refine Ro rfl (ot_box rfl rfl (rfl : _ = [_])) ?_
  rintro _ _ ⟨b6, rfl, rfl⟩
  refine Ro rfl (ot_box rfl rfl (rfl : _ = [_])) ?_
  rintro _ _ ⟨b7, rfl, rfl⟩
  refine Ro rfl (ot_box rfl rfl (rfl : _ = [_])) ?_
  rintro _ _ ⟨b8, rfl, rfl⟩
  refine Ro rfl (ot_box rfl rfl (rfl : _ = [_])) ?_
  rintro _ _ ⟨b9, rfl, rfl⟩
  refine Kn5 5 6 7 8 9 rfl ?_
  refine ct_seq ?_
  refine Cr ?_
  refine Rq rfl (oq_load rfl rfl Tryz.isAgg3 (by repeat (first | exact Z0 | apply Sel.there)) (by rfl) (by rfl)) ?_
  refine Rp rfl (pv_bin rfl rfl rfl) ?_
  refine Kn6 5 6 7 8 9 12 rfl ?_
  first | refine ct_cond_d rfl (fun h12 => ?_) (fun h12 => ?_) | refine ct_cond_n rfl (fun h12 => ?_) (fun h12 => ?_) | refine ct_cond_b rfl (fun h12 => ?_) (fun h12 => ?_) | refine ct_cond rfl (fun h12 => ?_) (fun h12 => ?_)
  · exfalso; first | omega | (simp_all; done) | (simp_all; omega)
  · skip
    refine ct_skip ?_
    refine Kx5 5 6 7 8 9 rfl ?_
    refine Cr ?_
    refine Rq rfl (oq_load rfl rfl Tryz.isAgg3 (by repeat (first | exact Z0 | apply Sel.there)) (by rfl) (by rfl)) ?_
    refine Rp rfl (pv_min rfl rfl) ?_
    refine Ro rfl (ot_alloc rfl Tryz.zeroValue3 (rfl : _ = [_])) ?_
    rintro _ _ ⟨b10, rfl, rfl⟩
    refine rl_op0 rfl rfl (ot_store rfl rfl rfl Tryz.sizeOf3 (by repeat (first | exact Z0 | apply Sel.there)) (rfl : _ = [_]) rfl (by rfl) (by rfl) (by first | rfl | assumption) (by exact (rfl : _ = _ :: _))) ?_
    rintro _ _ rfl
    refine Kn6 5 6 7 8 9 10 rfl ?_
    refine ct_region ?_
    refine Rq rfl (oq_load rfl rfl Tryz.isAgg189 (by repeat (first | exact Z0 | apply Sel.there)) (by rfl) (by rfl)) ?_
    refine Rq rfl (oq_load rfl rfl Tryz.isAgg3 (by repeat (first | exact Z0 | apply Sel.there)) (by rfl) (by rfl)) ?_
    refine Rq rfl (oq_load rfl rfl Tryz.isAgg3 (by repeat (first | exact Z0 | apply Sel.there)) (by rfl) (by rfl)) ?_
    refine Rp rfl (pv_build (ps := [(0, _), (1, _), (2, _)]) (cs := [_, _, _, _, _, _]) rfl Tryz.zeroValue36 Tryz.runUnderlying36 (.cons Tryz.sizeOf3 (.cons Tryz.sizeOf3 (.cons Tryz.sizeOf3 (.cons Tryz.sizeOf28 (.cons Tryz.sizeOf28 (.cons Tryz.sizeOf29 (.nil))))))) rfl) ?_
    refine Rp rfl (pv_makeFunc (l := []) (c := [_, _, _, _, _, _]) rfl rfl) ?_
    refine Ro rfl (ot_call rfl Tryz.call86 (vs := [_, _, _]) rfl (by repeat (first | exact Sees.refl | (apply Sees.cons; (focus ((repeat (first | exact Z0 | apply Sel.there)); done))) | apply Sees.skip)) (do_spec _ _ _ _ _ _ _ _ _ _ _ _ _ _ _ _ _ _ _ _ _ _)) ?_
    rintro _ _ ⟨rfl, rfl⟩
    refine rl_nil ?_
    exact fin_end (RVs.nil) Tryz.results160 (⟨_, _, _, _, _, _, rfl, rfl⟩) (by repeat (first | exact Sees.refl | (apply Sees.cons; (focus ((repeat (first | exact Z0 | apply Sel.there)); done))) | apply Sees.skip))
theorem out_done (ω : World) (b : Nat) (x0 x1 x2 x3 x4 x5 : Value) (x6 : Value) (xs : List Value) (at_ n : Int) (hp : Option Addr) (hn hc : Nat) (f : FuncId) (l c : List Value) (h1 : n < 1) (R : List HP → Prop) (F : List HP) (hcf : ∀ args w, (callFunc f args).run Tryz.prog w = .ok (.enter f args) w) (hf : Spec ω Tryz.prog f (l ++ [Value.slice hp hn hc] ++ c).toArray (row b 0 (x0 :: x1 :: x2 :: x3 :: x4 :: x5 :: x6 :: xs) :: F) fun v H => v = .tuple #[] ∧ R H) : Spec ω Tryz.prog 160 #[.pointer (some ⟨b, 0, none⟩), .int .i64 at_, .int .i64 n, .slice hp hn hc, .func (.func f) l.toArray c.toArray] (row b 0 (x0 :: x1 :: x2 :: x3 :: x4 :: x5 :: x6 :: xs) :: F) fun v' H' => v' = .tuple #[] ∧ R H' := by
  refine spec_of_body Tryz.func160 rfl Tryz.ntmps160 rfl ?_
  refine Cr ?_
  refine Ro rfl (ot_box rfl rfl (rfl : _ = [_])) ?_
  rintro _ _ ⟨b5, rfl, rfl⟩
  refine Ro rfl (ot_box rfl rfl (rfl : _ = [_])) ?_
  rintro _ _ ⟨b6, rfl, rfl⟩
  refine Ro rfl (ot_box rfl rfl (rfl : _ = [_])) ?_
  rintro _ _ ⟨b7, rfl, rfl⟩
  refine Ro rfl (ot_box rfl rfl (rfl : _ = [_])) ?_
  rintro _ _ ⟨b8, rfl, rfl⟩
  refine Ro rfl (ot_box rfl rfl (rfl : _ = [_])) ?_
  rintro _ _ ⟨b9, rfl, rfl⟩
  refine Kn5 5 6 7 8 9 rfl ?_
  refine ct_seq ?_
  refine Cr ?_
  refine Rq rfl (oq_load rfl rfl Tryz.isAgg3 (by repeat (first | exact Z0 | apply Sel.there)) (by rfl) (by rfl)) ?_
  refine Rp rfl (pv_bin rfl rfl rfl) ?_
  refine Kn6 5 6 7 8 9 12 rfl ?_
  first | refine ct_cond_d rfl (fun h12 => ?_) (fun h12 => ?_) | refine ct_cond_n rfl (fun h12 => ?_) (fun h12 => ?_) | refine ct_cond_b rfl (fun h12 => ?_) (fun h12 => ?_) | refine ct_cond rfl (fun h12 => ?_) (fun h12 => ?_)
  · skip
    refine Cr ?_
    refine Rq rfl (oq_load rfl rfl Tryz.isAgg237 (by repeat (first | exact Z0 | apply Sel.there)) (by rfl) (by rfl)) ?_
    refine Rq rfl (oq_load rfl rfl Tryz.isAgg29 (by repeat (first | exact Z0 | apply Sel.there)) (by rfl) (by rfl)) ?_
    refine Ro rfl (ot_callv (l := l) (c := c) (vs := [_]) rfl rfl hcf rfl (by repeat (first | exact Sees.refl | (apply Sees.cons; (focus ((repeat (first | exact Z0 | apply Sel.there)); done))) | apply Sees.skip)) hf) ?_
    rintro _ _ ⟨rfl, hR⟩
    refine rl_nil ?_
    refine xt_then ?_
    refine CT.weaken (E' := []) (Knows.nil) Sees.refl ?_
    refine ct_ret ?_
    refine xt_ret_then ?_
    exact fin_ret (RVs.nil) Tryz.results160 (⟨rfl, hR⟩) (.refl)
  · exfalso; first | omega | (simp_all; done) | (simp_all; omega)
theorem out1_more (ω : World) (av : Int) (ad : Bool) (ap : Option Addr) (an ac : Nat) (b q5 q6 q7 q8 q9 q10 : Nat) (x0 x1 x2 x3 x4 x5 : Value) (x6 : Value) (xs : List Value) (at_ n kk : Int) (hp : Option Addr) (hn hc : Nat) (hxs ys : List Value) (X : HP) (hX : Rd ω X 1 ap an ys) (hpl : plainCells ys = true) (hbd : hn + an ≤ 140737488355328) (ha : inK .i64 (at_ + kk)) (hn0 : inK .i64 (n - kk)) (fn : Fn) (l c : Array Value) (h1 : 1 ≤ n - kk) (F : List HP)  : Spec ω Tryz.prog 172 #[.agg #[.int .u64 av, .bool ad, .slice ap an ac], .pointer (some ⟨q5, 0, none⟩), .pointer (some ⟨q6, 0, none⟩), .pointer (some ⟨q10, 0, none⟩), .pointer (some ⟨q7, 0, none⟩), .pointer (some ⟨q8, 0, none⟩), .pointer (some ⟨q9, 0, none⟩)] (row b 0 (x0 :: x1 :: x2 :: x3 :: x4 :: x5 :: x6 :: xs) :: row q5 0 [.pointer (some ⟨b, 0, none⟩)] :: row q6 0 [.int .i64 at_] :: row q10 0 [.int .i64 kk] :: row q7 0 [.int .i64 n] :: row q8 0 [.slice hp hn hc] :: row q9 0 [.func fn l c] :: own 1 hp hn hc hxs :: X :: F) fun v' H' => ∃ c5 c6 c7 c8 c9 c10 hp' hc', v' = .tuple #[] ∧ H' = row b 0 (.int .i64 5 :: .int .i64 (at_ + kk) :: .int .i64 (if 8 < n - kk then 8 else n - kk) :: .int .u64 0 :: .int .u64 0 :: .slice none 0 0 :: .func (.func 172) #[] #[.pointer (some ⟨c5, 0, none⟩), .pointer (some ⟨c6, 0, none⟩), .pointer (some ⟨c10, 0, none⟩), .pointer (some ⟨c7, 0, none⟩), .pointer (some ⟨c8, 0, none⟩), .pointer (some ⟨c9, 0, none⟩)] :: xs) :: row c10 0 [.int .i64 (if 8 < n - kk then 8 else n - kk)] :: row c9 0 [.func fn l c] :: row c8 0 [.slice hp' (hn + an) hc'] :: row c7 0 [.int .i64 (n - kk)] :: row c6 0 [.int .i64 (at_ + kk)] :: row c5 0 [.pointer (some ⟨b, 0, none⟩)] :: own 1 hp' (hn + an) hc' (hxs ++ ys) :: X :: F := by
  refine spec_of_body Tryz.func172 rfl Tryz.ntmps172 rfl ?_
  refine Cr ?_
  refine Ro rfl (ot_box rfl rfl (rfl : _ = [_, _, _])) ?_
  rintro _ _ ⟨b7, rfl, rfl⟩
  refine Kn7 1 2 3 4 5 6 7 rfl ?_
  refine ct_plan1 [.q 0, .q 1, .q 2, .q 3, .q 4, .q 5, .q 6, .q 7, .q 8, .q 9, .q 11, .e 10, .b 12] (own 1 _ _ _ _) (by repeat (first | exact Sees.refl | (apply Sees.cons; (focus ((repeat (first | exact Z0 | apply Sel.there)); done))) | apply Sees.skip)) mixed (by decide +kernel) ?_
  refine pw_q rfl rfl rfl rfl (oq_load rfl rfl Tryz.isAgg189 (by repeat (first | exact Z0 | apply Sel.there)) (by rfl) (by rfl)) ?_
  refine pw_q rfl rfl rfl rfl (oq_load rfl rfl Tryz.isAgg3 (by repeat (first | exact Z0 | apply Sel.there)) (by rfl) (by rfl)) ?_
  refine pw_q rfl rfl rfl rfl (oq_load rfl rfl Tryz.isAgg3 (by repeat (first | exact Z0 | apply Sel.there)) (by rfl) (by rfl)) ?_
  refine pw_q rfl rfl rfl rfl (oq_pv (pv_add rfl rfl ⟨by omega, by omega⟩)) ?_
  refine pw_q rfl rfl rfl rfl (oq_load rfl rfl Tryz.isAgg3 (by repeat (first | exact Z0 | apply Sel.there)) (by rfl) (by rfl)) ?_
  refine pw_q rfl rfl rfl rfl (oq_load rfl rfl Tryz.isAgg3 (by repeat (first | exact Z0 | apply Sel.there)) (by rfl) (by rfl)) ?_
  refine pw_q rfl rfl rfl rfl (oq_pv (pv_sub rfl rfl ⟨by omega, by omega⟩)) ?_
  refine pw_q rfl rfl rfl rfl (oq_load rfl rfl Tryz.isAgg29 (by repeat (first | exact Z0 | apply Sel.there)) (by rfl) (by rfl)) ?_
  refine pw_q rfl rfl rfl rfl (oq_pv (pv_fieldAddr (k := 2) rfl Tryz.runUnderlying31 rfl Tryz.sizeOf29 rfl rfl)) ?_
  refine pw_q rfl rfl rfl rfl (oq_load rfl rfl Tryz.isAgg29 (by repeat (first | exact Z0 | apply Sel.there)) (by rfl) (by rfl)) ?_
  refine pw_q rfl rfl rfl rfl (oq_load rfl rfl Tryz.isAgg237 (by repeat (first | exact Z0 | apply Sel.there)) (by rfl) (by rfl)) ?_
  refine pw_e rfl rfl rfl rfl (ot_append (by_ := 1) rfl rfl rfl Tryz.runUnderlying29 Tryz.runUnderlying29 Tryz.sizeOf5 Tryz.typeInfo5 rfl Tryz.zeroValue5 rfl (by decide) (by repeat (first | exact Z0 | apply Sel.there)) (by repeat (first | exact Z0 | apply Sel.there)) hX hpl (by omega)) ?_
  rintro _ _ ⟨p18, c18, rfl, rfl⟩
  refine ⟨[_], .refl, ?_⟩
  refine pw_b rfl rfl rfl rfl (ot_call rfl Tryz.call160 (vs := [_, _, _, _, _]) rfl (by repeat (first | exact Sees.refl | (apply Sees.cons; (focus ((repeat (first | exact Z0 | apply Sel.there)); done))) | apply Sees.skip)) (out_more _ _ _ _ _ _ _ _ _ _ _ _ _ _ _ _ _ _ h1 _)) ?_
  rintro _ _ ⟨c5, c6, c7, c8, c9, c10, rfl, rfl⟩
  refine pw_done ?_
  exact fin_end (RVs.nil) Tryz.results172 (⟨_, _, _, _, _, _, _, _, rfl, rfl⟩) (by repeat (first | exact Sees.refl | (apply Sees.cons; (focus ((repeat (first | exact Z0 | apply Sel.there)); done))) | apply Sees.skip))
theorem out1_done (ω : World) (av : Int) (ad : Bool) (ap : Option Addr) (an ac : Nat) (b q5 q6 q7 q8 q9 q10 : Nat) (x0 x1 x2 x3 x4 x5 : Value) (x6 : Value) (xs : List Value) (at_ n kk : Int) (hp : Option Addr) (hn hc : Nat) (hxs ys : List Value) (X : HP) (hX : Rd ω X 1 ap an ys) (hpl : plainCells ys = true) (hbd : hn + an ≤ 140737488355328) (ha : inK .i64 (at_ + kk)) (hn0 : inK .i64 (n - kk)) (f : FuncId) (l c : List Value) (h1 : n - kk < 1) (R : List HP → Prop) (F : List HP) (hcf : ∀ args w, (callFunc f args).run Tryz.prog w = .ok (.enter f args) w) (hf : ∀ hp' hc', Spec ω Tryz.prog f (l ++ [Value.slice hp' (hn + an) hc'] ++ c).toArray (row b 0 (x0 :: x1 :: x2 :: x3 :: x4 :: x5 :: x6 :: xs) :: own 1 hp' (hn + an) hc' (hxs ++ ys) :: X :: F) fun v H => v = .tuple #[] ∧ R H) : Spec ω Tryz.prog 172 #[.agg #[.int .u64 av, .bool ad, .slice ap an ac], .pointer (some ⟨q5, 0, none⟩), .pointer (some ⟨q6, 0, none⟩), .pointer (some ⟨q10, 0, none⟩), .pointer (some ⟨q7, 0, none⟩), .pointer (some ⟨q8, 0, none⟩), .pointer (some ⟨q9, 0, none⟩)] (row b 0 (x0 :: x1 :: x2 :: x3 :: x4 :: x5 :: x6 :: xs) :: row q5 0 [.pointer (some ⟨b, 0, none⟩)] :: row q6 0 [.int .i64 at_] :: row q10 0 [.int .i64 kk] :: row q7 0 [.int .i64 n] :: row q8 0 [.slice hp hn hc] :: row q9 0 [.func (.func f) l.toArray c.toArray] :: own 1 hp hn hc hxs :: X :: F) fun v' H' => v' = .tuple #[] ∧ R H' := by
  refine spec_of_body Tryz.func172 rfl Tryz.ntmps172 rfl ?_
  refine Cr ?_
  refine Ro rfl (ot_box rfl rfl (rfl : _ = [_, _, _])) ?_
  rintro _ _ ⟨b7, rfl, rfl⟩
  refine Kn7 1 2 3 4 5 6 7 rfl ?_
  refine ct_plan1 [.q 0, .q 1, .q 2, .q 3, .q 4, .q 5, .q 6, .q 7, .q 8, .q 9, .q 11, .e 10, .b 12] (own 1 _ _ _ _) (by repeat (first | exact Sees.refl | (apply Sees.cons; (focus ((repeat (first | exact Z0 | apply Sel.there)); done))) | apply Sees.skip)) mixed (by decide +kernel) ?_
  refine pw_q rfl rfl rfl rfl (oq_load rfl rfl Tryz.isAgg189 (by repeat (first | exact Z0 | apply Sel.there)) (by rfl) (by rfl)) ?_
  refine pw_q rfl rfl rfl rfl (oq_load rfl rfl Tryz.isAgg3 (by repeat (first | exact Z0 | apply Sel.there)) (by rfl) (by rfl)) ?_
  refine pw_q rfl rfl rfl rfl (oq_load rfl rfl Tryz.isAgg3 (by repeat (first | exact Z0 | apply Sel.there)) (by rfl) (by rfl)) ?_
  refine pw_q rfl rfl rfl rfl (oq_pv (pv_add rfl rfl ⟨by omega, by omega⟩)) ?_
  refine pw_q rfl rfl rfl rfl (oq_load rfl rfl Tryz.isAgg3 (by repeat (first | exact Z0 | apply Sel.there)) (by rfl) (by rfl)) ?_
  refine pw_q rfl rfl rfl rfl (oq_load rfl rfl Tryz.isAgg3 (by repeat (first | exact Z0 | apply Sel.there)) (by rfl) (by rfl)) ?_
  refine pw_q rfl rfl rfl rfl (oq_pv (pv_sub rfl rfl ⟨by omega, by omega⟩)) ?_
  refine pw_q rfl rfl rfl rfl (oq_load rfl rfl Tryz.isAgg29 (by repeat (first | exact Z0 | apply Sel.there)) (by rfl) (by rfl)) ?_
  refine pw_q rfl rfl rfl rfl (oq_pv (pv_fieldAddr (k := 2) rfl Tryz.runUnderlying31 rfl Tryz.sizeOf29 rfl rfl)) ?_
  refine pw_q rfl rfl rfl rfl (oq_load rfl rfl Tryz.isAgg29 (by repeat (first | exact Z0 | apply Sel.there)) (by rfl) (by rfl)) ?_
  refine pw_q rfl rfl rfl rfl (oq_load rfl rfl Tryz.isAgg237 (by repeat (first | exact Z0 | apply Sel.there)) (by rfl) (by rfl)) ?_
  refine pw_e rfl rfl rfl rfl (ot_append (by_ := 1) rfl rfl rfl Tryz.runUnderlying29 Tryz.runUnderlying29 Tryz.sizeOf5 Tryz.typeInfo5 rfl Tryz.zeroValue5 rfl (by decide) (by repeat (first | exact Z0 | apply Sel.there)) (by repeat (first | exact Z0 | apply Sel.there)) hX hpl (by omega)) ?_
  rintro _ _ ⟨p18, c18, rfl, rfl⟩
  refine ⟨[_], .refl, ?_⟩
  refine pw_b rfl rfl rfl rfl (ot_call rfl Tryz.call160 (vs := [_, _, _, _, _]) rfl (by repeat (first | exact Sees.refl | (apply Sees.cons; (focus ((repeat (first | exact Z0 | apply Sel.there)); done))) | apply Sees.skip)) (out_done _ _ _ _ _ _ _ _ _ _ _ _ _ _ _ _ _ _ h1 _ _ hcf (hf _ _))) ?_
  rintro _ _ ⟨rfl, hR⟩
  refine pw_done ?_
  exact fin_end (RVs.nil) Tryz.results172 (⟨rfl, hR⟩) (.refl)
end Go.Proofs.YtnjljfjncfbinaaGreat
