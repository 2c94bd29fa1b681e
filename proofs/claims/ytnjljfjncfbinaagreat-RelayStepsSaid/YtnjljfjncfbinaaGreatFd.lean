/- Contracts: hear. -/
import Derived.Test.YtnjljfjncfbinaaGreatSq
import Derived.Test.YtnjljfjncfbinaaGreatFc
set_option linter.all false
namespace Go.Proofs.YtnjljfjncfbinaaGreat
open Go Go.Proofs
set_option maxRecDepth 100000
set_option linter.unusedVariables false

def plc (cursor size : Int) : Int := mask (IntKind.i64.wrap cursor) size
theorem wrap64_in (n : Int) : inK .i64 (IntKind.i64.wrap n) := inK_wrap _ _
theorem inK_mask (n to : Int) : inK .i64 (mask n to) := by unfold mask; split; exact inK_iand _ _ _; exact ⟨by omega, by omega⟩
theorem iand_le (a b : Int) (hb : 0 ≤ b) (hb2 : inK .i64 b) : 0 ≤ iand .i64 a b ∧ iand .i64 a b ≤ b := by
  have h1 : (BitVec.ofInt 64 a &&& BitVec.ofInt 64 b).toNat ≤ (BitVec.ofInt 64 b).toNat := by
    rw [BitVec.toNat_and]; exact Nat.and_le_right
  have h2 : ((BitVec.ofInt 64 b).toNat : Int) = b := by
    rw [BitVec.toNat_ofInt]; omega
  have h4 : inK .i64 ((BitVec.ofInt 64 a &&& BitVec.ofInt 64 b).toNat : Int) := ⟨by omega, by omega⟩
  have h3 : iand .i64 a b = ((BitVec.ofInt 64 a &&& BitVec.ofInt 64 b).toNat : Int) := wrap_inK h4
  rw [h3]; omega
theorem plc_in (cursor size : Int) (hs : 64 ≤ size ∧ size ≤ 8192) : 0 ≤ plc cursor size ∧ plc cursor size < size := by
  unfold plc mask
  split
  · have := iand_le (IntKind.i64.wrap cursor) (size - 1) (by omega) ⟨by omega, by omega⟩
    omega
  · omega
theorem hend_read (ω : World) (b : Nat) (x0 x1 x2 x3 x4 x5 : Value) (x6 : Value) (base size cur nxt lap cursor pads mt : Int) (mp : Option Addr) (mn mc : Nat) (heard : Bool) (e : Int) (hb : 0 ≤ base ∧ base ≤ 131072) (hs : 64 ≤ size ∧ size ≤ 8192) (hc : inK .u64 cursor) (F : List HP) : Spec ω Tryz.prog 102 #[.pointer (some ⟨b, 0, none⟩)] (row b 0 [x0, x1, x2, x3, x4, x5, x6, .int .i64 base, .int .i64 size, .int .i64 (cur), .int .i64 (nxt), .int .i64 (lap), .int .u64 (cursor), .int .i64 (pads), .int .i32 (mt), .slice mp mn mc, .bool heard, .int .i64 (e)] :: F) fun v' H' => v' = .int .i64 (base + size) ∧ H' = row b 0 [x0, x1, x2, x3, x4, x5, x6, .int .i64 base, .int .i64 size, .int .i64 (cur), .int .i64 (nxt), .int .i64 (lap), .int .u64 (cursor), .int .i64 (pads), .int .i32 (mt), .slice mp mn mc, .bool heard, .int .i64 (e)] :: F := by
  refine spec_of_body Tryz.func102 rfl Tryz.ntmps102 rfl ?_
  refine Cr ?_
  refine Rp rfl (pv_assign rfl) ?_
  refine Kn1 0 rfl ?_
  refine ct_seq ?_
  refine ct_planH [.q 0, .q 1, .q 2, .q 3, .q 4, .q 5, .q 6, .q 7, .q 8, .q 9, .q 10, .q 11] mixed (by decide +kernel) ?_
  refine pw_q rfl rfl rfl rfl (oq_pv (pv_move rfl)) ?_
  refine pw_q rfl rfl rfl rfl (oq_pv (pv_nilCheck rfl)) ?_
  refine pw_q rfl rfl rfl rfl (oq_pv (pv_fieldAddr (k := 7) rfl Tryz.runUnderlying168 rfl Tryz.sizeOf23 rfl rfl)) ?_
  refine pw_q rfl rfl rfl rfl (oq_pv (pv_fieldAddr (k := 7) rfl Tryz.runUnderlying23 rfl Tryz.sizeOf3 rfl rfl)) ?_
  refine pw_q rfl rfl rfl rfl (oq_load rfl rfl Tryz.isAgg3 (by repeat (first | exact Z0 | apply Sel.there)) (by rfl) (by rfl)) ?_
  refine pw_q rfl rfl rfl rfl (oq_pv (pv_move rfl)) ?_
  refine pw_q rfl rfl rfl rfl (oq_pv (pv_nilCheck rfl)) ?_
  refine pw_q rfl rfl rfl rfl (oq_pv (pv_fieldAddr (k := 7) rfl Tryz.runUnderlying168 rfl Tryz.sizeOf23 rfl rfl)) ?_
  refine pw_q rfl rfl rfl rfl (oq_pv (pv_fieldAddr (k := 8) rfl Tryz.runUnderlying23 rfl Tryz.sizeOf3 rfl rfl)) ?_
  refine pw_q rfl rfl rfl rfl (oq_load rfl rfl Tryz.isAgg3 (by repeat (first | exact Z0 | apply Sel.there)) (by rfl) (by rfl)) ?_
  refine pw_q rfl rfl rfl rfl (oq_pv (pv_add rfl rfl ⟨by omega, by omega⟩)) ?_
  refine pw_q rfl rfl rfl rfl (oq_pv (pv_assign rfl)) ?_
  refine pw_done ?_
  refine Kx1 2 rfl ?_
  refine ct_ret ?_
  exact fin_ret (RVs.tmp rfl (RVs.nil)) Tryz.results102 (⟨rfl, rfl⟩) (by repeat (first | exact Sees.refl | (apply Sees.cons; (focus ((repeat (first | exact Z0 | apply Sel.there)); done))) | apply Sees.skip))
theorem hplace_read (ω : World) (b : Nat) (x0 x1 x2 x3 x4 x5 : Value) (x6 : Value) (base size cur nxt lap cursor pads mt : Int) (mp : Option Addr) (mn mc : Nat) (heard : Bool) (e : Int) (hb : 0 ≤ base ∧ base ≤ 131072) (hs : 64 ≤ size ∧ size ≤ 8192) (hc : inK .u64 cursor) (F : List HP) : Spec ω Tryz.prog 132 #[.pointer (some ⟨b, 0, none⟩)] (row b 0 [x0, x1, x2, x3, x4, x5, x6, .int .i64 base, .int .i64 size, .int .i64 (cur), .int .i64 (nxt), .int .i64 (lap), .int .u64 (cursor), .int .i64 (pads), .int .i32 (mt), .slice mp mn mc, .bool heard, .int .i64 (e)] :: F) fun v' H' => v' = .int .i64 (plc cursor size) ∧ H' = row b 0 [x0, x1, x2, x3, x4, x5, x6, .int .i64 base, .int .i64 size, .int .i64 (cur), .int .i64 (nxt), .int .i64 (lap), .int .u64 (cursor), .int .i64 (pads), .int .i32 (mt), .slice mp mn mc, .bool heard, .int .i64 (e)] :: F := by
  refine spec_of_body Tryz.func132 rfl Tryz.ntmps132 rfl ?_
  refine Cr ?_
  refine Rp rfl (pv_assign rfl) ?_
  refine Kn1 0 rfl ?_
  refine ct_seq ?_
  refine ct_planH [.q 0, .q 1, .q 2, .q 3, .q 4, .q 5, .q 6, .q 7, .q 8, .q 9, .q 10, .q 11] mixed (by decide +kernel) ?_
  refine pw_q rfl rfl rfl rfl (oq_pv (pv_move rfl)) ?_
  refine pw_q rfl rfl rfl rfl (oq_pv (pv_nilCheck rfl)) ?_
  refine pw_q rfl rfl rfl rfl (oq_pv (pv_fieldAddr (k := 12) rfl Tryz.runUnderlying168 rfl Tryz.sizeOf28 rfl rfl)) ?_
  refine pw_q rfl rfl rfl rfl (oq_load rfl rfl Tryz.isAgg28 (by repeat (first | exact Z0 | apply Sel.there)) (by rfl) (by rfl)) ?_
  refine pw_q rfl rfl rfl rfl (oq_pv (pv_convert rfl Tryz.runUnderlying28 Tryz.runUnderlying2)) ?_
  refine pw_q rfl rfl rfl rfl (oq_pv (pv_move rfl)) ?_
  refine pw_q rfl rfl rfl rfl (oq_pv (pv_nilCheck rfl)) ?_
  refine pw_q rfl rfl rfl rfl (oq_pv (pv_fieldAddr (k := 7) rfl Tryz.runUnderlying168 rfl Tryz.sizeOf23 rfl rfl)) ?_
  refine pw_q rfl rfl rfl rfl (oq_pv (pv_fieldAddr (k := 8) rfl Tryz.runUnderlying23 rfl Tryz.sizeOf3 rfl rfl)) ?_
  refine pw_q rfl rfl rfl rfl (oq_load rfl rfl Tryz.isAgg3 (by repeat (first | exact Z0 | apply Sel.there)) (by rfl) (by rfl)) ?_
  refine pw_q rfl rfl rfl rfl (oq_call rfl Tryz.call141 (vs := [_, _]) rfl (mask_pure _ _ ⟨by omega, by omega⟩)) ?_
  refine pw_q rfl rfl rfl rfl (oq_pv (pv_assign rfl)) ?_
  refine pw_done ?_
  refine Kx1 2 rfl ?_
  refine ct_ret ?_
  exact fin_ret (RVs.tmp rfl (RVs.nil)) Tryz.results132 (⟨rfl, rfl⟩) (by repeat (first | exact Sees.refl | (apply Sees.cons; (focus ((repeat (first | exact Z0 | apply Sel.there)); done))) | apply Sees.skip))
theorem hlost_spec (ω : World) (b : Nat) (x0 x1 x2 x3 x4 x5 : Value) (x6 : Value) (base size cur nxt lap cursor pads mt : Int) (mp : Option Addr) (mn mc : Nat) (heard : Bool) (e : Int) (hb : 0 ≤ base ∧ base ≤ 131072) (hs : 64 ≤ size ∧ size ≤ 8192) (hc : inK .u64 cursor) (F : List HP)  : Spec ω Tryz.prog 136 #[.pointer (some ⟨b, 0, none⟩)] (row b 0 [x0, x1, x2, x3, x4, x5, x6, .int .i64 base, .int .i64 size, .int .i64 (cur), .int .i64 (nxt), .int .i64 (lap), .int .u64 (cursor), .int .i64 (pads), .int .i32 (mt), .slice mp mn mc, .bool heard, .int .i64 (e)] :: F) fun v' H' => v' = .tuple #[] ∧ H' = row b 0 [x0, x1, x2, x3, x4, x5, x6, .int .i64 base, .int .i64 size, .int .i64 (cur), .int .i64 (IntKind.i64.wrap cursor), .int .i64 (IntKind.i64.wrap (lap + 1)), .int .u64 (cursor), .int .i64 (pads), .int .i32 (mt), .slice mp mn mc, .bool heard, .int .i64 (9)] :: F := by
  refine spec_of_body Tryz.func136 rfl Tryz.ntmps136 rfl ?_
  refine Cr ?_
  refine Rp rfl (pv_move rfl) ?_
  refine Rp rfl (pv_nilCheck rfl) ?_
  refine Rp rfl (pv_fieldAddr (k := 9) rfl Tryz.runUnderlying168 rfl Tryz.sizeOf25 rfl rfl) ?_
  refine Rp rfl (pv_fieldAddr (k := 11) rfl Tryz.runUnderlying25 rfl Tryz.sizeOf2 rfl rfl) ?_
  refine Rq rfl (oq_load rfl rfl Tryz.isAgg2 (by repeat (first | exact Z0 | apply Sel.there)) (by rfl) (by rfl)) ?_
  refine Rp rfl (pv_bin rfl rfl rfl) ?_
  refine Rp rfl (pv_nilCheck rfl) ?_
  refine Rp rfl (pv_fieldAddr (k := 9) rfl Tryz.runUnderlying168 rfl Tryz.sizeOf25 rfl rfl) ?_
  refine Rp rfl (pv_fieldAddr (k := 11) rfl Tryz.runUnderlying25 rfl Tryz.sizeOf2 rfl rfl) ?_
  refine rl_op0 rfl rfl (ot_store rfl rfl rfl Tryz.sizeOf2 (by repeat (first | exact Z0 | apply Sel.there)) (rfl : _ = [_]) rfl (by rfl) (by rfl) (by first | rfl | assumption) (by exact (rfl : _ = _ :: _ :: _ :: _ :: _ :: _ :: _ :: _ :: _ :: _ :: _ :: _ :: _))) ?_
  rintro _ _ rfl
  refine Kn1 0 rfl ?_
  refine Cr ?_
  refine Rp rfl (pv_move rfl) ?_
  refine Rp rfl (pv_move rfl) ?_
  refine Rp rfl (pv_nilCheck rfl) ?_
  refine Rp rfl (pv_fieldAddr (k := 12) rfl Tryz.runUnderlying168 rfl Tryz.sizeOf28 rfl rfl) ?_
  refine Rq rfl (oq_load rfl rfl Tryz.isAgg28 (by repeat (first | exact Z0 | apply Sel.there)) (by rfl) (by rfl)) ?_
  refine Rp rfl (pv_convert rfl Tryz.runUnderlying28 Tryz.runUnderlying2) ?_
  refine Rp rfl (pv_nilCheck rfl) ?_
  refine Rp rfl (pv_fieldAddr (k := 9) rfl Tryz.runUnderlying168 rfl Tryz.sizeOf25 rfl rfl) ?_
  refine Rp rfl (pv_fieldAddr (k := 10) rfl Tryz.runUnderlying25 rfl Tryz.sizeOf2 rfl rfl) ?_
  refine rl_op0 rfl rfl (ot_store rfl rfl rfl Tryz.sizeOf2 (by repeat (first | exact Z0 | apply Sel.there)) (rfl : _ = [_]) rfl (by rfl) (by rfl) (by first | rfl | assumption) (by exact (rfl : _ = _ :: _ :: _ :: _ :: _ :: _ :: _ :: _ :: _ :: _ :: _ :: _))) ?_
  rintro _ _ rfl
  refine Kn1 0 rfl ?_
  refine ct_region ?_
  refine Rp rfl (pv_move rfl) ?_
  refine Rp rfl (pv_nilCheck rfl) ?_
  refine Rp rfl (pv_fieldAddr (k := 17) rfl Tryz.runUnderlying168 rfl Tryz.sizeOf54 rfl rfl) ?_
  refine rl_op0 rfl rfl (ot_store rfl rfl rfl Tryz.sizeOf54 (by repeat (first | exact Z0 | apply Sel.there)) (rfl : _ = [_]) rfl (by rfl) (by rfl) (by first | rfl | assumption) (by exact (rfl : _ = _ :: _ :: _ :: _ :: _ :: _ :: _ :: _ :: _ :: _ :: _ :: _ :: _ :: _ :: _ :: _ :: _ :: _ :: _))) ?_
  rintro _ _ rfl
  refine rl_nil ?_
  exact fin_end (RVs.nil) Tryz.results136 (⟨rfl, rfl⟩) (by repeat (first | exact Sees.refl | (apply Sees.cons; (focus ((repeat (first | exact Z0 | apply Sel.there)); done))) | apply Sees.skip))
theorem hvalid_spec (ω : World) (b : Nat) (x0 x1 x2 x3 x4 x5 : Value) (x6 : Value) (base size cur nxt lap cursor pads mt : Int) (mp : Option Addr) (mn mc : Nat) (heard : Bool) (e : Int) (f1 f2 : Fn) (l1 c1 l2 c2 : Array Value) (hb : 0 ≤ base ∧ base ≤ 131072) (hs : 64 ≤ size ∧ size ≤ 8192) (hc : inK .u64 cursor) (F : List HP)  : Spec ω Tryz.prog 104 #[.pointer (some ⟨b, 0, none⟩), .func f1 l1 c1, .func f2 l2 c2] (row b 0 [x0, x1, x2, x3, x4, x5, x6, .int .i64 base, .int .i64 size, .int .i64 (cur), .int .i64 (nxt), .int .i64 (lap), .int .u64 (cursor), .int .i64 (pads), .int .i32 (mt), .slice mp mn mc, .bool heard, .int .i64 (e)] :: F) fun v' H' => ∃ bt b3 b4 b5, v' = .tuple #[] ∧ H' = row b 0 [.int .i64 1, .int .i64 (base + size), .int .i64 8, .int .u64 0, .int .u64 0, .slice none 0 0, .func (.func 130) #[] #[.pointer (some ⟨bt, 0, none⟩)], .int .i64 base, .int .i64 size, .int .i64 (cur), .int .i64 (nxt), .int .i64 (lap), .int .u64 (cursor), .int .i64 (pads), .int .i32 (mt), .slice mp mn mc, .bool heard, .int .i64 (e)] :: row bt 0 [.func (.func 131) #[] #[.pointer (some ⟨b3, 0, none⟩), .pointer (some ⟨b5, 0, none⟩), .pointer (some ⟨b4, 0, none⟩)]] :: row b5 0 [.func f2 l2 c2] :: row b4 0 [.func f1 l1 c1] :: row b3 0 [.pointer (some ⟨b, 0, none⟩)] :: F := by
  refine spec_of_body Tryz.func104 rfl Tryz.ntmps104 rfl ?_
  refine Cr ?_
  refine Ro rfl (ot_box rfl rfl (rfl : _ = [_])) ?_
  rintro _ _ ⟨b3, rfl, rfl⟩
  refine Ro rfl (ot_box rfl rfl (rfl : _ = [_])) ?_
  rintro _ _ ⟨b4, rfl, rfl⟩
  refine Ro rfl (ot_box rfl rfl (rfl : _ = [_])) ?_
  rintro _ _ ⟨b5, rfl, rfl⟩
  refine Kn3 3 4 5 rfl ?_
  refine ct_planH [.q 0, .q 1, .q 2, .q 3, .q 4, .q 5, .b 6] mixed (by decide +kernel) ?_
  refine pw_q rfl rfl rfl rfl (oq_load rfl rfl Tryz.isAgg96 (by repeat (first | exact Z0 | apply Sel.there)) (by rfl) (by rfl)) ?_
  refine pw_q rfl rfl rfl rfl (oq_pv (pv_nilCheck rfl)) ?_
  refine pw_q rfl rfl rfl rfl (oq_pv (pv_fieldAddr (k := 0) rfl Tryz.runUnderlying168 rfl Tryz.sizeOf133 rfl rfl)) ?_
  refine pw_q rfl rfl rfl rfl (oq_load rfl rfl Tryz.isAgg96 (by repeat (first | exact Z0 | apply Sel.there)) (by rfl) (by rfl)) ?_
  refine pw_q rfl rfl rfl rfl (oq_call_of (cs := [_]) rfl Tryz.call102 (vs := [_]) rfl (by repeat (first | exact Pick.nil | (apply Pick.cons; (focus ((repeat (first | exact Z0 | apply Sel.there)); done))))) (fun F => hend_read _ _  _ _ _ _ _ _ _  _ _ _ _ _ _ _ _ _ _ _ _ _ (by first | assumption | exact ⟨by omega, by omega⟩) (by first | assumption | exact ⟨by omega, by omega⟩) (by first | assumption | exact ⟨by omega, by omega⟩) F)) ?_
  refine pw_q rfl rfl rfl rfl (oq_pv (pv_makeFunc (l := []) (c := [_, _, _]) rfl rfl)) ?_
  refine pw_b rfl rfl rfl rfl (ot_call rfl Tryz.call101 (vs := [_, _, _, _]) rfl (by repeat (first | exact Sees.refl | (apply Sees.cons; (focus ((repeat (first | exact Z0 | apply Sel.there)); done))) | apply Sees.skip)) (load_spec _ _ _ _ _ _ _ _ _ _ _ _ _ _ _ _)) ?_
  rintro _ _ ⟨bt, rfl, rfl⟩
  refine pw_done ?_
  exact fin_end (RVs.nil) Tryz.results104 (⟨_, _, _, _, rfl, rfl⟩) (by repeat (first | exact Sees.refl | (apply Sees.cons; (focus ((repeat (first | exact Z0 | apply Sel.there)); done))) | apply Sees.skip))
theorem hrecord_spec (ω : World) (b : Nat) (x0 x1 x2 x3 x4 x5 : Value) (x6 : Value) (base size cur nxt lap cursor pads mt : Int) (mp : Option Addr) (mn mc : Nat) (heard : Bool) (e : Int) (hb : 0 ≤ base ∧ base ≤ 131072) (hs : 64 ≤ size ∧ size ≤ 8192) (hc : inK .u64 cursor) (F : List HP)  : Spec ω Tryz.prog 105 #[.pointer (some ⟨b, 0, none⟩)] (row b 0 [x0, x1, x2, x3, x4, x5, x6, .int .i64 base, .int .i64 size, .int .i64 (cur), .int .i64 (nxt), .int .i64 (lap), .int .u64 (cursor), .int .i64 (pads), .int .i32 (mt), .slice mp mn mc, .bool heard, .int .i64 (e)] :: F) fun v' H' => ∃ bt bh, v' = .tuple #[] ∧ H' = row b 0 [.int .i64 1, .int .i64 (base + plc cursor size), .int .i64 8, .int .u64 0, .int .u64 0, .slice none 0 0, .func (.func 130) #[] #[.pointer (some ⟨bt, 0, none⟩)], .int .i64 base, .int .i64 size, .int .i64 (cur), .int .i64 (nxt), .int .i64 (lap), .int .u64 (cursor), .int .i64 (pads), .int .i32 (mt), .slice mp mn mc, .bool heard, .int .i64 (e)] :: row bt 0 [.func (.func 133) #[] #[.pointer (some ⟨bh, 0, none⟩)]] :: row bh 0 [.pointer (some ⟨b, 0, none⟩)] :: F := by
  refine spec_of_body Tryz.func105 rfl Tryz.ntmps105 rfl ?_
  have hpl := plc_in cursor size hs
  refine Cr ?_
  refine Ro rfl (ot_box rfl rfl (rfl : _ = [_])) ?_
  rintro _ _ ⟨b1, rfl, rfl⟩
  refine Kn1 1 rfl ?_
  refine ct_planH [.q 0, .q 1, .q 2, .q 3, .q 4, .q 5, .q 6, .q 7, .q 8, .q 9, .q 10, .q 11, .b 12] mixed (by decide +kernel) ?_
  refine pw_q rfl rfl rfl rfl (oq_load rfl rfl Tryz.isAgg96 (by repeat (first | exact Z0 | apply Sel.there)) (by rfl) (by rfl)) ?_
  refine pw_q rfl rfl rfl rfl (oq_pv (pv_nilCheck rfl)) ?_
  refine pw_q rfl rfl rfl rfl (oq_pv (pv_fieldAddr (k := 0) rfl Tryz.runUnderlying168 rfl Tryz.sizeOf133 rfl rfl)) ?_
  refine pw_q rfl rfl rfl rfl (oq_load rfl rfl Tryz.isAgg96 (by repeat (first | exact Z0 | apply Sel.there)) (by rfl) (by rfl)) ?_
  refine pw_q rfl rfl rfl rfl (oq_pv (pv_nilCheck rfl)) ?_
  refine pw_q rfl rfl rfl rfl (oq_pv (pv_fieldAddr (k := 7) rfl Tryz.runUnderlying168 rfl Tryz.sizeOf23 rfl rfl)) ?_
  refine pw_q rfl rfl rfl rfl (oq_pv (pv_fieldAddr (k := 7) rfl Tryz.runUnderlying23 rfl Tryz.sizeOf3 rfl rfl)) ?_
  refine pw_q rfl rfl rfl rfl (oq_load rfl rfl Tryz.isAgg3 (by repeat (first | exact Z0 | apply Sel.there)) (by rfl) (by rfl)) ?_
  refine pw_q rfl rfl rfl rfl (oq_load rfl rfl Tryz.isAgg96 (by repeat (first | exact Z0 | apply Sel.there)) (by rfl) (by rfl)) ?_
  refine pw_q rfl rfl rfl rfl (oq_call_of (cs := [_]) rfl Tryz.call132 (vs := [_]) rfl (by repeat (first | exact Pick.nil | (apply Pick.cons; (focus ((repeat (first | exact Z0 | apply Sel.there)); done))))) (fun F => hplace_read _ _  _ _ _ _ _ _ _  _ _ _ _ _ _ _ _ _ _ _ _ _ (by first | assumption | exact ⟨by omega, by omega⟩) (by first | assumption | exact ⟨by omega, by omega⟩) (by first | assumption | exact ⟨by omega, by omega⟩) F)) ?_
  refine pw_q rfl rfl rfl rfl (oq_pv (pv_add rfl rfl ⟨by omega, by omega⟩)) ?_
  refine pw_q rfl rfl rfl rfl (oq_pv (pv_makeFunc (l := []) (c := [_]) rfl rfl)) ?_
  refine pw_b rfl rfl rfl rfl (ot_call rfl Tryz.call101 (vs := [_, _, _, _]) rfl (by repeat (first | exact Sees.refl | (apply Sees.cons; (focus ((repeat (first | exact Z0 | apply Sel.there)); done))) | apply Sees.skip)) (load_spec _ _ _ _ _ _ _ _ _ _ _ _ _ _ _ _)) ?_
  rintro _ _ ⟨bt, rfl, rfl⟩
  refine pw_done ?_
  exact fin_end (RVs.nil) Tryz.results105 (⟨_, _, rfl, rfl⟩) (by repeat (first | exact Sees.refl | (apply Sees.cons; (focus ((repeat (first | exact Z0 | apply Sel.there)); done))) | apply Sees.skip))
end Go.Proofs.YtnjljfjncfbinaaGreat
