/- Contracts: hear, from outside. -/
import Derived.Test.YtnjljfjncfbinaaGreatSq
import Derived.Test.YtnjljfjncfbinaaGreatFe
set_option linter.all false
namespace Go.Proofs.YtnjljfjncfbinaaGreat
open Go Go.Proofs
set_option maxRecDepth 100000
set_option linter.unusedVariables false

structure Ans where
  v : Int
  d : Bool
  data : List UInt8
/-- An access, as cells. -/
structure Acc where
  k : Int
  at_ : Int
  n : Int
  v : Int := 0
  w : Int := 0
  p : Option Addr := none
  m : Nat := 0
  c : Nat := 0
instance (s : HS) (v : Int) : Decidable (past s v) := inferInstanceAs (Decidable (_ ≥ _))
def HPh.ends : HPh → Bool
  | .fin => true
  | _ => false
def tailStep (s : HS) (v : Int) : HS × HPh := if IntKind.i64.wrap (IntKind.u64.wrap (v - s.cursor)) ≤ 0 then ({ s with e := 0 }, .fin) else (s, .v1)
def recStep (s : HS) (v : Int) : HS × HPh :=
  if rlen v < 8 ∨ rsize v > s.size - plc s.cursor s.size then (s.lose, .fin)
  else if rtyp v = -1 then (if s.pads > 0 ∨ rsize v < s.size - plc s.cursor s.size then (s.lose, .fin) else (s, .vpad (rsize v)))
  else if 1 ≤ rlen v - 8 then (s, .out (s.base + plc s.cursor s.size + 8) (rlen v - 8) (rtyp v) (rsize v) []) else (s, .vend (rtyp v) (rsize v) [])
def hstep (s : HS) : HPh → Ans → HS × HPh
  | .fin, _ => (s, .fin)
  | .tail, a => tailStep s a.v
  | .v1, a => if past s a.v then ({ s with lap := IntKind.i64.wrap (s.lap + 1) }, .latest) else (s, .hdr)
  | .latest, a => ({ s with cursor := a.v }, .hdr)
  | .hdr, a => recStep s a.v
  | .vpad size, a => if past s a.v then (s.lose, .fin) else (s.skip size, .hdr)
  | .out at_ n typ size have_, a => if 1 ≤ n - chunk n then (s, .out (at_ + chunk n) (n - chunk n) typ size (have_ ++ a.data)) else (s, .vend typ size (have_ ++ a.data))
  | .vend typ size bytes, a => if past s a.v then (s.lose, .fin) else (s.hears typ size bytes, .fin)
def hwant (s : HS) : HPh → Acc
  | .fin => ⟨0, 0, 0, 0, 0, none, 0, 0⟩
  | .tail => ⟨1, s.base + s.size + 8, 8, 0, 0, none, 0, 0⟩
  | .v1 => ⟨1, s.base + s.size, 8, 0, 0, none, 0, 0⟩
  | .latest => ⟨1, s.base + s.size + 16, 8, 0, 0, none, 0, 0⟩
  | .hdr => ⟨1, s.base + plc s.cursor s.size, 8, 0, 0, none, 0, 0⟩
  | .vpad _ => ⟨1, s.base + s.size, 8, 0, 0, none, 0, 0⟩
  | .out at_ n _ _ _ => ⟨5, at_, chunk n, 0, 0, none, 0, 0⟩
  | .vend _ _ _ => ⟨1, s.base + s.size, 8, 0, 0, none, 0, 0⟩
def Acc.cells (a : Acc) : Array Value := #[.int .i64 a.k, .int .i64 a.at_, .int .i64 a.n, .int .u64 a.v, .int .u64 a.w, .slice a.p a.m a.c]
def POk (s : HS) : HPh → Prop
  | .fin => True
  | .vpad _ => HOk s ∧ s.pads = 0
  | .out at_ n _ _ _ => HOk s ∧ 1 ≤ n ∧ 0 ≤ at_ ∧ at_ + n ≤ 8589934592
  | _ => HOk s
/-- How many bytes were read. -/
def HPh.room (s : HS) : HPh → Nat
  | .out _ _ _ _ have_ => have_.length
  | .vend _ _ bytes => bytes.length
  | .fin => s.data.length
  | _ => 0
theorem tailStep_of {s s' : HS} {v : Int} {ph : HPh} (h : TailStep s v s' ph) : tailStep s v = (s', ph) := by
  unfold tailStep; cases h with
  | none h => rw [if_pos h]
  | some h => rw [if_neg h]
theorem recStep_of {s s' : HS} {v : Int} {ph : HPh} (h : RecStep s v s' ph) : recStep s v = (s', ph) := by
  unfold recStep; cases h with
  | lost1 h => rw [if_pos h]
  | lost2 h h1 h2 => rw [if_neg h, if_pos h1, if_pos h2]
  | pad h h1 h2 => rw [if_neg h, if_pos h1, if_neg h2]
  | more h h1 h2 => rw [if_neg h, if_neg h1, if_pos h2]
  | none h h1 h2 => rw [if_neg h, if_neg h1, if_neg (by omega)]
theorem rlen_in (v : Int) : inK .i32 (rlen v) := (split_in v).1
theorem chunk_in (n : Int) (h : 1 ≤ n) : 1 ≤ chunk n ∧ chunk n ≤ 8 ∧ chunk n ≤ n := by unfold chunk; split <;> omega
theorem hstep_ok {s : HS} {ph : HPh} {a : Ans} (h : POk s ph) (ha : inK .u64 a.v) : POk (hstep s ph a).1 (hstep s ph a).2 := by
  cases ph with
  | fin => trivial
  | tail => simp only [hstep, tailStep]; split; trivial; exact h
  | v1 => simp only [hstep]; split; exact ⟨h.hb, h.hs, h.hc, h.hp⟩; exact h
  | latest => exact ⟨h.hb, h.hs, ha, h.hp⟩
  | hdr =>
    have h : HOk s := h
    have hpl := plc_in s.cursor s.size h.hs
    have hh := h.hb; have hs := h.hs
    have hr := rlen_in a.v
    simp only [hstep, recStep]
    split
    · trivial
    split
    · split
      · trivial
      · exact ⟨h, by show s.pads = 0; have := h.hp; omega⟩
    split
    · exact ⟨h, by omega, by omega, by omega⟩
    · exact h
  | vpad size =>
    obtain ⟨h, h1⟩ := h
    simp only [hstep]; split
    · trivial
    · exact ⟨h.hb, h.hs, inK_wrap _ _, by simp [HS.skip]; omega⟩
  | out at_ n typ size have_ =>
    obtain ⟨h, h1, h2, h3⟩ := h
    have hc := chunk_in n h1
    simp only [hstep]; split
    · exact ⟨h, by omega, by omega, by omega⟩
    · exact h
  | vend typ size bytes => simp only [hstep]; split <;> trivial
def HS.start (base size cur nxt lap : Int) : HS := ⟨base, size, cur, nxt, lap, 0, 0, 0, [], false, 10⟩
def hnew (base size cur nxt lap : Int) : HS × HPh :=
  if ringErr base size = 0 then ({ HS.start base size cur nxt lap with cursor := IntKind.u64.wrap nxt }, .tail) else ({ HS.start base size cur nxt lap with e := 1 }, .fin)
theorem ringErr_ok {base size : Int} (h : ringErr base size = 0) : (0 ≤ base ∧ base ≤ 131072) ∧ (64 ≤ size ∧ size ≤ 8192) := by
  unfold ringErr at h; split at h
  · cases h
  · rename_i h; exact ⟨by omega, by omega⟩
theorem hnew_ok (base size cur nxt lap : Int) : POk (hnew base size cur nxt lap).1 (hnew base size cur nxt lap).2 := by
  unfold hnew; split
  · rename_i h
    exact ⟨(ringErr_ok h).1, (ringErr_ok h).2, inK_wrap _ _, by simp [HS.start]⟩
  · trivial
theorem hnew_some {base size cur nxt lap : Int} (h : ringErr base size = 0) : hnew base size cur nxt lap = ({ HS.start base size cur nxt lap with cursor := IntKind.u64.wrap nxt }, .tail) := if_pos h
theorem hnew_none {base size cur nxt lap : Int} (h : ¬ ringErr base size = 0) : hnew base size cur nxt lap = ({ HS.start base size cur nxt lap with e := 1 }, .fin) := if_neg h
theorem Spec.ex {ω : World} {P : Program} {f : FuncId} {args : Array Value} {α : Type} {g : α → List HP} {L : List HP} {R : Value → List HP → Prop} (h : ∀ x, Spec ω P f args (g x ++ L) R) : Spec ω P f args (ex g :: L) R := by
  intro w hw
  obtain ⟨x, hx⟩ := holds_ex.1 hw
  exact h x w hx
theorem Spec.fold {ω : World} {P : Program} {f : FuncId} {args : Array Value} {H M : List HP} {t : Value} (h : Spec ω P f args H fun v H' => v = t ∧ Sees H' M) : Spec ω P f args H fun v H' => v = t ∧ H' = M :=
  fun w hw => (h w hw).mono fun _ _ ⟨v, he, H', ⟨h1, h2⟩, h3⟩ => ⟨v, he, M, ⟨h1, rfl⟩, h3.sees h2⟩
theorem hnew_spec (ω : World) (base size cur nxt lap : Int) (hb0 : inK .i64 base) (hs0 : inK .i64 size) (F : List HP)  : Spec ω Tryz.prog 59 #[.agg #[.int .i64 base, .int .i64 size], .agg #[.int .i64 cur, .int .i64 nxt, .int .i64 lap]] (F) fun v' H' => ∃ b, v' = .pointer (some ⟨b, 0, none⟩) ∧ H' = hearRep b (hnew base size cur nxt lap).1 (hnew base size cur nxt lap).2 :: F := by
  refine spec_of_body Tryz.func59 rfl Tryz.ntmps59 rfl ?_
  refine Cr ?_
  refine Ro rfl (ot_box rfl rfl (rfl : _ = [_, _])) ?_
  rintro _ _ ⟨b2, rfl, rfl⟩
  refine Ro rfl (ot_box rfl rfl (rfl : _ = [_, _, _])) ?_
  rintro _ _ ⟨b3, rfl, rfl⟩
  refine Rp rfl (pv_assign rfl) ?_
  refine Kn2 2 3 rfl ?_
  refine Cr ?_
  refine Rq rfl (oq_loadAgg (us := [_, _]) rfl rfl Tryz.isAgg23 Tryz.sizeOf23 (by repeat (first | exact Z0 | apply Sel.there)) (by rfl) (by rfl) (by rfl)) ?_
  refine Rq rfl (oq_loadAgg (us := [_, _, _]) rfl rfl Tryz.isAgg25 Tryz.sizeOf25 (by repeat (first | exact Z0 | apply Sel.there)) (by rfl) (by rfl) (by rfl)) ?_
  refine Rp rfl (pv_build (ps := [(1, _), (2, _), (7, _)]) (cs := [_, _, _, _, _, _, _, _, _, _, _, _, _, _, _, _, _, _]) rfl Tryz.zeroValue168 Tryz.runUnderlying168 (.cons Tryz.sizeOf133 (.cons Tryz.sizeOf23 (.cons Tryz.sizeOf25 (.cons Tryz.sizeOf28 (.cons Tryz.sizeOf3 (.cons Tryz.sizeOf74 (.cons Tryz.sizeOf4 (.cons Tryz.sizeOf54 (.nil))))))))) rfl) ?_
  refine Ro rfl (ot_box rfl rfl (rfl : _ = [_, _, _, _, _, _, _, _, _, _, _, _, _, _, _, _, _, _])) ?_
  rintro _ _ ⟨b9, rfl, rfl⟩
  refine Ro rfl (ot_alloc rfl Tryz.zeroValue96 (rfl : _ = [_])) ?_
  rintro _ _ ⟨b5, rfl, rfl⟩
  refine rl_op0 rfl rfl (ot_store rfl rfl rfl Tryz.sizeOf96 (by repeat (first | exact Z0 | apply Sel.there)) (rfl : _ = [_]) rfl (by rfl) (by rfl) (by first | rfl | assumption) (by exact (rfl : _ = _ :: _))) ?_
  rintro _ _ rfl
  refine Kn3 2 3 5 rfl ?_
  refine ct_seq ?_
  refine Cr ?_
  refine Rq rfl (oq_loadAgg (us := [_, _]) rfl rfl Tryz.isAgg23 Tryz.sizeOf23 (by repeat (first | exact Z0 | apply Sel.there)) (by rfl) (by rfl) (by rfl)) ?_
  refine Rq rfl (oq_call rfl Tryz.call100 (vs := [_]) rfl (ringCheck_pure _ _ ⟨by omega, by omega⟩ ⟨by omega, by omega⟩)) ?_
  refine Rp rfl (pv_bin rfl rfl rfl) ?_
  refine Kn3 3 5 12 rfl ?_
  first | refine ct_cond_d rfl (fun h12 => ?_) (fun h12 => ?_) | refine ct_cond_n rfl (fun h12 => ?_) (fun h12 => ?_) | refine ct_cond_b rfl (fun h12 => ?_) (fun h12 => ?_) | refine ct_cond rfl (fun h12 => ?_) (fun h12 => ?_)
  · rw [hnew_none h12]
    refine Cr ?_
    refine Rq rfl (oq_load rfl rfl Tryz.isAgg96 (by repeat (first | exact Z0 | apply Sel.there)) (by rfl) (by rfl)) ?_
    refine Rp rfl (pv_nilCheck rfl) ?_
    refine Rp rfl (pv_fieldAddr (k := 17) rfl Tryz.runUnderlying168 rfl Tryz.sizeOf54 rfl rfl) ?_
    refine rl_op0 rfl rfl (ot_store rfl rfl rfl Tryz.sizeOf54 (by repeat (first | exact Z0 | apply Sel.there)) (rfl : _ = [_]) rfl (by rfl) (by rfl) (by first | rfl | assumption) (by exact (rfl : _ = _ :: _ :: _ :: _ :: _ :: _ :: _ :: _ :: _ :: _ :: _ :: _ :: _ :: _ :: _ :: _ :: _ :: _ :: _))) ?_
    rintro _ _ rfl
    refine Kn1 5 rfl ?_
    refine Cr ?_
    refine Rq rfl (oq_load rfl rfl Tryz.isAgg96 (by repeat (first | exact Z0 | apply Sel.there)) (by rfl) (by rfl)) ?_
    refine Rp rfl (pv_assign rfl) ?_
    refine Kn1 4 rfl ?_
    refine ct_ret ?_
    refine xt_ret_then ?_
    exact fin_ret (RVs.tmp rfl (RVs.nil)) Tryz.results59 (⟨_, rfl, rfl⟩) (Sees.ex ⟨none, 0, 0, 0, 0, 0, 0, 0, 0, 0, 0, none, 0⟩ (Sees.cons (by repeat (first | exact Z0 | apply Sel.there)) (Sees.nilOwn (by repeat (first | exact Sees.refl | (apply Sees.cons; (focus ((repeat (first | exact Z0 | apply Sel.there)); done))) | apply Sees.skip)))))
  · have h12 : ringErr base size = 0 := by simpa using h12
    rw [hnew_some h12]
    obtain ⟨hb, hs⟩ := ringErr_ok h12
    have hc : inK .u64 (IntKind.u64.wrap nxt) := inK_wrap _ _
    refine ct_skip ?_
    refine Kx2 3 5 rfl ?_
    refine Cr ?_
    refine Rq rfl (oq_load rfl rfl Tryz.isAgg96 (by repeat (first | exact Z0 | apply Sel.there)) (by rfl) (by rfl)) ?_
    refine Rp rfl (pv_fieldAddr (k := 1) rfl Tryz.runUnderlying25 rfl Tryz.sizeOf2 rfl rfl) ?_
    refine Rq rfl (oq_load rfl rfl Tryz.isAgg2 (by repeat (first | exact Z0 | apply Sel.there)) (by rfl) (by rfl)) ?_
    refine Rp rfl (pv_convert rfl Tryz.runUnderlying2 Tryz.runUnderlying28) ?_
    refine Rp rfl (pv_nilCheck rfl) ?_
    refine Rp rfl (pv_fieldAddr (k := 12) rfl Tryz.runUnderlying168 rfl Tryz.sizeOf28 rfl rfl) ?_
    refine rl_op0 rfl rfl (ot_store rfl rfl rfl Tryz.sizeOf28 (by repeat (first | exact Z0 | apply Sel.there)) (rfl : _ = [_]) rfl (by rfl) (by rfl) (by first | rfl | assumption) (by exact (rfl : _ = _ :: _ :: _ :: _ :: _ :: _ :: _ :: _ :: _ :: _ :: _ :: _ :: _ :: _))) ?_
    rintro _ _ rfl
    refine Kn1 5 rfl ?_
    refine ct_seq ?_
    refine ct_planH [.q 0, .q 1, .q 2, .q 3, .q 4, .q 5, .q 6, .b 7] mixed (by decide +kernel) ?_
    refine pw_q rfl rfl rfl rfl (oq_load rfl rfl Tryz.isAgg96 (by repeat (first | exact Z0 | apply Sel.there)) (by rfl) (by rfl)) ?_
    refine pw_q rfl rfl rfl rfl (oq_pv (pv_nilCheck rfl)) ?_
    refine pw_q rfl rfl rfl rfl (oq_pv (pv_fieldAddr (k := 0) rfl Tryz.runUnderlying168 rfl Tryz.sizeOf133 rfl rfl)) ?_
    refine pw_q rfl rfl rfl rfl (oq_load rfl rfl Tryz.isAgg96 (by repeat (first | exact Z0 | apply Sel.there)) (by rfl) (by rfl)) ?_
    refine pw_q rfl rfl rfl rfl (oq_call_of (cs := [_]) rfl Tryz.call102 (vs := [_]) rfl (by repeat (first | exact Pick.nil | (apply Pick.cons; (focus ((repeat (first | exact Z0 | apply Sel.there)); done))))) (fun F => hend_read _ _  _ _ _ _ _ _ _  _ _ _ _ _ _ _ _ _ _ _ _ _ (by first | assumption | exact ⟨by omega, by omega⟩) (by first | assumption | exact ⟨by omega, by omega⟩) (by first | assumption | exact ⟨by omega, by omega⟩) F)) ?_
    refine pw_q rfl rfl rfl rfl (oq_pv (pv_add rfl rfl ⟨by omega, by omega⟩)) ?_
    refine pw_q rfl rfl rfl rfl (oq_pv (pv_makeFunc (l := []) (c := [_]) rfl rfl)) ?_
    refine pw_b rfl rfl rfl rfl (ot_call rfl Tryz.call101 (vs := [_, _, _, _]) rfl (by repeat (first | exact Sees.refl | (apply Sees.cons; (focus ((repeat (first | exact Z0 | apply Sel.there)); done))) | apply Sees.skip)) (load_spec _ _ _ _ _ _ _ _ _ _ _ _ _ _ _ _)) ?_
    rintro _ _ ⟨bt, rfl, rfl⟩
    refine pw_done ?_
    refine Kx1 5 rfl ?_
    refine Cr ?_
    refine Rq rfl (oq_load rfl rfl Tryz.isAgg96 (by repeat (first | exact Z0 | apply Sel.there)) (by rfl) (by rfl)) ?_
    refine Rp rfl (pv_assign rfl) ?_
    refine Kn1 4 rfl ?_
    refine ct_ret ?_
    exact fin_ret (RVs.tmp rfl (RVs.nil)) Tryz.results59 (⟨_, rfl, rfl⟩) (Sees.ex ⟨none, 0, bt, 0, 0, 0, b5, 0, 0, 0, 0, none, 0⟩ (Sees.cons (by repeat (first | exact Z0 | apply Sel.there)) (Sees.cons (by repeat (first | exact Z0 | apply Sel.there)) (Sees.cons (by repeat (first | exact Z0 | apply Sel.there)) (Sees.nilOwn (by repeat (first | exact Sees.refl | (apply Sees.cons; (focus ((repeat (first | exact Z0 | apply Sel.there)); done))) | apply Sees.skip)))))))
theorem hnext_more (ω : World) (b : Nat) (k at_ n v u : Int) (p : Option Addr) (m q : Nat) (fn : Fn) (l c : Array Value) (xs : List Value) (F : List HP)  : Spec ω Tryz.prog 33 #[.pointer (some ⟨b, 0, none⟩)] (row b 0 (.int .i64 k :: .int .i64 at_ :: .int .i64 n :: .int .u64 v :: .int .u64 u :: .slice p m q :: .func fn l c :: xs) :: F) fun v' H' => v' = .tuple #[.agg #[.int .i64 k, .int .i64 at_, .int .i64 n, .int .u64 v, .int .u64 u, .slice p m q], .bool true] ∧ H' = row b 0 (.int .i64 k :: .int .i64 at_ :: .int .i64 n :: .int .u64 v :: .int .u64 u :: .slice p m q :: .func fn l c :: xs) :: F := by
  refine spec_of_body Tryz.func33 rfl Tryz.ntmps33 rfl ?_
  refine Cr ?_
  refine Ro rfl (ot_alloc rfl Tryz.zeroValue36 (rfl : _ = [_, _, _, _, _, _])) ?_
  rintro _ _ ⟨b2, rfl, rfl⟩
  refine Rp rfl (pv_assign rfl) ?_
  refine Kn2 0 2 rfl ?_
  refine ct_seq ?_
  refine Cr ?_
  refine Rp rfl (pv_move rfl) ?_
  refine Rp rfl (pv_eql rfl rfl Tryz.runUnderlying96 rfl) ?_
  refine Kn3 0 2 5 rfl ?_
  refine ct_false rfl ?_
  refine ct_skip ?_
  refine Kx2 0 2 rfl ?_
  refine Cr ?_
  refine Rp rfl (pv_move rfl) ?_
  refine Rp rfl (pv_nilCheck rfl) ?_
  refine Rp rfl (pv_fieldAddr (k := 0) rfl Tryz.runUnderlying168 rfl Tryz.sizeOf133 rfl rfl) ?_
  refine Ro rfl (ot_call rfl Tryz.call67 (vs := [_]) rfl (by repeat (first | exact Sees.refl | (apply Sees.cons; (focus ((repeat (first | exact Z0 | apply Sel.there)); done))) | apply Sees.skip)) (cnext_spec _ _ _ _ _ _ _ _ _ _ _ _ _ _ _)) ?_
  rintro _ _ ⟨rfl, rfl⟩
  refine Rp rfl (pv_extract rfl rfl) ?_
  refine Rp rfl (pv_extract rfl rfl) ?_
  refine rl_op0 rfl rfl (ot_store rfl rfl rfl Tryz.sizeOf36 (by repeat (first | exact Z0 | apply Sel.there)) (rfl : _ = [_, _, _, _, _, _]) rfl (by rfl) (by rfl) (by first | rfl | assumption) (by exact (rfl : _ = _ :: _ :: _ :: _ :: _ :: _ :: _))) ?_
  rintro _ _ rfl
  refine Rp rfl (pv_assign rfl) ?_
  refine Kn2 2 3 rfl ?_
  refine ct_ret ?_
  exact fin_ret (RVs.agg (us := [_, _, _, _, _, _]) rfl Tryz.isAgg36 Tryz.sizeOf36 (by repeat (first | exact Z0 | apply Sel.there)) (by rfl) (by rfl) (by rfl) (RVs.tmp rfl (RVs.nil))) Tryz.results33 (⟨rfl, rfl⟩) (by repeat (first | exact Sees.refl | (apply Sees.cons; (focus ((repeat (first | exact Z0 | apply Sel.there)); done))) | apply Sees.skip))
theorem hnext_end (ω : World) (b : Nat) (x0 x1 x2 x3 x4 x5 : Value) (xs : List Value) (F : List HP)  : Spec ω Tryz.prog 33 #[.pointer (some ⟨b, 0, none⟩)] (row b 0 (x0 :: x1 :: x2 :: x3 :: x4 :: x5 :: .nilFunc :: xs) :: F) fun v' H' => v' = .tuple #[.agg #[.int .i64 0, .int .i64 0, .int .i64 0, .int .u64 0, .int .u64 0, .slice none 0 0], .bool false] ∧ H' = row b 0 (x0 :: x1 :: x2 :: x3 :: x4 :: x5 :: .nilFunc :: xs) :: F := by
  refine spec_of_body Tryz.func33 rfl Tryz.ntmps33 rfl ?_
  refine Cr ?_
  refine Ro rfl (ot_alloc rfl Tryz.zeroValue36 (rfl : _ = [_, _, _, _, _, _])) ?_
  rintro _ _ ⟨b2, rfl, rfl⟩
  refine Rp rfl (pv_assign rfl) ?_
  refine Kn2 0 2 rfl ?_
  refine ct_seq ?_
  refine Cr ?_
  refine Rp rfl (pv_move rfl) ?_
  refine Rp rfl (pv_eql rfl rfl Tryz.runUnderlying96 rfl) ?_
  refine Kn3 0 2 5 rfl ?_
  refine ct_false rfl ?_
  refine ct_skip ?_
  refine Kx2 0 2 rfl ?_
  refine Cr ?_
  refine Rp rfl (pv_move rfl) ?_
  refine Rp rfl (pv_nilCheck rfl) ?_
  refine Rp rfl (pv_fieldAddr (k := 0) rfl Tryz.runUnderlying168 rfl Tryz.sizeOf133 rfl rfl) ?_
  refine Ro rfl (ot_call rfl Tryz.call67 (vs := [_]) rfl (by repeat (first | exact Sees.refl | (apply Sees.cons; (focus ((repeat (first | exact Z0 | apply Sel.there)); done))) | apply Sees.skip)) (cnext_end _ _ _ _ _ _ _ _ _ _)) ?_
  rintro _ _ ⟨rfl, rfl⟩
  refine Rp rfl (pv_extract rfl rfl) ?_
  refine Rp rfl (pv_extract rfl rfl) ?_
  refine rl_op0 rfl rfl (ot_store rfl rfl rfl Tryz.sizeOf36 (by repeat (first | exact Z0 | apply Sel.there)) (rfl : _ = [_, _, _, _, _, _]) rfl (by rfl) (by rfl) (by first | rfl | assumption) (by exact (rfl : _ = _ :: _ :: _ :: _ :: _ :: _ :: _))) ?_
  rintro _ _ rfl
  refine Rp rfl (pv_assign rfl) ?_
  refine Kn2 2 3 rfl ?_
  refine ct_ret ?_
  exact fin_ret (RVs.agg (us := [_, _, _, _, _, _]) rfl Tryz.isAgg36 Tryz.sizeOf36 (by repeat (first | exact Z0 | apply Sel.there)) (by rfl) (by rfl) (by rfl) (RVs.tmp rfl (RVs.nil))) Tryz.results33 (⟨rfl, rfl⟩) (by repeat (first | exact Sees.refl | (apply Sees.cons; (focus ((repeat (first | exact Z0 | apply Sel.there)); done))) | apply Sees.skip))
theorem hnext_nil  : PureSpec Tryz.prog 33 #[.pointer none] (.tuple #[.agg #[.int .i64 0, .int .i64 0, .int .i64 0, .int .u64 0, .int .u64 0, .slice none 0 0], .bool false]) := by
  intro ω F
  refine spec_of_body Tryz.func33 rfl Tryz.ntmps33 rfl ?_
  refine Cr ?_
  refine Ro rfl (ot_alloc rfl Tryz.zeroValue36 (rfl : _ = [_, _, _, _, _, _])) ?_
  rintro _ _ ⟨b2, rfl, rfl⟩
  refine Rp rfl (pv_assign rfl) ?_
  refine Kn2 0 2 rfl ?_
  refine ct_seq ?_
  refine Cr ?_
  refine Rp rfl (pv_move rfl) ?_
  refine Rp rfl (pv_eql rfl rfl Tryz.runUnderlying96 rfl) ?_
  refine Kn3 0 2 5 rfl ?_
  refine ct_true rfl ?_
  refine Cr ?_
  refine Rp rfl (pv_build (ps := []) (cs := [_, _, _, _, _, _]) rfl Tryz.zeroValue36 Tryz.runUnderlying36 (.cons Tryz.sizeOf3 (.cons Tryz.sizeOf3 (.cons Tryz.sizeOf3 (.cons Tryz.sizeOf28 (.cons Tryz.sizeOf28 (.cons Tryz.sizeOf29 (.nil))))))) rfl) ?_
  refine rl_op0 rfl rfl (ot_store rfl rfl rfl Tryz.sizeOf36 (by repeat (first | exact Z0 | apply Sel.there)) (rfl : _ = [_, _, _, _, _, _]) rfl (by rfl) (by rfl) (by first | rfl | assumption) (by exact (rfl : _ = _ :: _ :: _ :: _ :: _ :: _ :: _))) ?_
  rintro _ _ rfl
  refine Rp rfl (pv_assign rfl) ?_
  refine Kn2 2 3 rfl ?_
  refine ct_ret ?_
  refine xt_ret_then ?_
  exact fin_ret (RVs.agg (us := [_, _, _, _, _, _]) rfl Tryz.isAgg36 Tryz.sizeOf36 (by repeat (first | exact Z0 | apply Sel.there)) (by rfl) (by rfl) (by rfl) (RVs.tmp rfl (RVs.nil))) Tryz.results33 (⟨rfl, rfl⟩) (by repeat (first | exact Sees.refl | (apply Sees.cons; (focus ((repeat (first | exact Z0 | apply Sel.there)); done))) | apply Sees.skip))
def nowA (hb : Nat) : Option (HS × HPh) → Option Addr
  | none => none
  | some _ => some ⟨hb, 0, none⟩
def nowRep (hb : Nat) : Option (HS × HPh) → HP
  | none => fact True
  | some (s, ph) => hearRep hb s ph
def nowAcc : Option (HS × HPh) → Acc
  | none => ⟨0, 0, 0, 0, 0, none, 0, 0⟩
  | some (s, ph) => hwant s ph
def nowMore : Option (HS × HPh) → Bool
  | none => false
  | some (_, ph) => !ph.ends
theorem hnext_spec (ω : World) (b : Nat) (s : HS) (ph : HPh) (F : List HP) : Spec ω Tryz.prog 33 #[.pointer (some ⟨b, 0, none⟩)] (hearRep b s ph :: F) fun v' H' => v' = .tuple #[.agg (hwant s ph).cells, .bool (!ph.ends)] ∧ H' = hearRep b s ph :: F := by
  refine Spec.fold ?_
  cases ph with
  | fin =>
    refine Spec.ex fun x => ?_
    exact (hnext_end ω b _ _ _ _ _ _ _ _).mono (by rintro _ _ ⟨rfl, rfl⟩; exact ⟨rfl, Sees.ex x (by repeat (first | exact Sees.refl | (apply Sees.cons; (focus ((repeat (first | exact Z0 | apply Sel.there)); done))) | apply Sees.skip))⟩)
  | _ =>
    refine Spec.ex fun x => ?_
    first
      | exact (Spec.sees (by repeat (first | exact Sees.refl | (apply Sees.cons; (focus ((repeat (first | exact Z0 | apply Sel.there)); done))) | apply Sees.skip)) (hnext_more ω b _ _ _ _ _ _ _ _ _ _ _ _ _)).mono (by rintro _ _ ⟨rfl, rfl⟩; exact ⟨rfl, Sees.ex x (by repeat (first | exact Sees.refl | (apply Sees.cons; (focus ((repeat (first | exact Z0 | apply Sel.there)); done))) | apply Sees.skip))⟩)
theorem hnextO_spec (ω : World) (hb : Nat) (now : Option (HS × HPh)) (F : List HP) : Spec ω Tryz.prog 33 #[.pointer (nowA hb now)] (nowRep hb now :: F) fun v' H' => v' = .tuple #[.agg (nowAcc now).cells, .bool (nowMore now)] ∧ H' = nowRep hb now :: F := by
  rcases now with _ | ⟨s, ph⟩
  · exact hnext_nil ω _
  · exact hnext_spec ω hb s ph F
theorem ctake_load (ω : World) (b bt : Nat) (x0 x1 x2 x3 x4 x5 : Value) (xs : List Value) (f1 : FuncId) (l1 c1 : List Value) (av : Int) (ad : Bool) (ap : Option Addr) (an ac : Nat) (R : List HP → Prop) (G : List HP)
    (hc : ∀ args w, (callFunc f1 args).run Tryz.prog w = .ok (.enter f1 args) w) (hf : Spec ω Tryz.prog f1 (l1 ++ [Value.int .u64 av] ++ c1).toArray (row b 0 (.int .i64 0 :: .int .i64 0 :: .int .i64 0 :: .int .u64 0 :: .int .u64 0 :: .slice none 0 0 :: .nilFunc :: xs) :: G) fun v H => v = .tuple #[] ∧ R H) :
    Spec ω Tryz.prog 68 #[.pointer (some ⟨b, 0, none⟩), .agg #[.int .u64 av, .bool ad, .slice ap an ac]] (row b 0 (x0 :: x1 :: x2 :: x3 :: x4 :: x5 :: .func (.func 130) #[] #[.pointer (some ⟨bt, 0, none⟩)] :: xs) :: row bt 0 [.func (.func f1) l1.toArray c1.toArray] :: G) fun v H => v = .tuple #[] ∧ R H := by
  refine Spec.sees (by repeat (first | exact Sees.refl | (apply Sees.cons; (focus ((repeat (first | exact Z0 | apply Sel.there)); done))) | apply Sees.skip)) (ctake_spec ω b x0 x1 x2 x3 x4 x5 130 [] [.pointer (some ⟨bt, 0, none⟩)] xs av ad ap an ac R (row bt 0 [.func (.func f1) l1.toArray c1.toArray] :: G) Tryz.call130 ?_)
  exact Spec.sees (by repeat (first | exact Sees.refl | (apply Sees.cons; (focus ((repeat (first | exact Z0 | apply Sel.there)); done))) | apply Sees.skip)) (load1_spec ω av ad ap an ac bt f1 l1 c1 R (row b 0 (.int .i64 0 :: .int .i64 0 :: .int .i64 0 :: .int .u64 0 :: .int .u64 0 :: .slice none 0 0 :: .nilFunc :: xs) :: G) hc hf)
theorem htake_tail (ω : World) (b : Nat) (s : HS) (ok : HOk s) (a : Ans) (ha : inK .u64 a.v) (X : HP) (ap : Option Addr) (ac : Nat) (F : List HP) : Spec ω Tryz.prog 68 #[.pointer (some ⟨b, 0, none⟩), .agg #[.int .u64 a.v, .bool a.d, .slice ap a.data.length ac]] (hearRep b s .tail :: X :: F) fun v' H' => v' = .tuple #[] ∧ Sees H' (hearRep b (hstep s .tail a).1 (hstep s .tail a).2 :: X :: F) := by
  refine Spec.ex fun x => Spec.sees (by repeat (first | exact Sees.refl | (apply Sees.cons; (focus ((repeat (first | exact Z0 | apply Sel.there)); done))) | apply Sees.skip)) (ctake_load ω b x.a1 _ _ _ _ _ _ _ 103 [] [.pointer (some ⟨x.a5, 0, none⟩)] a.v a.d ap a.data.length ac _ (_ :: _ :: X :: F) Tryz.call103 ?_)
  refine (Spec.sees (by repeat (first | exact Sees.refl | (apply Sees.cons; (focus ((repeat (first | exact Z0 | apply Sel.there)); done))) | apply Sees.skip)) (hn1_spec ω b s ok a.v ha x.a5 x.p x.c (X :: F))).mono ?_
  rintro _ _ ⟨rfl, s', ph', h, rfl⟩
  rw [show hstep s .tail a = (s', ph') from tailStep_of h]
  exact ⟨rfl, .refl⟩
theorem htake_latest (ω : World) (b : Nat) (s : HS) (ok : HOk s) (a : Ans) (ha : inK .u64 a.v) (X : HP) (ap : Option Addr) (ac : Nat) (F : List HP) : Spec ω Tryz.prog 68 #[.pointer (some ⟨b, 0, none⟩), .agg #[.int .u64 a.v, .bool a.d, .slice ap a.data.length ac]] (hearRep b s .latest :: X :: F) fun v' H' => v' = .tuple #[] ∧ Sees H' (hearRep b (hstep s .latest a).1 (hstep s .latest a).2 :: X :: F) := by
  refine Spec.ex fun x => Spec.sees (by repeat (first | exact Sees.refl | (apply Sees.cons; (focus ((repeat (first | exact Z0 | apply Sel.there)); done))) | apply Sees.skip)) (ctake_load ω b x.a1 _ _ _ _ _ _ _ 107 [] [.pointer (some ⟨x.a5, 0, none⟩)] a.v a.d ap a.data.length ac _ (_ :: _ :: X :: F) Tryz.call107 ?_)
  refine (Spec.sees (by repeat (first | exact Sees.refl | (apply Sees.cons; (focus ((repeat (first | exact Z0 | apply Sel.there)); done))) | apply Sees.skip)) (hn111_spec ω b s ok a.v ha x.a5 x.p x.c (X :: F))).mono ?_
  rintro _ _ ⟨rfl, rfl⟩
  exact ⟨rfl, .refl⟩
theorem htake_hdr (ω : World) (b : Nat) (s : HS) (ok : HOk s) (a : Ans) (ha : inK .u64 a.v) (X : HP) (ap : Option Addr) (ac : Nat) (F : List HP) : Spec ω Tryz.prog 68 #[.pointer (some ⟨b, 0, none⟩), .agg #[.int .u64 a.v, .bool a.d, .slice ap a.data.length ac]] (hearRep b s .hdr :: X :: F) fun v' H' => v' = .tuple #[] ∧ Sees H' (hearRep b (hstep s .hdr a).1 (hstep s .hdr a).2 :: X :: F) := by
  refine Spec.ex fun x => Spec.sees (by repeat (first | exact Sees.refl | (apply Sees.cons; (focus ((repeat (first | exact Z0 | apply Sel.there)); done))) | apply Sees.skip)) (ctake_load ω b x.a1 _ _ _ _ _ _ _ 133 [] [.pointer (some ⟨x.a5, 0, none⟩)] a.v a.d ap a.data.length ac _ (_ :: _ :: X :: F) Tryz.call133 ?_)
  refine (Spec.sees (by repeat (first | exact Sees.refl | (apply Sees.cons; (focus ((repeat (first | exact Z0 | apply Sel.there)); done))) | apply Sees.skip)) (hrec1_spec ω b s ok a.v ha x.a5 x.p x.c (X :: F))).mono ?_
  rintro _ _ ⟨rfl, s', ph', h, rfl⟩
  rw [show hstep s .hdr a = (s', ph') from recStep_of h]
  exact ⟨rfl, .refl⟩
/-- valid's answer: what comes behind it. -/
theorem htake_valid (ω : World) (b : Nat) (s : HS) (ok : HOk s) (a : Ans) (ha : inK .u64 a.v) (ap : Option Addr) (ac : Nat) (x1 x2 x3 x4 : Nat) (mp : Option Addr) (mc : Nat) (f1 f2 : FuncId) (l1 c1 l2 c2 : List Value) (R : List HP → Prop) (G : List HP)
    (e1 : ∀ args w, (callFunc f1 args).run Tryz.prog w = .ok (.enter f1 args) w) (e2 : ∀ args w, (callFunc f2 args).run Tryz.prog w = .ok (.enter f2 args) w)
    (hT : ¬ past s a.v → Spec ω Tryz.prog f1 (l1 ++ [] ++ c1).toArray (row b 0 [.int .i64 0, .int .i64 0, .int .i64 0, .int .u64 0, .int .u64 0, .slice none 0 0, .nilFunc, .int .i64 s.base, .int .i64 s.size, .int .i64 s.cur, .int .i64 s.nxt, .int .i64 s.lap, .int .u64 s.cursor, .int .i64 s.pads, .int .i32 s.mt, .slice mp s.data.length mc, .bool s.heard, .int .i64 s.e] :: G) fun v H => v = .tuple #[] ∧ R H) (hE : past s a.v → Spec ω Tryz.prog f2 (l2 ++ [] ++ c2).toArray (row b 0 [.int .i64 0, .int .i64 0, .int .i64 0, .int .u64 0, .int .u64 0, .slice none 0 0, .nilFunc, .int .i64 s.base, .int .i64 s.size, .int .i64 s.cur, .int .i64 s.nxt, .int .i64 s.lap, .int .u64 s.cursor, .int .i64 s.pads, .int .i32 s.mt, .slice mp s.data.length mc, .bool s.heard, .int .i64 s.e] :: G) fun v H => v = .tuple #[] ∧ R H) :
    Spec ω Tryz.prog 68 #[.pointer (some ⟨b, 0, none⟩), .agg #[.int .u64 a.v, .bool a.d, .slice ap a.data.length ac]] (row b 0 [.int .i64 1, .int .i64 (s.base + s.size), .int .i64 8, .int .u64 0, .int .u64 0, .slice none 0 0, .func (.func 130) #[] #[.pointer (some ⟨x1, 0, none⟩)], .int .i64 s.base, .int .i64 s.size, .int .i64 s.cur, .int .i64 s.nxt, .int .i64 s.lap, .int .u64 s.cursor, .int .i64 s.pads, .int .i32 s.mt, .slice mp s.data.length mc, .bool s.heard, .int .i64 s.e] :: row x1 0 [.func (.func 131) #[] #[.pointer (some ⟨x2, 0, none⟩), .pointer (some ⟨x4, 0, none⟩), .pointer (some ⟨x3, 0, none⟩)]] :: row x2 0 [.pointer (some ⟨b, 0, none⟩)] :: row x3 0 [.func (.func f1) l1.toArray c1.toArray] :: row x4 0 [.func (.func f2) l2.toArray c2.toArray] :: G) fun v H => v = .tuple #[] ∧ R H := by
  refine Spec.sees (by repeat (first | exact Sees.refl | (apply Sees.cons; (focus ((repeat (first | exact Z0 | apply Sel.there)); done))) | apply Sees.skip)) (ctake_load ω b x1 _ _ _ _ _ _ _ 131 [] [.pointer (some ⟨x2, 0, none⟩), .pointer (some ⟨x4, 0, none⟩), .pointer (some ⟨x3, 0, none⟩)] a.v a.d ap a.data.length ac R (_ :: _ :: _ :: G) Tryz.call131 ?_)
  exact Spec.sees (by repeat (first | exact Sees.refl | (apply Sees.cons; (focus ((repeat (first | exact Z0 | apply Sel.there)); done))) | apply Sees.skip)) (hv1_spec ω b s ok a.v ha x2 x3 x4 f1 f2 l1 c1 l2 c2 mp mc R G e1 e2 hT hE)
theorem htake_v1 (ω : World) (b : Nat) (s : HS) (ok : HOk s) (a : Ans) (ha : inK .u64 a.v) (X : HP) (ap : Option Addr) (ac : Nat) (F : List HP) : Spec ω Tryz.prog 68 #[.pointer (some ⟨b, 0, none⟩), .agg #[.int .u64 a.v, .bool a.d, .slice ap a.data.length ac]] (hearRep b s .v1 :: X :: F) fun v' H' => v' = .tuple #[] ∧ Sees H' (hearRep b (hstep s .v1 a).1 (hstep s .v1 a).2 :: X :: F) := by
  refine Spec.ex fun x => Spec.sees (by repeat (first | exact Sees.refl | (apply Sees.cons; (focus ((repeat (first | exact Z0 | apply Sel.there)); done))) | apply Sees.skip)) (htake_valid ω b s ok a ha ap ac x.a1 x.a2 x.a3 x.a4 x.p x.c 105 106 [.pointer (some ⟨b, 0, none⟩)] [] [] [.pointer (some ⟨x.a5, 0, none⟩)] _ (_ :: _ :: X :: F) Tryz.call105 Tryz.call106 (fun h => ?_) (fun h => ?_))
  · rw [show hstep s .v1 a = (s, .hdr) from if_neg h]
    refine (Spec.sees (by repeat (first | exact Sees.refl | (apply Sees.cons; (focus ((repeat (first | exact Z0 | apply Sel.there)); done))) | apply Sees.skip)) (hrecord_spec ω b _ _ _ _ _ _ _ _ _ _ _ _ _ _ _ _ _ _ _ _ ok.hb ok.hs ok.hc (row x.a5 0 [.pointer (some ⟨b, 0, none⟩)] :: own 1 x.p s.data.length x.c (byteC s.data) :: X :: F))).mono ?_
    rintro _ _ ⟨bt, bh, rfl, rfl⟩
    exact ⟨rfl, Sees.ex (⟨x.p, x.c, bt, 0, 0, 0, bh, 0, 0, 0, 0, none, 0⟩) (by repeat (first | exact Sees.refl | (apply Sees.cons; (focus ((repeat (first | exact Z0 | apply Sel.there)); done))) | apply Sees.skip))⟩
  · rw [show hstep s .v1 a = ({ s with lap := IntKind.i64.wrap (s.lap + 1) }, .latest) from if_pos h]
    refine (Spec.sees (by repeat (first | exact Sees.refl | (apply Sees.cons; (focus ((repeat (first | exact Z0 | apply Sel.there)); done))) | apply Sees.skip)) (hn11_spec ω b s ok x.a5 x.p x.c (X :: F))).mono ?_
    rintro _ _ ⟨rfl, rfl⟩
    exact ⟨rfl, .refl⟩
theorem hlost_rep (ω : World) (b : Nat) (s : HS) (ok : HOk s) (X : HP) (mp : Option Addr) (mc : Nat) (F G : List HP) (hs : Sees (own 1 mp s.data.length mc (byteC s.data) :: G) (own 1 mp s.data.length mc (byteC s.data) :: X :: F)) :
    Spec ω Tryz.prog 136 #[.pointer (some ⟨b, 0, none⟩)] (row b 0 [.int .i64 0, .int .i64 0, .int .i64 0, .int .u64 0, .int .u64 0, .slice none 0 0, .nilFunc, .int .i64 s.base, .int .i64 s.size, .int .i64 s.cur, .int .i64 s.nxt, .int .i64 s.lap, .int .u64 s.cursor, .int .i64 s.pads, .int .i32 s.mt, .slice mp s.data.length mc, .bool s.heard, .int .i64 s.e] :: own 1 mp s.data.length mc (byteC s.data) :: G) fun v H' => v = .tuple #[] ∧ Sees H' (hearRep b s.lose .fin :: X :: F) := by
  refine (hlost_spec ω b _ _ _ _ _ _ _ _ _ _ _ _ _ _ _ _ _ _ _ _ ok.hb ok.hs ok.hc (own 1 mp s.data.length mc (byteC s.data) :: G)).mono ?_
  rintro _ _ ⟨rfl, rfl⟩
  refine ⟨rfl, .of fun m h => ?_⟩
  have h2 := h.skip hs.out
  exact (Sees.ex (⟨mp, mc, 0, 0, 0, 0, 0, 0, 0, 0, 0, none, 0⟩) (by repeat (first | exact Sees.refl | (apply Sees.cons; (focus ((repeat (first | exact Z0 | apply Sel.there)); done))) | apply Sees.skip)) : Sees _ (hearRep b s.lose .fin :: X :: F)).out m h2
theorem htake_vpad (ω : World) (b : Nat) (s : HS) (size : Int) (ok : HOk s) (a : Ans) (ha : inK .u64 a.v) (X : HP) (ap : Option Addr) (ac : Nat) (F : List HP) : Spec ω Tryz.prog 68 #[.pointer (some ⟨b, 0, none⟩), .agg #[.int .u64 a.v, .bool a.d, .slice ap a.data.length ac]] (hearRep b s (.vpad size) :: X :: F) fun v' H' => v' = .tuple #[] ∧ Sees H' (hearRep b (hstep s (.vpad size) a).1 (hstep s (.vpad size) a).2 :: X :: F) := by
  refine Spec.ex fun x => Spec.sees (by repeat (first | exact Sees.refl | (apply Sees.cons; (focus ((repeat (first | exact Z0 | apply Sel.there)); done))) | apply Sees.skip)) (htake_valid ω b s ok a ha ap ac x.a1 x.a2 x.a3 x.a4 x.p x.c 137 136 [] [.pointer (some ⟨x.a5, 0, none⟩), .pointer (some ⟨x.a6, 0, none⟩)] [.pointer (some ⟨b, 0, none⟩)] [] _ (own 1 x.p s.data.length x.c (byteC s.data) :: row x.a5 0 [.pointer (some ⟨b, 0, none⟩)] :: row x.a6 0 [.int .i64 size] :: X :: F) Tryz.call137 Tryz.call136 (fun h => ?_) (fun h => ?_))
  · rw [show hstep s (.vpad size) a = (s.skip size, .hdr) from if_neg h]
    refine (Spec.sees (by repeat (first | exact Sees.refl | (apply Sees.cons; (focus ((repeat (first | exact Z0 | apply Sel.there)); done))) | apply Sees.skip)) (hrec11_spec ω b s ok size x.a5 x.a6 x.p x.c (X :: F))).mono ?_
    rintro _ _ ⟨rfl, rfl⟩
    exact ⟨rfl, .refl⟩
  · rw [show hstep s (.vpad size) a = (s.lose, .fin) from if_pos h]
    exact hlost_rep ω b s ok X x.p x.c F _ (by repeat (first | exact Sees.refl | (apply Sees.cons; (focus ((repeat (first | exact Z0 | apply Sel.there)); done))) | apply Sees.skip))
theorem htake_vend (ω : World) (b : Nat) (s : HS) (typ size : Int) (bytes : List UInt8) (ok : HOk s) (a : Ans) (ha : inK .u64 a.v) (X : HP) (ap : Option Addr) (ac : Nat) (F : List HP) : Spec ω Tryz.prog 68 #[.pointer (some ⟨b, 0, none⟩), .agg #[.int .u64 a.v, .bool a.d, .slice ap a.data.length ac]] (hearRep b s (.vend typ size bytes) :: X :: F) fun v' H' => v' = .tuple #[] ∧ Sees H' (hearRep b (hstep s (.vend typ size bytes) a).1 (hstep s (.vend typ size bytes) a).2 :: X :: F) := by
  refine Spec.ex fun x => Spec.sees (by repeat (first | exact Sees.refl | (apply Sees.cons; (focus ((repeat (first | exact Z0 | apply Sel.there)); done))) | apply Sees.skip)) (htake_valid ω b s ok a ha ap ac x.a1 x.a2 x.a3 x.a4 x.p x.c 162 136 [] [.pointer (some ⟨x.a5, 0, none⟩), .pointer (some ⟨x.a6, 0, none⟩), .pointer (some ⟨x.a7, 0, none⟩), .pointer (some ⟨x.a8, 0, none⟩)] [.pointer (some ⟨b, 0, none⟩)] [] _ (own 1 x.p s.data.length x.c (byteC s.data) :: row x.a5 0 [.pointer (some ⟨b, 0, none⟩)] :: row x.a6 0 [.int .i64 size] :: row x.a7 0 [.int .i32 typ] :: row x.a8 0 [.slice x.q bytes.length x.d] :: own 1 x.q bytes.length x.d (byteC bytes) :: X :: F) Tryz.call162 Tryz.call136 (fun h => ?_) (fun h => ?_))
  · rw [show hstep s (.vend typ size bytes) a = (s.hears typ size bytes, .fin) from if_neg h]
    refine (Spec.sees (by repeat (first | exact Sees.refl | (apply Sees.cons; (focus ((repeat (first | exact Z0 | apply Sel.there)); done))) | apply Sees.skip)) (hb11_spec ω b s ok typ size x.q x.d bytes x.a5 x.a6 x.a7 x.a8 x.p x.c (X :: F))).mono ?_
    rintro _ _ ⟨rfl, rfl⟩
    exact ⟨rfl, .refl⟩
  · rw [show hstep s (.vend typ size bytes) a = (s.lose, .fin) from if_pos h]
    exact hlost_rep ω b s ok X x.p x.c F _ (by repeat (first | exact Sees.refl | (apply Sees.cons; (focus ((repeat (first | exact Z0 | apply Sel.there)); done))) | apply Sees.skip))
theorem htake_out (ω : World) (b : Nat) (s : HS) (at_ n typ size : Int) (have_ : List UInt8) (pok : POk s (.out at_ n typ size have_)) (a : Ans) (ha : inK .u64 a.v) (X : HP) (ap : Option Addr) (ac : Nat) (hX : Rd ω X 1 ap a.data.length (byteC a.data)) (hbd : have_.length + a.data.length ≤ 140737488355328) (F : List HP) :
    Spec ω Tryz.prog 68 #[.pointer (some ⟨b, 0, none⟩), .agg #[.int .u64 a.v, .bool a.d, .slice ap a.data.length ac]] (hearRep b s (.out at_ n typ size have_) :: X :: F) fun v' H' => v' = .tuple #[] ∧ Sees H' (hearRep b (hstep s (.out at_ n typ size have_) a).1 (hstep s (.out at_ n typ size have_) a).2 :: X :: F) := by
  obtain ⟨ok, h1, h2, h3⟩ := pok
  have hc := chunk_in n h1
  refine Spec.ex fun x => Spec.sees (by repeat (first | exact Sees.refl | (apply Sees.cons; (focus ((repeat (first | exact Z0 | apply Sel.there)); done))) | apply Sees.skip)) (ctake_spec ω b _ _ _ _ _ _ 172 [] [.pointer (some ⟨x.a7, 0, none⟩), .pointer (some ⟨x.a6, 0, none⟩), .pointer (some ⟨x.a1, 0, none⟩), .pointer (some ⟨x.a4, 0, none⟩), .pointer (some ⟨x.a3, 0, none⟩), .pointer (some ⟨x.a2, 0, none⟩)] _ a.v a.d ap a.data.length ac _ (own 1 x.q have_.length x.d (byteC have_) :: row x.a1 0 [.int .i64 (chunk n)] :: row x.a2 0 [.func (.func 161) #[] #[.pointer (some ⟨x.a5, 0, none⟩), .pointer (some ⟨x.a8, 0, none⟩), .pointer (some ⟨x.a9, 0, none⟩)]] :: row x.a3 0 [.slice x.q have_.length x.d] :: row x.a4 0 [.int .i64 n] :: row x.a6 0 [.int .i64 at_] :: row x.a7 0 [.pointer (some ⟨b, 0, none⟩)] :: row x.a5 0 [.pointer (some ⟨b, 0, none⟩)] :: row x.a8 0 [.int .i64 size] :: row x.a9 0 [.int .i32 typ] :: own 1 x.p s.data.length x.c (byteC s.data) :: X :: F) Tryz.call172 ?_)
  by_cases h : 1 ≤ n - chunk n
  · rw [show hstep s (.out at_ n typ size have_) a = (s, .out (at_ + chunk n) (n - chunk n) typ size (have_ ++ a.data)) from if_pos h]
    refine (Spec.sees (by repeat (first | exact Sees.refl | (apply Sees.cons; (focus ((repeat (first | exact Z0 | apply Sel.there)); done))) | apply Sees.skip)) (out1_more ω a.v a.d ap a.data.length ac b x.a7 x.a6 x.a4 x.a3 x.a2 x.a1 _ _ _ _ _ _ _ _ at_ n (chunk n) x.q have_.length x.d (byteC have_) (byteC a.data) X hX (plain_byteC _) hbd ⟨by omega, by omega⟩ ⟨by omega, by omega⟩ _ #[] _ h (row x.a5 0 [.pointer (some ⟨b, 0, none⟩)] :: row x.a8 0 [.int .i64 size] :: row x.a9 0 [.int .i32 typ] :: own 1 x.p s.data.length x.c (byteC s.data) :: F))).mono ?_
    rintro _ _ ⟨c5, c6, c7, c8, c9, c10, hp', hc', rfl, rfl⟩
    refine ⟨rfl, ?_⟩
    rw [← byteC_append, ← List.length_append]
    exact Sees.ex ⟨x.p, x.c, c10, c9, c8, c7, x.a5, c6, c5, x.a8, x.a9, hp', hc'⟩ (by repeat (first | exact Sees.refl | (apply Sees.cons; (focus ((repeat (first | exact Z0 | apply Sel.there)); done))) | apply Sees.skip))
  · rw [show hstep s (.out at_ n typ size have_) a = (s, .vend typ size (have_ ++ a.data)) from if_neg h]
    refine Spec.sees (by repeat (first | exact Sees.refl | (apply Sees.cons; (focus ((repeat (first | exact Z0 | apply Sel.there)); done))) | apply Sees.skip)) (out1_done ω a.v a.d ap a.data.length ac b x.a7 x.a6 x.a4 x.a3 x.a2 x.a1 _ _ _ _ _ _ _ _ at_ n (chunk n) x.q have_.length x.d (byteC have_) (byteC a.data) X hX (plain_byteC _) hbd ⟨by omega, by omega⟩ ⟨by omega, by omega⟩ 161 [] [.pointer (some ⟨x.a5, 0, none⟩), .pointer (some ⟨x.a8, 0, none⟩), .pointer (some ⟨x.a9, 0, none⟩)] (by omega) (fun H' => Sees H' (hearRep b s (.vend typ size (have_ ++ a.data)) :: X :: F)) (row x.a5 0 [.pointer (some ⟨b, 0, none⟩)] :: row x.a8 0 [.int .i64 size] :: row x.a9 0 [.int .i32 typ] :: own 1 x.p s.data.length x.c (byteC s.data) :: F) Tryz.call161 (fun hp' hc' => ?_))
    rw [← byteC_append, ← List.length_append]
    refine (Spec.sees (by repeat (first | exact Sees.refl | (apply Sees.cons; (focus ((repeat (first | exact Z0 | apply Sel.there)); done))) | apply Sees.skip)) (hb1_spec ω b s ok typ size hp' hc' (have_ ++ a.data) x.a5 x.a8 x.a9 x.p x.c (X :: F))).mono ?_
    rintro _ _ ⟨rfl, rfl⟩
    exact ⟨rfl, .refl⟩
/-- What a listener comes to, told something. -/
theorem htake_spec (ω : World) (b : Nat) (s : HS) (ph : HPh) (pok : POk s ph) (hph : ph.ends = false) (a : Ans) (ha : inK .u64 a.v) (X : HP) (ap : Option Addr) (ac : Nat) (hX : Rd ω X 1 ap a.data.length (byteC a.data)) (hbd : ph.room s + a.data.length ≤ 140737488355328) (F : List HP) :
    Spec ω Tryz.prog 68 #[.pointer (some ⟨b, 0, none⟩), .agg #[.int .u64 a.v, .bool a.d, .slice ap a.data.length ac]] (hearRep b s ph :: X :: F) fun v' H' => v' = .tuple #[] ∧ H' = hearRep b (hstep s ph a).1 (hstep s ph a).2 :: X :: F := by
  refine Spec.fold ?_
  cases ph with
  | fin => cases hph
  | tail => exact htake_tail ω b s pok a ha X ap ac F
  | v1 => exact htake_v1 ω b s pok a ha X ap ac F
  | latest => exact htake_latest ω b s pok a ha X ap ac F
  | hdr => exact htake_hdr ω b s pok a ha X ap ac F
  | vpad size => exact htake_vpad ω b s size pok.1 a ha X ap ac F
  | out at_ n typ size have_ => exact htake_out ω b s at_ n typ size have_ pok a ha X ap ac hX hbd F
  | vend typ size bytes => exact htake_vend ω b s typ size bytes pok a ha X ap ac F
theorem hTake_spec (ω : World) (b : Nat) (s : HS) (ph : HPh) (pok : POk s ph) (hph : ph.ends = false) (a : Ans) (ha : inK .u64 a.v) (X : HP) (ap : Option Addr) (ac : Nat) (hX : Rd ω X 1 ap a.data.length (byteC a.data)) (hbd : ph.room s + a.data.length ≤ 140737488355328) (F : List HP)  : Spec ω Tryz.prog 36 #[.pointer (some ⟨b, 0, none⟩), .agg #[.int .u64 a.v, .bool a.d, .slice ap a.data.length ac]] (hearRep b s ph :: X :: F) fun v' H' => v' = .tuple #[] ∧ H' = hearRep b (hstep s ph a).1 (hstep s ph a).2 :: X :: F := by
  refine spec_of_body Tryz.func36 rfl Tryz.ntmps36 rfl ?_
  refine Cr ?_
  refine Ro rfl (ot_box rfl rfl (rfl : _ = [_, _, _])) ?_
  rintro _ _ ⟨b3, rfl, rfl⟩
  refine Kn2 0 3 rfl ?_
  refine Cr ?_
  refine Rp rfl (pv_move rfl) ?_
  refine Rp rfl (pv_neq rfl rfl Tryz.runUnderlying96 rfl) ?_
  refine Kn3 0 3 5 rfl ?_
  refine ct_true rfl ?_
  refine ct_planH [.q 0, .q 1, .q 2, .q 3, .b 4] mixed (by decide +kernel) ?_
  refine pw_q rfl rfl rfl rfl (oq_pv (pv_move rfl)) ?_
  refine pw_q rfl rfl rfl rfl (oq_pv (pv_nilCheck rfl)) ?_
  refine pw_q rfl rfl rfl rfl (oq_pv (pv_fieldAddr (k := 0) rfl Tryz.runUnderlying168 rfl Tryz.sizeOf133 rfl rfl)) ?_
  refine pw_q rfl rfl rfl rfl (oq_loadAgg (us := [_, _, _]) rfl rfl Tryz.isAgg31 Tryz.sizeOf31 (by repeat (first | exact Z0 | apply Sel.there)) (by rfl) (by rfl) (by rfl)) ?_
  refine pw_b rfl rfl rfl rfl (ot_call rfl Tryz.call68 (vs := [_, _]) rfl (by repeat (first | exact Sees.refl | (apply Sees.cons; (focus ((repeat (first | exact Z0 | apply Sel.there)); done))) | apply Sees.skip)) (htake_spec _ _ _ _ pok hph _ ha X _ _ hX hbd _)) ?_
  rintro _ _ ⟨rfl, rfl⟩
  refine pw_done ?_
  exact fin_end (RVs.nil) Tryz.results36 (⟨rfl, rfl⟩) (by repeat (first | exact Sees.refl | (apply Sees.cons; (focus ((repeat (first | exact Z0 | apply Sel.there)); done))) | apply Sees.skip))
theorem hresult_raw (ω : World) (b : Nat) (s : HS) (mp : Option Addr) (mc : Nat) (hbd : s.data.length ≤ 140737488355328) (F : List HP)  : Spec ω Tryz.prog 98 #[.pointer (some ⟨b, 0, none⟩)] (row b 0 [.int .i64 0, .int .i64 0, .int .i64 0, .int .u64 0, .int .u64 0, .slice none 0 0, .nilFunc, .int .i64 s.base, .int .i64 s.size, .int .i64 s.cur, .int .i64 s.nxt, .int .i64 s.lap, .int .u64 s.cursor, .int .i64 s.pads, .int .i32 s.mt, .slice mp s.data.length mc, .bool s.heard, .int .i64 s.e] :: own 1 mp s.data.length mc (byteC s.data) :: F) fun v' H' => ∃ p' c', v' = .tuple #[.agg #[.int .i32 s.mt, .slice p' s.data.length c'], .bool s.heard, .int .i64 s.e] ∧ H' = own 1 p' s.data.length c' (byteC s.data) :: row b 0 [.int .i64 0, .int .i64 0, .int .i64 0, .int .u64 0, .int .u64 0, .slice none 0 0, .nilFunc, .int .i64 s.base, .int .i64 s.size, .int .i64 s.cur, .int .i64 s.nxt, .int .i64 s.lap, .int .u64 s.cursor, .int .i64 s.pads, .int .i32 s.mt, .slice mp s.data.length mc, .bool s.heard, .int .i64 s.e] :: own 1 mp s.data.length mc (byteC s.data) :: F := by
  refine spec_of_body Tryz.func98 rfl Tryz.ntmps98 rfl ?_
  refine Cr ?_
  refine Ro rfl (ot_alloc rfl Tryz.zeroValue74 (rfl : _ = [_, _])) ?_
  rintro _ _ ⟨b2, rfl, rfl⟩
  refine Rp rfl (pv_assign rfl) ?_
  refine Rp rfl (pv_assign rfl) ?_
  refine Kn2 0 2 rfl ?_
  refine ct_seq ?_
  refine Cr ?_
  refine Rp rfl (pv_move rfl) ?_
  refine Rp rfl (pv_eql rfl rfl Tryz.runUnderlying96 rfl) ?_
  refine Kn3 0 2 6 rfl ?_
  refine ct_false rfl ?_
  refine ct_skip ?_
  refine Kx2 0 2 rfl ?_
  refine ct_seq ?_
  refine ct_plan1 [.q 0, .q 1, .q 2, .q 3, .q 4, .q 5, .q 6, .q 7, .q 8, .q 9, .q 12, .q 13, .q 14, .q 15, .q 16, .q 17, .q 18, .q 19, .e 10, .q 11, .e 20, .q 21, .q 22] (row b2 0 _) (by repeat (first | exact Sees.refl | (apply Sees.cons; (focus ((repeat (first | exact Z0 | apply Sel.there)); done))) | apply Sees.skip)) mixed (by decide +kernel) ?_
  refine pw_q rfl rfl rfl rfl (oq_pv (pv_move rfl)) ?_
  refine pw_q rfl rfl rfl rfl (oq_pv (pv_nilCheck rfl)) ?_
  refine pw_q rfl rfl rfl rfl (oq_pv (pv_fieldAddr (k := 14) rfl Tryz.runUnderlying168 rfl Tryz.sizeOf74 rfl rfl)) ?_
  refine pw_q rfl rfl rfl rfl (oq_pv (pv_fieldAddr (k := 14) rfl Tryz.runUnderlying74 rfl Tryz.sizeOf21 rfl rfl)) ?_
  refine pw_q rfl rfl rfl rfl (oq_load rfl rfl Tryz.isAgg21 (by repeat (first | exact Z0 | apply Sel.there)) (by rfl) (by rfl)) ?_
  refine pw_q rfl rfl rfl rfl (oq_pv (pv_move rfl)) ?_
  refine pw_q rfl rfl rfl rfl (oq_pv (pv_nilCheck rfl)) ?_
  refine pw_q rfl rfl rfl rfl (oq_pv (pv_fieldAddr (k := 14) rfl Tryz.runUnderlying168 rfl Tryz.sizeOf74 rfl rfl)) ?_
  refine pw_q rfl rfl rfl rfl (oq_pv (pv_fieldAddr (k := 15) rfl Tryz.runUnderlying74 rfl Tryz.sizeOf29 rfl rfl)) ?_
  refine pw_q rfl rfl rfl rfl (oq_load rfl rfl Tryz.isAgg29 (by repeat (first | exact Z0 | apply Sel.there)) (by rfl) (by rfl)) ?_
  refine pw_q rfl rfl rfl rfl (oq_pv (pv_move rfl)) ?_
  refine pw_q rfl rfl rfl rfl (oq_pv (pv_nilCheck rfl)) ?_
  refine pw_q rfl rfl rfl rfl (oq_pv (pv_fieldAddr (k := 16) rfl Tryz.runUnderlying168 rfl Tryz.sizeOf4 rfl rfl)) ?_
  refine pw_q rfl rfl rfl rfl (oq_load rfl rfl Tryz.isAgg4 (by repeat (first | exact Z0 | apply Sel.there)) (by rfl) (by rfl)) ?_
  refine pw_q rfl rfl rfl rfl (oq_pv (pv_move rfl)) ?_
  refine pw_q rfl rfl rfl rfl (oq_pv (pv_nilCheck rfl)) ?_
  refine pw_q rfl rfl rfl rfl (oq_pv (pv_fieldAddr (k := 17) rfl Tryz.runUnderlying168 rfl Tryz.sizeOf54 rfl rfl)) ?_
  refine pw_q rfl rfl rfl rfl (oq_load rfl rfl Tryz.isAgg54 (by repeat (first | exact Z0 | apply Sel.there)) (by rfl) (by rfl)) ?_
  refine pw_e rfl rfl rfl rfl (ot_call rfl Tryz.call35 (vs := [_]) rfl (by repeat (first | exact Sees.refl | (apply Sees.cons; (focus ((repeat (first | exact Z0 | apply Sel.there)); done))) | apply Sees.skip)) (cloneBytes _ (own 1 mp s.data.length mc (byteC s.data)) _ _ _ _ rd_own (plain_byteC _) (by omega) _)) ?_
  rintro _ _ ⟨p1, c1, rfl, rfl⟩
  refine ⟨[own 1 p1 _ _ _, row b2 0 _], by repeat (first | exact Sees.refl | (apply Sees.cons; (focus ((repeat (first | exact Z0 | apply Sel.there)); done))) | apply Sees.skip), ?_⟩
  refine pw_q rfl rfl rfl rfl (oq_pv (pv_build (ps := [(0, _), (1, _)]) (cs := [_, _]) rfl Tryz.zeroValue74 Tryz.runUnderlying74 (.cons Tryz.sizeOf21 (.cons Tryz.sizeOf29 (.nil))) rfl)) ?_
  refine pw_e0 rfl rfl rfl (ot_store rfl rfl rfl Tryz.sizeOf74 (by repeat (first | exact Z0 | apply Sel.there)) (rfl : _ = [_, _]) rfl (by rfl) (by rfl) (by first | rfl | assumption) (by exact (rfl : _ = _ :: _ :: _))) ?_
  rintro _ _ rfl
  refine ⟨[row b2 0 _, own 1 p1 _ _ _], by repeat (first | exact Sees.refl | (apply Sees.cons; (focus ((repeat (first | exact Z0 | apply Sel.there)); done))) | apply Sees.skip), ?_⟩
  refine pw_q rfl rfl rfl rfl (oq_pv (pv_assign rfl)) ?_
  refine pw_q rfl rfl rfl rfl (oq_pv (pv_assign rfl)) ?_
  refine pw_nil ?_
  refine Kx3 2 3 4 rfl ?_
  refine ct_ret ?_
  exact fin_ret (RVs.agg (us := [_, _]) rfl Tryz.isAgg74 Tryz.sizeOf74 (by repeat (first | exact Z0 | apply Sel.there)) (by rfl) (by rfl) (by rfl) (RVs.tmp rfl (RVs.tmp rfl (RVs.nil)))) Tryz.results98 (⟨_, _, rfl, rfl⟩) (by repeat (first | exact Sees.refl | (apply Sees.cons; (focus ((repeat (first | exact Z0 | apply Sel.there)); done))) | apply Sees.skip))
theorem hstate_raw (ω : World) (b : Nat) (s : HS) (mp : Option Addr) (mc : Nat) (F : List HP)  : Spec ω Tryz.prog 99 #[.pointer (some ⟨b, 0, none⟩)] (row b 0 [.int .i64 0, .int .i64 0, .int .i64 0, .int .u64 0, .int .u64 0, .slice none 0 0, .nilFunc, .int .i64 s.base, .int .i64 s.size, .int .i64 s.cur, .int .i64 s.nxt, .int .i64 s.lap, .int .u64 s.cursor, .int .i64 s.pads, .int .i32 s.mt, .slice mp s.data.length mc, .bool s.heard, .int .i64 s.e] :: F) fun v' H' => v' = .agg #[.int .i64 s.cur, .int .i64 s.nxt, .int .i64 s.lap] ∧ H' = row b 0 [.int .i64 0, .int .i64 0, .int .i64 0, .int .u64 0, .int .u64 0, .slice none 0 0, .nilFunc, .int .i64 s.base, .int .i64 s.size, .int .i64 s.cur, .int .i64 s.nxt, .int .i64 s.lap, .int .u64 s.cursor, .int .i64 s.pads, .int .i32 s.mt, .slice mp s.data.length mc, .bool s.heard, .int .i64 s.e] :: F := by
  refine spec_of_body Tryz.func99 rfl Tryz.ntmps99 rfl ?_
  refine Cr ?_
  refine Ro rfl (ot_alloc rfl Tryz.zeroValue25 (rfl : _ = [_, _, _])) ?_
  rintro _ _ ⟨b2, rfl, rfl⟩
  refine Kn2 0 2 rfl ?_
  refine ct_seq ?_
  refine Cr ?_
  refine Rp rfl (pv_move rfl) ?_
  refine Rp rfl (pv_eql rfl rfl Tryz.runUnderlying96 rfl) ?_
  refine Kn3 0 2 4 rfl ?_
  refine ct_false rfl ?_
  refine ct_skip ?_
  refine Kx2 0 2 rfl ?_
  refine Cr ?_
  refine Rp rfl (pv_move rfl) ?_
  refine Rp rfl (pv_nilCheck rfl) ?_
  refine Rp rfl (pv_fieldAddr (k := 9) rfl Tryz.runUnderlying168 rfl Tryz.sizeOf25 rfl rfl) ?_
  refine Rq rfl (oq_loadAgg (us := [_, _, _]) rfl rfl Tryz.isAgg25 Tryz.sizeOf25 (by repeat (first | exact Z0 | apply Sel.there)) (by rfl) (by rfl) (by rfl)) ?_
  refine rl_op0 rfl rfl (ot_store rfl rfl rfl Tryz.sizeOf25 (by repeat (first | exact Z0 | apply Sel.there)) (rfl : _ = [_, _, _]) rfl (by rfl) (by rfl) (by first | rfl | assumption) (by exact (rfl : _ = _ :: _ :: _ :: _))) ?_
  rintro _ _ rfl
  refine Kn1 2 rfl ?_
  refine ct_ret ?_
  exact fin_ret (RVs.agg (us := [_, _, _]) rfl Tryz.isAgg25 Tryz.sizeOf25 (by repeat (first | exact Z0 | apply Sel.there)) (by rfl) (by rfl) (by rfl) (RVs.nil)) Tryz.results99 (⟨rfl, rfl⟩) (by repeat (first | exact Sees.refl | (apply Sees.cons; (focus ((repeat (first | exact Z0 | apply Sel.there)); done))) | apply Sees.skip))
end Go.Proofs.YtnjljfjncfbinaaGreat
