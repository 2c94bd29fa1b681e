/- Contracts: the document's tape. -/
import Derived.Test.YtnjljfjncfbinaaGreatSq
import Derived.Test.YtnjljfjncfbinaaGreatFi
set_option linter.all false
namespace Go.Proofs.YtnjljfjncfbinaaGreat
open Go Go.Proofs
set_option maxRecDepth 100000
set_option linter.unusedVariables false

abbrev TL := List (Ans × Option Addr × Nat)
def tcells (l : TL) : List Value := l.flatMap fun x => [.int .u64 x.1.v, .bool x.1.d, .slice x.2.1 x.1.data.length x.2.2]
def told (l : TL) : List Ans := l.map (·.1)
structure Told (ω : World) (X : HP) (tp : Option Addr) (L : TL) : Prop where
  hr : Rd ω X 3 tp L.length (tcells L)
  hi : ∀ (i : Nat) (x : Ans × Option Addr × Nat), L[i]? = some x → Rd ω X 1 x.2.1 x.1.data.length (byteC x.1.data)
  hu : ∀ (i : Nat) (x : Ans × Option Addr × Nat), L[i]? = some x → inK .u64 x.1.v
  hl : L.length ≤ 1000000
  hB : ∀ (i : Nat) (x : Ans × Option Addr × Nat), L[i]? = some x → x.1.data.length ≤ 1000000
structure TS where
  rest : List Ans
  k : Nat
  want : Acc
  ends : Bool
def TS.hd (t : TS) : Ans := match t.rest with
  | [] => ⟨0, false, []⟩
  | y :: _ => y
def TS.ok (t : TS) : Bool := match t.rest with
  | [] => false
  | _ :: _ => true
def TS.do (t : TS) (a : Acc) : TS := match t.rest with
  | [] => { t with want := a, ends := true }
  | _ :: r => { t with rest := r, k := t.k + 1 }
structure TOk (L : TL) (t : TS) : Prop where
  hd : (told L).drop t.k = t.rest
  hk : t.k ≤ L.length
  he : t.ends = false
theorem TOk.next {L : TL} {t : TS} (h : TOk L t) (hok : t.ok = true) (a : Acc) : TOk L (t.do a) := by
  obtain ⟨rest, k, want, ends⟩ := t
  cases rest with
  | nil => cases hok
  | cons y r =>
    have hd := h.hd
    have hk := h.hk
    dsimp only at hd hk
    have hlt : k < L.length := by
      rcases Nat.lt_or_ge k L.length with h' | h'
      · exact h'
      · rw [List.drop_eq_nil_of_le (by simp [told]; omega)] at hd; cases hd
    refine ⟨?_, ?_, h.he⟩
    · show (told L).drop (k + 1) = r
      have := congrArg List.tail hd
      simpa using this
    · show k + 1 ≤ L.length; omega
theorem TOk.hd_in {ω : World} {X : HP} {tp : Option Addr} {L : TL} {t : TS} (h : TOk L t) (ht : Told ω X tp L) : inK .u64 t.hd.v := by
  obtain ⟨rest, k, want, ends⟩ := t
  cases rest with
  | nil => exact ⟨Int.le_refl 0, by show (0 : Int) ≤ 18446744073709551615; omega⟩
  | cons y r =>
    have hd := h.hd
    dsimp only at hd
    have h1 : (told L)[k]? = some y := by have := congrArg (·[0]?) hd; simpa using this
    simp only [told, List.getElem?_map, Option.map_eq_some_iff] at h1
    obtain ⟨x, hx, rfl⟩ := h1
    exact ht.hu k x hx
theorem tcells_get : ∀ (l : TL) (i : Nat) (x : Ans × Option Addr × Nat), l[i]? = some x → ((tcells l).drop (i * 3)).take 3 = [.int .u64 x.1.v, .bool x.1.d, .slice x.2.1 x.1.data.length x.2.2] := by
  intro l
  induction l with
  | nil => intro i x h; simp at h
  | cons y l ih =>
    intro i x h
    cases i with
    | zero => simp at h; subst h; simp [tcells]
    | succ i =>
      have e : tcells (y :: l) = [.int .u64 y.1.v, .bool y.1.d, .slice y.2.1 y.1.data.length y.2.2] ++ tcells l := by simp [tcells]
      rw [e, show (i + 1) * 3 = 3 + i * 3 from by omega, ← List.drop_drop]
      exact ih i x (by simpa using h)
theorem told_drop {L : TL} {k : Nat} {rest : List Ans} (hd : (told L).drop k = rest) (hk : k < L.length) : ∃ x r', L[k]? = some x ∧ rest = x.1 :: r' := by
  refine ⟨L[k], (told L).drop (k + 1), List.getElem?_eq_getElem hk, ?_⟩
  rw [← hd, List.drop_eq_getElem_cons (by simp [told]; exact hk)]
  simp [told]
theorem oq_loadAggRd {ω : World} {P : Program} {E : Env} {S S' : List HP} {o : Oper} {T : TypeId} {x : Operand} {b off k j es n m : Nat} {us xs : List Value} {ch : HP} (ho : o.op = .load T x) (hx : ev E x = some (.pointer (some ⟨b, k, none⟩)))
    (hT : ∀ w, (isAgg T).run P w = .ok true w) (hs : ∀ w, (sizeOf T).run P w = .ok m w) (hr : Rd ω ch es (some ⟨b, off, none⟩) n xs) (s : Sel S ch S') (hk : k = off + j) (hv : (xs.drop j).take m = us) (hn : us.length = m) : OQ ω P o E S (.agg us.toArray) :=
  oq_loadAgg_of ho hx hT hs hr.reads s (by subst hk; exact Nat.ble_eq_true_of_le (by omega)) (by subst hk; rw [show off + j - off = j from by omega]; exact hv) hn
theorem tdo_spec (ω : World) (tb : Nat) (tp : Option Addr) (tc : Nat) (L : TL) (X : HP) (ht : Told ω X tp L) (t : TS) (htk : TOk L t) (a : Acc) (F : List HP)  : Spec ω Tryz.prog 108 #[.pointer (some ⟨tb, 0, none⟩), .agg #[.int .i64 a.k, .int .i64 a.at_, .int .i64 a.n, .int .u64 a.v, .int .u64 a.w, .slice a.p a.m a.c]] (row tb 0 [.slice tp L.length tc, .int .i64 (t.k : Int), .int .i64 t.want.k, .int .i64 t.want.at_, .int .i64 t.want.n, .int .u64 t.want.v, .int .u64 t.want.w, .slice t.want.p t.want.m t.want.c, .bool t.ends] :: X :: F) fun v' H' => ∃ p c, v' = .tuple #[.agg #[.int .u64 t.hd.v, .bool t.hd.d, .slice p t.hd.data.length c], .bool t.ok] ∧ Rd ω X 1 p t.hd.data.length (byteC t.hd.data) ∧ H' = row tb 0 [.slice tp L.length tc, .int .i64 ((t.do a).k : Int), .int .i64 (t.do a).want.k, .int .i64 (t.do a).want.at_, .int .i64 (t.do a).want.n, .int .u64 (t.do a).want.v, .int .u64 (t.do a).want.w, .slice (t.do a).want.p (t.do a).want.m (t.do a).want.c, .bool (t.do a).ends] :: X :: F := by
  refine spec_of_body Tryz.func108 rfl Tryz.ntmps108 rfl ?_
  obtain ⟨rest, k, want, ends⟩ := t
  obtain ⟨hd, hk, he⟩ := htk
  dsimp only at hd hk he ⊢
  subst he
  have hll := ht.hl
  refine Cr ?_
  refine Ro rfl (ot_box rfl rfl (rfl : _ = [_, _, _, _, _, _])) ?_
  rintro _ _ ⟨b3, rfl, rfl⟩
  refine Ro rfl (ot_alloc rfl Tryz.zeroValue31 (rfl : _ = [_, _, _])) ?_
  rintro _ _ ⟨b4, rfl, rfl⟩
  refine Rp rfl (pv_assign rfl) ?_
  refine Kn3 0 3 4 rfl ?_
  refine ct_seq ?_
  refine Cr ?_
  refine Rp rfl (pv_move rfl) ?_
  refine Rp rfl (pv_nilCheck rfl) ?_
  refine Rp rfl (pv_fieldAddr (k := 8) rfl Tryz.runUnderlying38 rfl Tryz.sizeOf4 rfl rfl) ?_
  refine Rq rfl (oq_load rfl rfl Tryz.isAgg4 (by repeat (first | exact Z0 | apply Sel.there)) (by rfl) (by rfl)) ?_
  refine Kn4 0 3 4 9 rfl ?_
  refine ct_false rfl ?_
  refine ct_skip ?_
  refine Kx3 0 3 4 rfl ?_
  refine ct_seq ?_
  refine ct_seq ?_
  refine ct_planH [.q 0, .q 1, .q 2, .q 3, .q 4, .q 5, .q 6, .q 7, .q 8, .q 9] mixed (by decide +kernel) ?_
  refine pw_q rfl rfl rfl rfl (oq_pv (pv_move rfl)) ?_
  refine pw_q rfl rfl rfl rfl (oq_pv (pv_nilCheck rfl)) ?_
  refine pw_q rfl rfl rfl rfl (oq_pv (pv_fieldAddr (k := 1) rfl Tryz.runUnderlying38 rfl Tryz.sizeOf3 rfl rfl)) ?_
  refine pw_q rfl rfl rfl rfl (oq_load rfl rfl Tryz.isAgg3 (by repeat (first | exact Z0 | apply Sel.there)) (by rfl) (by rfl)) ?_
  refine pw_q rfl rfl rfl rfl (oq_pv (pv_move rfl)) ?_
  refine pw_q rfl rfl rfl rfl (oq_pv (pv_nilCheck rfl)) ?_
  refine pw_q rfl rfl rfl rfl (oq_pv (pv_fieldAddr (k := 0) rfl Tryz.runUnderlying38 rfl Tryz.sizeOf26 rfl rfl)) ?_
  refine pw_q rfl rfl rfl rfl (oq_load rfl rfl Tryz.isAgg26 (by repeat (first | exact Z0 | apply Sel.there)) (by rfl) (by rfl)) ?_
  refine pw_q rfl rfl rfl rfl (oq_pv (pv_len_slice rfl rfl Tryz.runUnderlying26)) ?_
  refine pw_q rfl rfl rfl rfl (oq_pv (pv_bin rfl rfl rfl)) ?_
  refine pw_done ?_
  refine Kx4 0 3 4 20 rfl ?_
  first | refine ct_cond_d rfl (fun h20 => ?_) (fun h20 => ?_) | refine ct_cond_n rfl (fun h20 => ?_) (fun h20 => ?_) | refine ct_cond_b rfl (fun h20 => ?_) (fun h20 => ?_) | refine ct_cond rfl (fun h20 => ?_) (fun h20 => ?_)
  · have hrest : rest = [] := by rw [← hd]; exact List.drop_eq_nil_of_le (by simp [told]; omega)
    subst hrest
    refine Cr ?_
    refine Rp rfl (pv_move rfl) ?_
    refine Rq rfl (oq_loadAgg (us := [_, _, _, _, _, _]) rfl rfl Tryz.isAgg36 Tryz.sizeOf36 (by repeat (first | exact Z0 | apply Sel.there)) (by rfl) (by rfl) (by rfl)) ?_
    refine Rp rfl (pv_nilCheck rfl) ?_
    refine Rp rfl (pv_fieldAddr (k := 2) rfl Tryz.runUnderlying38 rfl Tryz.sizeOf36 rfl rfl) ?_
    refine rl_op0 rfl rfl (ot_store rfl rfl rfl Tryz.sizeOf36 (by repeat (first | exact Z0 | apply Sel.there)) (rfl : _ = [_, _, _, _, _, _]) rfl (by rfl) (by rfl) (by first | rfl | assumption) (by exact (rfl : _ = _ :: _ :: _ :: _ :: _ :: _ :: _ :: _ :: _))) ?_
    rintro _ _ rfl
    refine Kn2 0 4 rfl ?_
    refine Cr ?_
    refine Rp rfl (pv_move rfl) ?_
    refine Rp rfl (pv_nilCheck rfl) ?_
    refine Rp rfl (pv_fieldAddr (k := 8) rfl Tryz.runUnderlying38 rfl Tryz.sizeOf4 rfl rfl) ?_
    refine rl_op0 rfl rfl (ot_store rfl rfl rfl Tryz.sizeOf4 (by repeat (first | exact Z0 | apply Sel.there)) (rfl : _ = [_]) rfl (by rfl) (by rfl) (by first | rfl | assumption) (by exact (rfl : _ = _ :: _ :: _ :: _ :: _ :: _ :: _ :: _ :: _ :: _))) ?_
    rintro _ _ rfl
    refine Kn1 4 rfl ?_
    refine Cr ?_
    refine Rp rfl (pv_build (ps := []) (cs := [_, _, _]) rfl Tryz.zeroValue31 Tryz.runUnderlying31 (.cons Tryz.sizeOf28 (.cons Tryz.sizeOf4 (.cons Tryz.sizeOf29 (.nil)))) rfl) ?_
    refine rl_op0 rfl rfl (ot_store rfl rfl rfl Tryz.sizeOf31 (by repeat (first | exact Z0 | apply Sel.there)) (rfl : _ = [_, _, _]) rfl (by rfl) (by rfl) (by first | rfl | assumption) (by exact (rfl : _ = _ :: _ :: _ :: _))) ?_
    rintro _ _ rfl
    refine Rp rfl (pv_assign rfl) ?_
    refine Kn2 4 5 rfl ?_
    refine ct_ret ?_
    refine xt_ret_then ?_
    exact fin_ret (RVs.agg (us := [_, _, _]) rfl Tryz.isAgg31 Tryz.sizeOf31 (by repeat (first | exact Z0 | apply Sel.there)) (by rfl) (by rfl) (by rfl) (RVs.tmp rfl (RVs.nil))) Tryz.results108 (⟨none, 0, rfl, rd_nil, rfl⟩) (by repeat (first | exact Sees.refl | (apply Sees.cons; (focus ((repeat (first | exact Z0 | apply Sel.there)); done))) | apply Sees.skip))
  · obtain ⟨x, r', hx, hr'⟩ := told_drop hd (by omega)
    subst hr'
    refine ct_rdsome ht.hr (by repeat (first | exact Z0 | apply Sel.there)) (by omega) (fun b0 o0 hp0 => ?_)
    subst hp0
    refine ct_skip ?_
    refine Kx2 0 4 rfl ?_
    refine Cr ?_
    refine Rp rfl (pv_move rfl) ?_
    refine Rp rfl (pv_move rfl) ?_
    refine Rp rfl (pv_nilCheck rfl) ?_
    refine Rp rfl (pv_fieldAddr (k := 1) rfl Tryz.runUnderlying38 rfl Tryz.sizeOf3 rfl rfl) ?_
    refine Rq rfl (oq_load rfl rfl Tryz.isAgg3 (by repeat (first | exact Z0 | apply Sel.there)) (by rfl) (by rfl)) ?_
    refine Rp rfl (pv_add rfl rfl ⟨by omega, by omega⟩) ?_
    refine Rp rfl (pv_nilCheck rfl) ?_
    refine Rp rfl (pv_fieldAddr (k := 1) rfl Tryz.runUnderlying38 rfl Tryz.sizeOf3 rfl rfl) ?_
    refine rl_op0 rfl rfl (ot_store rfl rfl rfl Tryz.sizeOf3 (by repeat (first | exact Z0 | apply Sel.there)) (rfl : _ = [_]) rfl (by rfl) (by rfl) (by first | rfl | assumption) (by exact (rfl : _ = _ :: _ :: _))) ?_
    rintro _ _ rfl
    refine Kn2 0 4 rfl ?_
    refine ct_seq ?_
    refine ct_planH [.q 0, .q 1, .q 2, .q 3, .q 4, .q 5, .q 6, .q 7, .q 8, .q 9, .q 10, .b 11, .q 12] mixed (by decide +kernel) ?_
    refine pw_q rfl rfl rfl rfl (oq_pv (pv_move rfl)) ?_
    refine pw_q rfl rfl rfl rfl (oq_pv (pv_nilCheck rfl)) ?_
    refine pw_q rfl rfl rfl rfl (oq_pv (pv_fieldAddr (k := 0) rfl Tryz.runUnderlying38 rfl Tryz.sizeOf26 rfl rfl)) ?_
    refine pw_q rfl rfl rfl rfl (oq_load rfl rfl Tryz.isAgg26 (by repeat (first | exact Z0 | apply Sel.there)) (by rfl) (by rfl)) ?_
    refine pw_q rfl rfl rfl rfl (oq_pv (pv_move rfl)) ?_
    refine pw_q rfl rfl rfl rfl (oq_pv (pv_nilCheck rfl)) ?_
    refine pw_q rfl rfl rfl rfl (oq_pv (pv_fieldAddr (k := 1) rfl Tryz.runUnderlying38 rfl Tryz.sizeOf3 rfl rfl)) ?_
    refine pw_q rfl rfl rfl rfl (oq_load rfl rfl Tryz.isAgg3 (by repeat (first | exact Z0 | apply Sel.there)) (by rfl) (by rfl)) ?_
    refine pw_q rfl rfl rfl rfl (oq_pv (pv_sub rfl rfl ⟨by omega, by omega⟩)) ?_
    refine pw_q rfl rfl rfl rfl (oq_pv (pv_indexAddrN (j := k) rfl rfl Tryz.runUnderlying26 Tryz.sizeOf31 (by omega) (by omega))) ?_
    refine pw_q rfl rfl rfl rfl (oq_loadAggRd (j := k * 3) (us := [_, _, _]) rfl rfl Tryz.isAgg31 Tryz.sizeOf31 ht.hr (by repeat (first | exact Z0 | apply Sel.there)) (by omega) (tcells_get L k x hx) (by rfl)) ?_
    refine pw_b0 rfl rfl rfl (ot_store rfl rfl rfl Tryz.sizeOf31 (by repeat (first | exact Z0 | apply Sel.there)) (rfl : _ = [_, _, _]) rfl (by rfl) (by rfl) (by first | rfl | assumption) (by exact (rfl : _ = _ :: _ :: _ :: _))) ?_
    rintro _ _ rfl
    refine pw_q rfl rfl rfl rfl (oq_pv (pv_assign rfl)) ?_
    refine pw_done ?_
    refine Kx2 4 5 rfl ?_
    refine ct_ret ?_
    exact fin_ret (RVs.agg (us := [_, _, _]) rfl Tryz.isAgg31 Tryz.sizeOf31 (by repeat (first | exact Z0 | apply Sel.there)) (by rfl) (by rfl) (by rfl) (RVs.tmp rfl (RVs.nil))) Tryz.results108 (⟨_, _, rfl, ht.hi k x hx, rfl⟩) (by repeat (first | exact Sees.refl | (apply Sees.cons; (focus ((repeat (first | exact Z0 | apply Sel.there)); done))) | apply Sees.skip))
theorem TOk.hd_len {ω : World} {X : HP} {tp : Option Addr} {L : TL} {t : TS} (h : TOk L t) (ht : Told ω X tp L) : t.hd.data.length ≤ 1000000 := by
  obtain ⟨rest, k, want, ends⟩ := t
  cases rest with
  | nil => show ([] : List UInt8).length ≤ _; simp
  | cons y r =>
    have hd := h.hd
    dsimp only at hd
    have h1 : (told L)[k]? = some y := by have := congrArg (·[0]?) hd; simpa using this
    simp only [told, List.getElem?_map, Option.map_eq_some_iff] at h1
    obtain ⟨x, hx, rfl⟩ := h1
    exact ht.hB k x hx
def loadA (at_ : Int) : Acc := ⟨1, at_, 8, 0, 0, none, 0, 0⟩
def readA (at_ n : Int) : Acc := ⟨5, at_, n, 0, 0, none, 0, 0⟩
theorem tload_spec (ω : World) (tb : Nat) (tp : Option Addr) (tc : Nat) (L : TL) (X : HP) (ht : Told ω X tp L) (t : TS) (htk : TOk L t) (at_ : Int) (F : List HP)  : Spec ω Tryz.prog 61 #[.pointer (some ⟨tb, 0, none⟩), .int .i64 at_, .int .i64 8] (row tb 0 [.slice tp L.length tc, .int .i64 (t.k : Int), .int .i64 t.want.k, .int .i64 t.want.at_, .int .i64 t.want.n, .int .u64 t.want.v, .int .u64 t.want.w, .slice t.want.p t.want.m t.want.c, .bool t.ends] :: X :: F) fun v' H' => v' = .tuple #[.int .u64 t.hd.v, .bool t.ok] ∧ H' = row tb 0 [.slice tp L.length tc, .int .i64 ((t.do (loadA at_)).k : Int), .int .i64 (t.do (loadA at_)).want.k, .int .i64 (t.do (loadA at_)).want.at_, .int .i64 (t.do (loadA at_)).want.n, .int .u64 (t.do (loadA at_)).want.v, .int .u64 (t.do (loadA at_)).want.w, .slice (t.do (loadA at_)).want.p (t.do (loadA at_)).want.m (t.do (loadA at_)).want.c, .bool (t.do (loadA at_)).ends] :: X :: F := by
  refine spec_of_body Tryz.func61 rfl Tryz.ntmps61 rfl ?_
  refine Cr ?_
  refine Rp rfl (pv_assign rfl) ?_
  refine Rp rfl (pv_assign rfl) ?_
  refine Kn3 0 1 2 rfl ?_
  refine Cr ?_
  refine Rp rfl (pv_move rfl) ?_
  refine Rp rfl (pv_move rfl) ?_
  refine Rp rfl (pv_move rfl) ?_
  refine Rp rfl (pv_build (ps := [(0, _), (1, _), (2, _)]) (cs := [_, _, _, _, _, _]) rfl Tryz.zeroValue36 Tryz.runUnderlying36 (.cons Tryz.sizeOf3 (.cons Tryz.sizeOf3 (.cons Tryz.sizeOf3 (.cons Tryz.sizeOf28 (.cons Tryz.sizeOf28 (.cons Tryz.sizeOf29 (.nil))))))) rfl) ?_
  refine Ro rfl (ot_call rfl Tryz.call108 (vs := [_, _]) rfl (by repeat (first | exact Sees.refl | (apply Sees.cons; (focus ((repeat (first | exact Z0 | apply Sel.there)); done))) | apply Sees.skip)) (tdo_spec _ _ _ _ L X ht t htk (loadA at_) _)) ?_
  rintro _ _ ⟨p15, c15, rfl, hrd, rfl⟩
  refine Rp rfl (pv_move rfl) ?_
  refine Rp rfl (pv_extract rfl rfl) ?_
  refine Rp rfl (pv_extract rfl rfl) ?_
  refine Ro rfl (ot_alloc rfl Tryz.zeroValue31 (rfl : _ = [_, _, _])) ?_
  rintro _ _ ⟨b8, rfl, rfl⟩
  refine rl_op0 rfl rfl (ot_store rfl rfl rfl Tryz.sizeOf31 (by repeat (first | exact Z0 | apply Sel.there)) (rfl : _ = [_, _, _]) rfl (by rfl) (by rfl) (by first | rfl | assumption) (by exact (rfl : _ = _ :: _ :: _ :: _))) ?_
  rintro _ _ rfl
  refine Rp rfl (pv_assign rfl) ?_
  refine Kn2 8 9 rfl ?_
  refine Cr ?_
  refine Rp rfl (pv_fieldAddr (k := 0) rfl Tryz.runUnderlying31 rfl Tryz.sizeOf28 rfl rfl) ?_
  refine Rq rfl (oq_load rfl rfl Tryz.isAgg28 (by repeat (first | exact Z0 | apply Sel.there)) (by rfl) (by rfl)) ?_
  refine Rp rfl (pv_move rfl) ?_
  refine Rp rfl (pv_assign rfl) ?_
  refine Rp rfl (pv_assign rfl) ?_
  refine Kn2 6 7 rfl ?_
  refine ct_ret ?_
  exact fin_ret (RVs.tmp rfl (RVs.tmp rfl (RVs.nil))) Tryz.results61 (⟨rfl, rfl⟩) (by repeat (first | exact Sees.refl | (apply Sees.cons; (focus ((repeat (first | exact Z0 | apply Sel.there)); done))) | apply Sees.skip))
def toutF : Nat → TS → Int → Int → List UInt8 → TS × Bool × List UInt8
  | 0, t, _, _, h => (t, true, h)
  | f + 1, t, at_, n, h => if n < 1 then (t, true, h) else if t.ok = true then toutF f (t.do (readA at_ (chunk n))) (at_ + chunk n) (n - chunk n) (h ++ t.hd.data) else (t.do (readA at_ (chunk n)), false, h)
theorem toutF_fuel : ∀ (f g : Nat) (t : TS) (at_ n : Int) (h : List UInt8), n.toNat ≤ f → n.toNat ≤ g → toutF f t at_ n h = toutF g t at_ n h := by
  intro f
  induction f with
  | zero =>
    intro g t at_ n h hf _
    cases g with
    | zero => rfl
    | succ g => simp only [toutF]; rw [if_pos (by omega)]
  | succ f ih =>
    intro g t at_ n h hf hg
    cases g with
    | zero => simp only [toutF]; rw [if_pos (by omega)]
    | succ g =>
      simp only [toutF]
      split
      · rfl
      · rename_i hn
        have := chunk_in n (by omega)
        rw [ih g _ _ (n - chunk n) _ (by omega) (by omega)]
/-- Bytes read of a tape. -/
def tout (t : TS) (at_ n : Int) (h : List UInt8) : TS × Bool × List UInt8 := toutF n.toNat t at_ n h
theorem tout_end {t : TS} {at_ n : Int} {h : List UInt8} (hn : n < 1) : tout t at_ n h = (t, true, h) := by unfold tout; rw [show n.toNat = 0 from by omega]; rfl
theorem tout_step {t : TS} {at_ n : Int} {h : List UInt8} (hn : 1 ≤ n) (ho : t.ok = true) : tout t at_ n h = tout (t.do (readA at_ (chunk n))) (at_ + chunk n) (n - chunk n) (h ++ t.hd.data) := by
  have hc := chunk_in n hn
  unfold tout
  rw [show n.toNat = (n.toNat - 1) + 1 from by omega]
  simp only [toutF]
  rw [if_neg (by omega), if_pos ho]
  exact toutF_fuel _ _ _ _ _ _ (by omega) (by omega)
theorem tout_stop {t : TS} {at_ n : Int} {h : List UInt8} (hn : 1 ≤ n) (ho : t.ok = false) : tout t at_ n h = (t.do (readA at_ (chunk n)), false, h) := by
  unfold tout
  rw [show n.toNat = (n.toNat - 1) + 1 from by omega]
  simp only [toutF]
  rw [if_neg (by omega), if_neg (by simp [ho])]
theorem TS.do_k {t : TS} (h : t.ok = true) (a : Acc) : (t.do a).k = t.k + 1 := by
  obtain ⟨rest, k, want, ends⟩ := t
  cases rest with
  | nil => cases h
  | cons y r => rfl
/-- The state of a loop that reads bytes. -/
structure OQq where
  t : TS
  at_ : Int
  n : Int
  h : List UInt8
  i : Nat
  p : Option Addr
  c : Nat
structure OQok (L : TL) (n : Int) (goal : TS × Bool × List UInt8) (q : OQq) : Prop where
  hg : tout q.t q.at_ q.n q.h = goal
  hi : (chl n).drop q.i = chl q.n
  ht : TOk L q.t
  ha : 0 ≤ q.at_ ∧ q.at_ + q.n ≤ 1099511627776
  hn : q.n ≤ n
  hh : q.h.length ≤ 1000000 * q.t.k
  hle : q.i ≤ (chl n).length
theorem OQok.next {ω : World} {X : HP} {tp : Option Addr} {L : TL} {n : Int} {goal : TS × Bool × List UInt8} {q : OQq} (h : OQok L n goal q) (hT : Told ω X tp L) (h1 : 1 ≤ q.n) (hlt : q.i < (chl n).length) (ho : q.t.ok = true) (p : Option Addr) (c : Nat) :
    OQok L n goal ⟨q.t.do (readA q.at_ (chunk q.n)), q.at_ + chunk q.n, q.n - chunk q.n, q.h ++ q.t.hd.data, q.i + 1, p, c⟩ := by
  have hc := chunk_in q.n h1
  refine ⟨?_, ?_, h.ht.next ho _, ?_, ?_, ?_, hlt⟩
  · rw [← h.hg, tout_step h1 ho]
  · have := congrArg List.tail h.hi
    rw [chl_cons h1] at this
    simpa using this
  · have := h.ha; dsimp only; omega
  · have := h.hn; dsimp only; omega
  · have := h.hh
    have h2 := h.ht.hd_len hT
    dsimp only
    rw [TS.do_k ho, List.length_append]
    omega
theorem OQok.some {L : TL} {n : Int} {goal : TS × Bool × List UInt8} {q : OQq} (h : OQok L n goal q) (hlt : q.i < (chl n).length) : 1 ≤ q.n ∧ (chl n)[q.i]? = some (chunk q.n) := by
  have h1 : 1 ≤ q.n := by
    rcases Int.lt_or_le q.n 1 with h' | h'
    · have := h.hi; rw [chl_nil h'] at this; have := congrArg List.length this; simp at this; omega
    · exact h'
  refine ⟨h1, ?_⟩
  have := congrArg (·[0]?) h.hi
  rw [chl_cons h1] at this
  simpa using this
theorem OQok.none {L : TL} {n : Int} {goal : TS × Bool × List UInt8} {q : OQq} (h : OQok L n goal q) (hge : (chl n).length ≤ q.i) : goal = (q.t, true, q.h) := by
  have h1 : q.n < 1 := by
    rcases Int.lt_or_le q.n 1 with h' | h'
    · exact h'
    · have := h.hi; rw [chl_cons h', List.drop_eq_nil_of_le hge] at this; cases this
  rw [← h.hg, tout_end h1]
theorem tout_spec (ω : World) (tb : Nat) (tp : Option Addr) (tc : Nat) (L : TL) (X : HP) (ht : Told ω X tp L) (t : TS) (htk : TOk L t) (at_ n : Int) (h1 : n ≤ 131072) (h0 : -9223372036854775808 ≤ n) (ha : 0 ≤ at_ ∧ at_ ≤ 1073741824) (goal : TS × Bool × List UInt8) (hg : tout t at_ n [] = goal) (F : List HP)  : Spec ω Tryz.prog 66 #[.pointer (some ⟨tb, 0, none⟩), .int .i64 at_, .int .i64 n] (row tb 0 [.slice tp L.length tc, .int .i64 (t.k : Int), .int .i64 t.want.k, .int .i64 t.want.at_, .int .i64 t.want.n, .int .u64 t.want.v, .int .u64 t.want.w, .slice t.want.p t.want.m t.want.c, .bool t.ends] :: X :: F) fun v' H' => ∃ p c, v' = .tuple #[.slice p goal.2.2.length c, .bool goal.2.1] ∧ H' = own 1 p goal.2.2.length c (byteC goal.2.2) :: row tb 0 [.slice tp L.length tc, .int .i64 (goal.1.k : Int), .int .i64 goal.1.want.k, .int .i64 goal.1.want.at_, .int .i64 goal.1.want.n, .int .u64 goal.1.want.v, .int .u64 goal.1.want.w, .slice goal.1.want.p goal.1.want.m goal.1.want.c, .bool goal.1.ends] :: X :: F := by
  refine spec_of_body Tryz.func66 rfl Tryz.ntmps66 rfl ?_
  have hcl := chl_len n
  refine Cr ?_
  refine Rp rfl (pv_assign rfl) ?_
  refine Rp rfl (pv_assign rfl) ?_
  refine Kn3 0 1 2 rfl ?_
  refine Cr ?_
  refine Rp rfl (pv_assign rfl) ?_
  refine Kn4 0 1 2 8 rfl ?_
  refine ct_seq ?_
  refine Cr ?_
  refine Rp rfl (pv_move rfl) ?_
  refine Ro rfl (ot_call rfl Tryz.call110 (vs := [_]) rfl (by repeat (first | exact Sees.refl | (apply Sees.cons; (focus ((repeat (first | exact Z0 | apply Sel.there)); done))) | apply Sees.skip)) (rchunks_spec _ n h1 h0 _)) ?_
  rintro _ _ ⟨p14, c14, rfl, rfl⟩
  refine Rp rfl (pv_len_slice rfl rfl Tryz.runUnderlying134) ?_
  refine Rp rfl (pv_move rfl) ?_
  refine Kn6 0 1 8 14 15 16 rfl ?_
  refine ct_block ?_
  refine ct_loop (α := { q : OQq // OQok L n goal q }) (fun q => [(0, .pointer (some ⟨tb, 0, none⟩)), (1, .int .i64 q.1.at_), (8, .slice q.1.p q.1.h.length q.1.c), (14, .slice p14 (chl n).length c14), (15, .int .i64 ((chl n).length : Int)), (16, .int .i64 (q.1.i : Int))]) (fun q => own 1 q.1.p q.1.h.length q.1.c (byteC q.1.h) :: row tb 0 [.slice tp L.length tc, .int .i64 (q.1.t.k : Int), .int .i64 q.1.t.want.k, .int .i64 q.1.t.want.at_, .int .i64 q.1.t.want.n, .int .u64 q.1.t.want.v, .int .u64 q.1.t.want.w, .slice q.1.t.want.p q.1.t.want.m q.1.t.want.c, .bool q.1.t.ends] :: own 1 p14 (chl n).length c14 (intC (chl n)) :: X :: F) (fun q => (chl n).length - q.1.i) ⟨⟨t, at_, n, [], 0, none, 0⟩, hg, rfl, htk, ⟨ha.1, by dsimp only; omega⟩, Int.le_refl _, Nat.zero_le _, Nat.zero_le _⟩ (Knows.cons rfl (Knows.cons rfl (Knows.cons rfl (Knows.cons rfl (Knows.cons rfl (Knows.cons rfl (Knows.nil))))))) (Sees.nilOwn (by repeat (first | exact Sees.refl | (apply Sees.cons; (focus ((repeat (first | exact Z0 | apply Sel.there)); done))) | apply Sees.skip))) ?_
  intro ⟨q, hq⟩
  dsimp only
  refine Cr ?_
  refine Rp rfl (pv_bin rfl rfl rfl) ?_
  refine Kn7 0 1 8 14 15 16 17 rfl ?_
  refine ct_seq ?_
  first | refine ct_cond_d rfl (fun h17 => ?_) (fun h17 => ?_) | refine ct_cond_n rfl (fun h17 => ?_) (fun h17 => ?_) | refine ct_cond_b rfl (fun h17 => ?_) (fun h17 => ?_) | refine ct_cond rfl (fun h17 => ?_) (fun h17 => ?_)
  · skip
    refine ct_skip ?_
    refine Kx6 0 1 8 14 15 16 rfl ?_
    refine ct_seq ?_
    refine ct_block ?_
    refine ct_seq ?_
    have hlt : q.i < (chl n).length := by omega
    have hs := hq.some hlt
    have hcn := chunk_in q.n hs.1
    have hha := hq.ha
    refine ct_rdsome (rd_own (es := 1) (p := p14) (c := c14) (xs := intC (chl n))) (by repeat (first | exact Z0 | apply Sel.there)) (Nat.lt_of_le_of_lt (Nat.zero_le _) hlt) (fun b14 o14 hp0 => ?_)
    subst hp0
    refine ct_region ?_
    refine Rp rfl (pv_indexAddrN (j := q.i) rfl rfl Tryz.runUnderlying134 Tryz.sizeOf3 rfl hlt) ?_
    refine Rq rfl (oq_loadRd (j := q.i) rfl rfl Tryz.isAgg3 (rd_own (es := 1) (p := some ⟨b14, o14, none⟩) (c := c14) (xs := intC (chl n))) (by repeat (first | exact Z0 | apply Sel.there)) (by omega) (intC_get hs.2)) ?_
    refine Rp rfl (pv_assign rfl) ?_
    refine Kn7 0 1 8 10 14 15 16 rfl ?_
    refine Cr ?_
    refine Rp rfl (pv_move rfl) ?_
    refine Rp rfl (pv_move rfl) ?_
    refine Rp rfl (pv_move rfl) ?_
    refine Rp rfl (pv_build (ps := [(0, _), (1, _), (2, _)]) (cs := [_, _, _, _, _, _]) rfl Tryz.zeroValue36 Tryz.runUnderlying36 (.cons Tryz.sizeOf3 (.cons Tryz.sizeOf3 (.cons Tryz.sizeOf3 (.cons Tryz.sizeOf28 (.cons Tryz.sizeOf28 (.cons Tryz.sizeOf29 (.nil))))))) rfl) ?_
    refine Ro rfl (ot_call rfl Tryz.call108 (vs := [_, _]) rfl (by repeat (first | exact Sees.refl | (apply Sees.cons; (focus ((repeat (first | exact Z0 | apply Sel.there)); done))) | apply Sees.skip)) (tdo_spec _ _ _ _ L X ht q.t hq.ht (readA q.at_ (chunk q.n)) _)) ?_
    rintro _ _ ⟨p25, c25, rfl, hrd, rfl⟩
    refine Rp rfl (pv_move rfl) ?_
    refine Rp rfl (pv_extract rfl rfl) ?_
    refine Rp rfl (pv_extract rfl rfl) ?_
    refine Ro rfl (ot_alloc rfl Tryz.zeroValue31 (rfl : _ = [_, _, _])) ?_
    rintro _ _ ⟨b11, rfl, rfl⟩
    refine rl_op0 rfl rfl (ot_store rfl rfl rfl Tryz.sizeOf31 (by repeat (first | exact Z0 | apply Sel.there)) (rfl : _ = [_, _, _]) rfl (by rfl) (by rfl) (by first | rfl | assumption) (by exact (rfl : _ = _ :: _ :: _ :: _))) ?_
    rintro _ _ rfl
    refine Rp rfl (pv_assign rfl) ?_
    refine Kn9 0 1 8 10 11 12 14 15 16 rfl ?_
    refine ct_seq ?_
    refine Cr ?_
    refine Rp rfl (pv_move rfl) ?_
    refine Rp rfl (pv_not rfl) ?_
    refine Kn9 0 1 8 10 11 14 15 16 29 rfl ?_
    first | refine ct_cond_d rfl (fun h29 => ?_) (fun h29 => ?_) | refine ct_cond_n rfl (fun h29 => ?_) (fun h29 => ?_) | refine ct_cond_b rfl (fun h29 => ?_) (fun h29 => ?_) | refine ct_cond rfl (fun h29 => ?_) (fun h29 => ?_)
    · skip
      refine Cr ?_
      refine Rp rfl (pv_move rfl) ?_
      refine Rp rfl (pv_assign rfl) ?_
      refine Rp rfl (pv_assign rfl) ?_
      refine Kn2 6 7 rfl ?_
      refine ct_ret ?_
      refine xt_ret_then ?_
      refine xt_ret_block ?_
      refine xt_ret_then ?_
      refine xt_ret_then ?_
      refine xt_ret_block ?_
      refine xt_ret_then ?_
      refine fin_ret (H' := own 1 q.p q.h.length q.c (byteC q.h) :: row tb 0 [.slice tp L.length tc, .int .i64 ((q.t.do (readA q.at_ (chunk q.n))).k : Int), .int .i64 (q.t.do (readA q.at_ (chunk q.n))).want.k, .int .i64 (q.t.do (readA q.at_ (chunk q.n))).want.at_, .int .i64 (q.t.do (readA q.at_ (chunk q.n))).want.n, .int .u64 (q.t.do (readA q.at_ (chunk q.n))).want.v, .int .u64 (q.t.do (readA q.at_ (chunk q.n))).want.w, .slice (q.t.do (readA q.at_ (chunk q.n))).want.p (q.t.do (readA q.at_ (chunk q.n))).want.m (q.t.do (readA q.at_ (chunk q.n))).want.c, .bool (q.t.do (readA q.at_ (chunk q.n))).ends] :: X :: F) (RVs.tmp rfl (RVs.tmp rfl (RVs.nil))) Tryz.results66 (?_) ?_
      · rw [show goal = (q.t.do (readA q.at_ (chunk q.n)), false, q.h) from by rw [← hq.hg, tout_stop hs.1 h29]]; exact ⟨_, _, rfl, rfl⟩
      · exact (by repeat (first | exact Sees.refl | (apply Sees.cons; (focus ((repeat (first | exact Z0 | apply Sel.there)); done))) | apply Sees.skip))
    · skip
      refine ct_skip ?_
      refine Kx8 0 1 8 10 11 14 15 16 rfl ?_
      refine ct_seq ?_
      have hb1 := hq.hh
      have hb2 := hq.ht.hk
      have hb3 := ht.hl
      have hb4 := hq.ht.hd_len ht
      refine ct_region ?_
      refine Rp rfl (pv_move rfl) ?_
      refine Rp rfl (pv_fieldAddr (k := 2) rfl Tryz.runUnderlying31 rfl Tryz.sizeOf29 rfl rfl) ?_
      refine Rq rfl (oq_load rfl rfl Tryz.isAgg29 (by repeat (first | exact Z0 | apply Sel.there)) (by rfl) (by rfl)) ?_
      refine Ro rfl (ot_append (by_ := 1) rfl rfl rfl Tryz.runUnderlying29 Tryz.runUnderlying29 Tryz.sizeOf5 Tryz.typeInfo5 rfl Tryz.zeroValue5 rfl (by decide) (by repeat (first | exact Z0 | apply Sel.there)) (by repeat (first | exact Z0 | apply Sel.there)) hrd (plain_byteC _) (by omega)) ?_
      rintro _ _ ⟨p34, c34, rfl, rfl⟩
      refine Rp rfl (pv_assign rfl) ?_
      refine Kn7 0 1 8 10 14 15 16 rfl ?_
      refine ct_region ?_
      refine Rp rfl (pv_move rfl) ?_
      refine Rp rfl (pv_move rfl) ?_
      refine Rp rfl (pv_add rfl rfl ⟨by omega, by omega⟩) ?_
      refine Rp rfl (pv_assign rfl) ?_
      refine rl_nil ?_
      refine xt_normal_block ?_
      refine Kx6 0 1 8 14 15 16 rfl ?_
      refine ct_region ?_
      refine Rp rfl (pv_add rfl rfl ⟨by omega, by omega⟩) ?_
      refine Rp rfl (pv_move rfl) ?_
      refine rl_nil ?_
      exact xt_round (α := { q : OQq // OQok L n goal q }) (E' := fun q => [(0, .pointer (some ⟨tb, 0, none⟩)), (1, .int .i64 q.1.at_), (8, .slice q.1.p q.1.h.length q.1.c), (14, .slice (some ⟨b14, o14, none⟩) (chl n).length c14), (15, .int .i64 ((chl n).length : Int)), (16, .int .i64 (q.1.i : Int))]) (H' := fun q => own 1 q.1.p q.1.h.length q.1.c (byteC q.1.h) :: row tb 0 [.slice tp L.length tc, .int .i64 (q.1.t.k : Int), .int .i64 q.1.t.want.k, .int .i64 q.1.t.want.at_, .int .i64 q.1.t.want.n, .int .u64 q.1.t.want.v, .int .u64 q.1.t.want.w, .slice q.1.t.want.p q.1.t.want.m q.1.t.want.c, .bool q.1.t.ends] :: own 1 (some ⟨b14, o14, none⟩) (chl n).length c14 (intC (chl n)) :: X :: F) (μ := fun q => (chl n).length - q.1.i) (p := ⟨q, hq⟩) (⟨⟨q.t.do (readA q.at_ (chunk q.n)), q.at_ + chunk q.n, q.n - chunk q.n, q.h ++ q.t.hd.data, q.i + 1, p34, c34⟩, hq.next ht hs.1 hlt h29 _ _⟩) (by show (chl n).length - (q.i + 1) < (chl n).length - q.i; omega) (Knows.cons rfl (Knows.cons rfl (Knows.cons (look_eq rfl (by dsimp only; simp)) (Knows.cons rfl (Knows.cons rfl (Knows.cons rfl Knows.nil)))))) (by dsimp only; rw [byteC_append, List.length_append]; exact (by repeat (first | exact Sees.refl | (apply Sees.cons; (focus ((repeat (first | exact Z0 | apply Sel.there)); done))) | apply Sees.skip)))
  · skip
    refine ct_exit ?_
    refine xt_exit_then ?_
    refine xt_exit_then ?_
    refine xt_exit_block ?_
    refine Kx1 8 rfl ?_
    refine Cr ?_
    refine Rp rfl (pv_move rfl) ?_
    refine Rp rfl (pv_assign rfl) ?_
    refine Rp rfl (pv_assign rfl) ?_
    refine Kn2 6 7 rfl ?_
    refine ct_ret ?_
    refine fin_ret (H' := own 1 q.p q.h.length q.c (byteC q.h) :: row tb 0 [.slice tp L.length tc, .int .i64 (q.t.k : Int), .int .i64 q.t.want.k, .int .i64 q.t.want.at_, .int .i64 q.t.want.n, .int .u64 q.t.want.v, .int .u64 q.t.want.w, .slice q.t.want.p q.t.want.m q.t.want.c, .bool q.t.ends] :: X :: F) (RVs.tmp rfl (RVs.tmp rfl (RVs.nil))) Tryz.results66 (?_) ?_
    · rw [hq.none (by omega)]; exact ⟨_, _, rfl, rfl⟩
    · exact (by repeat (first | exact Sees.refl | (apply Sees.cons; (focus ((repeat (first | exact Z0 | apply Sel.there)); done))) | apply Sees.skip))
end Go.Proofs.YtnjljfjncfbinaaGreat
