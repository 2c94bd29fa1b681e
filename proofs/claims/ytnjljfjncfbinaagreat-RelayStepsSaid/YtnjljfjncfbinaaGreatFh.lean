/- Contracts: what a relay heard; sameness. -/
import Derived.Test.YtnjljfjncfbinaaGreatSq
import Derived.Test.YtnjljfjncfbinaaGreatFg
set_option linter.all false
namespace Go.Proofs.YtnjljfjncfbinaaGreat
open Go Go.Proofs
set_option maxRecDepth 100000
set_option linter.unusedVariables false

theorem hcells_get : ∀ (l : HL) (i : Nat) (x : HeardV × Option Addr × Nat), l[i]? = some x → (hcells l)[i * 3]? = some (.int .i64 x.1.at_) ∧ (hcells l)[i * 3 + 1]? = some (.int .i32 x.1.typ) ∧ (hcells l)[i * 3 + 2]? = some (.slice x.2.1 x.1.data.length x.2.2) := by
  intro l
  induction l with
  | nil => intro i x h; simp at h
  | cons y l ih =>
    intro i x h
    cases i with
    | zero => simp at h; subst h; simp [hcells]
    | succ i =>
      have h1 : l[i]? = some x := by simpa using h
      obtain ⟨h2, h3, h4⟩ := ih i x h1
      have e : hcells (y :: l) = [.int .i64 y.1.at_, .int .i32 y.1.typ, .slice y.2.1 y.1.data.length y.2.2] ++ hcells l := by simp [hcells]
      rw [e, show (i + 1) * 3 = i * 3 + 3 from by omega]
      refine ⟨?_, ?_, ?_⟩
      · rw [List.getElem?_append_right (by simp)]; simpa using h2
      · rw [List.getElem?_append_right (by simp)]; simpa using h3
      · rw [List.getElem?_append_right (by simp)]; simpa using h4
theorem rd_pack {ω : World} {l : HL} {i : Nat} {x : HeardV × Option Addr × Nat} (h : l[i]? = some x) : Rd ω (pack (hinner l)) 1 x.2.1 x.1.data.length (byteC x.1.data) := by
  intro L w hw
  have hlt : i < l.length := by
    rcases Nat.lt_or_ge i l.length with h' | h'
    · exact h'
    · rw [List.getElem?_eq_none h'] at h; cases h
  have e : l = l.take i ++ x :: l.drop (i + 1) := by
    have : l[i] = x := by rw [List.getElem?_eq_getElem hlt] at h; exact Option.some.inj h
    rw [← this]; simp
  rw [e] at hw
  rw [holds_pack] at hw
  have e2 : hinner (l.take i ++ x :: l.drop (i + 1)) = hinner (l.take i) ++ own 1 x.2.1 x.1.data.length x.2.2 (byteC x.1.data) :: hinner (l.drop (i + 1)) := by simp [hinner]
  rw [e2, List.append_assoc] at hw
  have h3 := hw.comm
  exact rd_own _ w h3
theorem oq_loadOwn {ω : World} {P : Program} {E : Env} {S S' : List HP} {o : Oper} {T : TypeId} {x : Operand} {b off k j es n c : Nat} {v : Value} {xs : List Value} (ho : o.op = .load T x) (hx : ev E x = some (.pointer (some ⟨b, k, none⟩))) (hT : ∀ w, (isAgg T).run P w = .ok false w)
    (s : Sel S (own es (some ⟨b, off, none⟩) n c xs) S') (hk : k = off + j) (hv : xs[j]? = some v) : OQ ω P o E S v :=
  oq_load_of ho hx hT reads_own s (by subst hk; exact Nat.ble_eq_true_of_le (by omega)) (by subst hk; rw [show off + j - off = j from by omega]; exact hv)
theorem heards_get {l1 l2 : HL} (h : heards l1 = heards l2) {i : Nat} {x : HeardV × Option Addr × Nat} (hx : l1[i]? = some x) : ∃ y, l2[i]? = some y ∧ y.1 = x.1 := by
  have h1 : (heards l1)[i]? = some x.1 := by simp [heards, hx]
  rw [h] at h1
  simp only [heards, List.getElem?_map, Option.map_eq_some_iff] at h1
  exact h1
theorem sameAcc_spec (ω : World) (k at_ n v u : Int) (bytes : List UInt8) (p1 p2 : Option Addr) (c1 c2 : Nat) (X Y : HP) (hX : Rd ω X 1 p1 bytes.length (byteC bytes)) (hY : Rd ω Y 1 p2 bytes.length (byteC bytes)) (F : List HP)  : Spec ω Tryz.prog 11 #[.agg #[.int .i64 k, .int .i64 at_, .int .i64 n, .int .u64 v, .int .u64 u, .slice p1 bytes.length c1], .agg #[.int .i64 k, .int .i64 at_, .int .i64 n, .int .u64 v, .int .u64 u, .slice p2 bytes.length c2]] (X :: Y :: F) fun v' H' => v' = .bool true ∧ H' = X :: Y :: F := by
  refine spec_of_body Tryz.func11 rfl Tryz.ntmps11 rfl ?_
  refine Cr ?_
  refine Ro rfl (ot_box rfl rfl (rfl : _ = [_, _, _, _, _, _])) ?_
  rintro _ _ ⟨b2, rfl, rfl⟩
  refine Ro rfl (ot_box rfl rfl (rfl : _ = [_, _, _, _, _, _])) ?_
  rintro _ _ ⟨b3, rfl, rfl⟩
  refine Rp rfl (pv_assign rfl) ?_
  refine Kn2 2 3 rfl ?_
  refine Cr ?_
  refine Rp rfl (pv_fieldAddr (k := 0) rfl Tryz.runUnderlying36 rfl Tryz.sizeOf3 rfl rfl) ?_
  refine Rq rfl (oq_load rfl rfl Tryz.isAgg3 (by repeat (first | exact Z0 | apply Sel.there)) (by rfl) (by rfl)) ?_
  refine Rp rfl (pv_fieldAddr (k := 0) rfl Tryz.runUnderlying36 rfl Tryz.sizeOf3 rfl rfl) ?_
  refine Rq rfl (oq_load rfl rfl Tryz.isAgg3 (by repeat (first | exact Z0 | apply Sel.there)) (by rfl) (by rfl)) ?_
  refine Rp rfl (pv_bin rfl rfl rfl) ?_
  first | refine rl_split_d (fun h9 => ?_) (fun h9 => ?_) | refine rl_split_n (fun h9 => ?_) (fun h9 => ?_) | refine rl_split_b (fun h9 => ?_) (fun h9 => ?_) | refine rl_split (fun h9 => ?_) (fun h9 => ?_)
  · skip
    refine Rp rfl (pv_move rfl) ?_
    refine Ru rfl (pv_fieldAddr (k := 1) rfl Tryz.runUnderlying36 rfl Tryz.sizeOf3 rfl rfl) ?_
    refine Rv rfl (oq_load rfl rfl Tryz.isAgg3 (by repeat (first | exact Z0 | apply Sel.there)) (by rfl) (by rfl)) ?_
    refine Ru rfl (pv_fieldAddr (k := 1) rfl Tryz.runUnderlying36 rfl Tryz.sizeOf3 rfl rfl) ?_
    refine Rv rfl (oq_load rfl rfl Tryz.isAgg3 (by repeat (first | exact Z0 | apply Sel.there)) (by rfl) (by rfl)) ?_
    refine Ru rfl (pv_bin rfl rfl rfl) ?_
    first | refine rl_split_d (fun h15 => ?_) (fun h15 => ?_) | refine rl_split_n (fun h15 => ?_) (fun h15 => ?_) | refine rl_split_b (fun h15 => ?_) (fun h15 => ?_) | refine rl_split (fun h15 => ?_) (fun h15 => ?_)
    · skip
      refine Rp rfl (pv_pick1 rfl rfl) ?_
      refine Rp rfl (pv_move rfl) ?_
      refine Ru rfl (pv_fieldAddr (k := 2) rfl Tryz.runUnderlying36 rfl Tryz.sizeOf3 rfl rfl) ?_
      refine Rv rfl (oq_load rfl rfl Tryz.isAgg3 (by repeat (first | exact Z0 | apply Sel.there)) (by rfl) (by rfl)) ?_
      refine Ru rfl (pv_fieldAddr (k := 2) rfl Tryz.runUnderlying36 rfl Tryz.sizeOf3 rfl rfl) ?_
      refine Rv rfl (oq_load rfl rfl Tryz.isAgg3 (by repeat (first | exact Z0 | apply Sel.there)) (by rfl) (by rfl)) ?_
      refine Ru rfl (pv_bin rfl rfl rfl) ?_
      first | refine rl_split_d (fun h22 => ?_) (fun h22 => ?_) | refine rl_split_n (fun h22 => ?_) (fun h22 => ?_) | refine rl_split_b (fun h22 => ?_) (fun h22 => ?_) | refine rl_split (fun h22 => ?_) (fun h22 => ?_)
      · skip
        refine Rp rfl (pv_pick1 rfl rfl) ?_
        refine Rp rfl (pv_move rfl) ?_
        refine Ru rfl (pv_fieldAddr (k := 3) rfl Tryz.runUnderlying36 rfl Tryz.sizeOf28 rfl rfl) ?_
        refine Rv rfl (oq_load rfl rfl Tryz.isAgg28 (by repeat (first | exact Z0 | apply Sel.there)) (by rfl) (by rfl)) ?_
        refine Ru rfl (pv_fieldAddr (k := 3) rfl Tryz.runUnderlying36 rfl Tryz.sizeOf28 rfl rfl) ?_
        refine Rv rfl (oq_load rfl rfl Tryz.isAgg28 (by repeat (first | exact Z0 | apply Sel.there)) (by rfl) (by rfl)) ?_
        refine Ru rfl (pv_bin rfl rfl rfl) ?_
        first | refine rl_split_d (fun h29 => ?_) (fun h29 => ?_) | refine rl_split_n (fun h29 => ?_) (fun h29 => ?_) | refine rl_split_b (fun h29 => ?_) (fun h29 => ?_) | refine rl_split (fun h29 => ?_) (fun h29 => ?_)
        · skip
          refine Rp rfl (pv_pick1 rfl rfl) ?_
          refine Rp rfl (pv_move rfl) ?_
          refine Ru rfl (pv_fieldAddr (k := 4) rfl Tryz.runUnderlying36 rfl Tryz.sizeOf28 rfl rfl) ?_
          refine Rv rfl (oq_load rfl rfl Tryz.isAgg28 (by repeat (first | exact Z0 | apply Sel.there)) (by rfl) (by rfl)) ?_
          refine Ru rfl (pv_fieldAddr (k := 4) rfl Tryz.runUnderlying36 rfl Tryz.sizeOf28 rfl rfl) ?_
          refine Rv rfl (oq_load rfl rfl Tryz.isAgg28 (by repeat (first | exact Z0 | apply Sel.there)) (by rfl) (by rfl)) ?_
          refine Ru rfl (pv_bin rfl rfl rfl) ?_
          first | refine rl_split_d (fun h36 => ?_) (fun h36 => ?_) | refine rl_split_n (fun h36 => ?_) (fun h36 => ?_) | refine rl_split_b (fun h36 => ?_) (fun h36 => ?_) | refine rl_split (fun h36 => ?_) (fun h36 => ?_)
          · skip
            refine Rp rfl (pv_pick1 rfl rfl) ?_
            refine Rp rfl (pv_move rfl) ?_
            refine Ru rfl (pv_fieldAddr (k := 5) rfl Tryz.runUnderlying36 rfl Tryz.sizeOf29 rfl rfl) ?_
            refine Rv rfl (oq_load rfl rfl Tryz.isAgg29 (by repeat (first | exact Z0 | apply Sel.there)) (by rfl) (by rfl)) ?_
            refine Rv rfl (oq_text rfl rfl Tryz.runUnderlying29 Tryz.runUnderlying9 Tryz.runUnderlying5 (by repeat (first | exact Z0 | apply Sel.there)) hX) ?_
            refine Ru rfl (pv_fieldAddr (k := 5) rfl Tryz.runUnderlying36 rfl Tryz.sizeOf29 rfl rfl) ?_
            refine Rv rfl (oq_load rfl rfl Tryz.isAgg29 (by repeat (first | exact Z0 | apply Sel.there)) (by rfl) (by rfl)) ?_
            refine Rv rfl (oq_text rfl rfl Tryz.runUnderlying29 Tryz.runUnderlying9 Tryz.runUnderlying5 (by repeat (first | exact Z0 | apply Sel.there)) hY) ?_
            refine Ru rfl (pv_streq rfl rfl) ?_
            refine Rp rfl (pv_pick1 rfl rfl) ?_
            refine Rp rfl (pv_assign rfl) ?_
            refine Kn1 4 rfl ?_
            refine ct_ret ?_
            exact fin_ret (RVs.tmp rfl (RVs.nil)) Tryz.results11 (⟨by simp [resOf], rfl⟩) (by repeat (first | exact Sees.refl | (apply Sees.cons; (focus ((repeat (first | exact Z0 | apply Sel.there)); done))) | apply Sees.skip))
          · exact absurd rfl h36
        · exact absurd rfl h29
      · exact absurd rfl h22
    · exact absurd rfl h15
  · exact absurd rfl h9
theorem same_spec (ω : World) (l1 l2 : HL) (p1 p2 : Option Addr) (c1 c2 : Nat) (hn : l1.length ≤ 9223372036854775807) (hh : heards l1 = heards l2) (F : List HP)  : Spec ω Tryz.prog 12 #[.slice p1 l1.length c1, .slice p2 l1.length c2] (own 3 p1 l1.length c1 (hcells l1) :: own 3 p2 l1.length c2 (hcells l2) :: pack (hinner l1) :: pack (hinner l2) :: F) fun v' H' => v' = .bool true ∧ H' = own 3 p1 l1.length c1 (hcells l1) :: own 3 p2 l1.length c2 (hcells l2) :: pack (hinner l1) :: pack (hinner l2) :: F := by
  refine spec_of_body Tryz.func12 rfl Tryz.ntmps12 rfl ?_
  refine Cr ?_
  refine Rp rfl (pv_assign rfl) ?_
  refine Kn2 0 1 rfl ?_
  refine ct_seq ?_
  refine Cr ?_
  refine Rp rfl (pv_move rfl) ?_
  refine Rp rfl (pv_len_slice rfl rfl Tryz.runUnderlying39) ?_
  refine Rp rfl (pv_move rfl) ?_
  refine Rp rfl (pv_len_slice rfl rfl Tryz.runUnderlying39) ?_
  refine Rp rfl (pv_bin rfl rfl rfl) ?_
  refine Kn3 0 1 10 rfl ?_
  first | refine ct_cond_d rfl (fun h10 => ?_) (fun h10 => ?_) | refine ct_cond_n rfl (fun h10 => ?_) (fun h10 => ?_) | refine ct_cond_b rfl (fun h10 => ?_) (fun h10 => ?_) | refine ct_cond rfl (fun h10 => ?_) (fun h10 => ?_)
  · exfalso; first | omega | (simp_all; done) | (simp_all; omega)
  · skip
    refine ct_skip ?_
    refine Kx2 0 1 rfl ?_
    refine ct_seq ?_
    refine Cr ?_
    refine Rp rfl (pv_move rfl) ?_
    refine Rp rfl (pv_len_slice rfl rfl Tryz.runUnderlying39) ?_
    refine Rp rfl (pv_move rfl) ?_
    refine Kn4 0 1 12 13 rfl ?_
    refine ct_block ?_
    refine ct_loop (α := { i : Nat // i ≤ l1.length }) (fun q => [(0, .slice p1 l1.length c1), (1, .slice p2 l1.length c2), (12, .int .i64 l1.length), (13, .int .i64 (q.1 : Int))]) (fun q => own 3 p1 l1.length c1 (hcells l1) :: own 3 p2 l1.length c2 (hcells l2) :: pack (hinner l1) :: pack (hinner l2) :: F) (fun q => l1.length - q.1) ⟨0, Nat.zero_le _⟩ (Knows.cons rfl (Knows.cons rfl (Knows.cons rfl (Knows.cons rfl (Knows.nil))))) (by repeat (first | exact Sees.refl | (apply Sees.cons; (focus ((repeat (first | exact Z0 | apply Sel.there)); done))) | apply Sees.skip)) ?_
    intro ⟨i, hi⟩
    dsimp only
    refine Cr ?_
    refine Rp rfl (pv_bin rfl rfl rfl) ?_
    refine Kn5 0 1 12 13 14 rfl ?_
    refine ct_seq ?_
    first | refine ct_cond_d rfl (fun h14 => ?_) (fun h14 => ?_) | refine ct_cond_n rfl (fun h14 => ?_) (fun h14 => ?_) | refine ct_cond_b rfl (fun h14 => ?_) (fun h14 => ?_) | refine ct_cond rfl (fun h14 => ?_) (fun h14 => ?_)
    · skip
      refine ct_skip ?_
      refine Kx4 0 1 12 13 rfl ?_
      refine ct_seq ?_
      refine ct_block ?_
      refine Cr ?_
      refine Rp rfl (pv_move rfl) ?_
      refine Rp rfl (pv_assign rfl) ?_
      refine Kn5 0 1 5 12 13 rfl ?_
      refine ct_seq ?_
      refine ct_own (c := c1) (by repeat (first | exact Z0 | apply Sel.there)) fun _ _ hp1 => ?_
      rcases hp1 with ⟨rfl, hz, _⟩ | ⟨b1, o1, rfl⟩; omega
      refine ct_own (c := c2) (by repeat (first | exact Z0 | apply Sel.there)) fun _ _ hp2 => ?_
      rcases hp2 with ⟨rfl, hz, _⟩ | ⟨b2, o2, rfl⟩; omega
      obtain ⟨x, hx⟩ : ∃ x, l1[i]? = some x := ⟨l1[i], List.getElem?_eq_getElem (by omega)⟩
      obtain ⟨y, hy, hxy⟩ := heards_get hh hx
      obtain ⟨ha0, ha1, ha2⟩ := hcells_get l1 i x hx
      obtain ⟨hb0, hb1, hb2⟩ := hcells_get l2 i y hy
      rw [hxy] at hb0 hb1 hb2
      have hra := rd_pack (ω := ω) hx
      have hrb := rd_pack (ω := ω) hy
      rw [hxy] at hrb
      refine ct_planH [.q 0, .q 1, .q 2, .q 3, .q 4, .q 5, .q 6, .q 7, .q 8, .q 9, .q 10, .q 11, .q 12, .q 13, .q 14, .q 15, .q 16, .q 17, .q 18, .q 19, .q 20, .q 21, .q 22, .q 23, .q 24, .q 25, .q 26, .q 27, .q 28, .q 29, .q 30, .q 31, .q 32, .q 33, .q 34, .q 35, .q 36, .q 37, .q 38, .q 39, .q 40, .q 41, .q 42] mixed (by decide +kernel) ?_
      refine pw_q rfl rfl rfl rfl (oq_pv (pv_move rfl)) ?_
      refine pw_q rfl rfl rfl rfl (oq_pv (pv_move rfl)) ?_
      refine pw_q rfl rfl rfl rfl (oq_pv (pv_indexAddrN (j := i) rfl rfl Tryz.runUnderlying39 Tryz.sizeOf76 rfl (by omega))) ?_
      refine pw_q rfl rfl rfl rfl (oq_pv (pv_fieldAddr (k := o1 + i * 3 + 0) rfl Tryz.runUnderlying76 rfl Tryz.sizeOf2 rfl rfl)) ?_
      refine pw_q rfl rfl rfl rfl (oq_loadOwn rfl rfl Tryz.isAgg2 (by repeat (first | exact Z0 | apply Sel.there)) (j := i * 3 + 0) (by omega) ha0) ?_
      refine pw_q rfl rfl rfl rfl (oq_pv (pv_move rfl)) ?_
      refine pw_q rfl rfl rfl rfl (oq_pv (pv_move rfl)) ?_
      refine pw_q rfl rfl rfl rfl (oq_pv (pv_indexAddrN (j := i) rfl rfl Tryz.runUnderlying39 Tryz.sizeOf76 rfl (by omega))) ?_
      refine pw_q rfl rfl rfl rfl (oq_pv (pv_fieldAddr (k := o2 + i * 3 + 0) rfl Tryz.runUnderlying76 rfl Tryz.sizeOf2 rfl rfl)) ?_
      refine pw_q rfl rfl rfl rfl (oq_loadOwn rfl rfl Tryz.isAgg2 (by repeat (first | exact Z0 | apply Sel.there)) (j := i * 3 + 0) (by omega) hb0) ?_
      refine pw_q rfl rfl rfl rfl (oq_pv (pv_bin rfl rfl rfl)) ?_
      refine pw_q rfl rfl rfl rfl (oq_pv (pv_move rfl)) ?_
      first | refine pw_split_d (fun h27 => ?_) (fun h27 => ?_) | refine pw_split_n (fun h27 => ?_) (fun h27 => ?_) | refine pw_split_b (fun h27 => ?_) (fun h27 => ?_) | refine pw_split (fun h27 => ?_) (fun h27 => ?_)
      · exact absurd rfl h27
      · skip
        refine pw_q rfl rfl rfl rfl (oq_pv (pv_move rfl)) ?_
        refine pw_q rfl rfl rfl rfl (oq_pv (pv_move rfl)) ?_
        refine pw_q rfl rfl rfl rfl (oq_pv (pv_indexAddrN (j := i) rfl rfl Tryz.runUnderlying39 Tryz.sizeOf76 rfl (by omega))) ?_
        refine pw_q rfl rfl rfl rfl (oq_pv (pv_fieldAddr (k := o1 + i * 3 + 1) rfl Tryz.runUnderlying76 rfl Tryz.sizeOf74 rfl rfl)) ?_
        refine pw_q rfl rfl rfl rfl (oq_pv (pv_fieldAddr (k := o1 + i * 3 + 1 + 0) rfl Tryz.runUnderlying74 rfl Tryz.sizeOf21 rfl rfl)) ?_
        refine pw_q rfl rfl rfl rfl (oq_loadOwn rfl rfl Tryz.isAgg21 (by repeat (first | exact Z0 | apply Sel.there)) (j := i * 3 + 1) (by omega) ha1) ?_
        refine pw_q rfl rfl rfl rfl (oq_pv (pv_move rfl)) ?_
        refine pw_q rfl rfl rfl rfl (oq_pv (pv_move rfl)) ?_
        refine pw_q rfl rfl rfl rfl (oq_pv (pv_indexAddrN (j := i) rfl rfl Tryz.runUnderlying39 Tryz.sizeOf76 rfl (by omega))) ?_
        refine pw_q rfl rfl rfl rfl (oq_pv (pv_fieldAddr (k := o2 + i * 3 + 1) rfl Tryz.runUnderlying76 rfl Tryz.sizeOf74 rfl rfl)) ?_
        refine pw_q rfl rfl rfl rfl (oq_pv (pv_fieldAddr (k := o2 + i * 3 + 1 + 0) rfl Tryz.runUnderlying74 rfl Tryz.sizeOf21 rfl rfl)) ?_
        refine pw_q rfl rfl rfl rfl (oq_loadOwn rfl rfl Tryz.isAgg21 (by repeat (first | exact Z0 | apply Sel.there)) (j := i * 3 + 1) (by omega) hb1) ?_
        refine pw_q rfl rfl rfl rfl (oq_pv (pv_bin rfl rfl rfl)) ?_
        refine pw_q rfl rfl rfl rfl (oq_pv (pv_pick0 rfl rfl)) ?_
        refine pw_q rfl rfl rfl rfl (oq_pv (pv_move rfl)) ?_
        first | refine pw_split_d (fun h42 => ?_) (fun h42 => ?_) | refine pw_split_n (fun h42 => ?_) (fun h42 => ?_) | refine pw_split_b (fun h42 => ?_) (fun h42 => ?_) | refine pw_split (fun h42 => ?_) (fun h42 => ?_)
        · exact absurd rfl h42
        · skip
          refine pw_q rfl rfl rfl rfl (oq_pv (pv_move rfl)) ?_
          refine pw_q rfl rfl rfl rfl (oq_pv (pv_move rfl)) ?_
          refine pw_q rfl rfl rfl rfl (oq_pv (pv_indexAddrN (j := i) rfl rfl Tryz.runUnderlying39 Tryz.sizeOf76 rfl (by omega))) ?_
          refine pw_q rfl rfl rfl rfl (oq_pv (pv_fieldAddr (k := o1 + i * 3 + 1) rfl Tryz.runUnderlying76 rfl Tryz.sizeOf74 rfl rfl)) ?_
          refine pw_q rfl rfl rfl rfl (oq_pv (pv_fieldAddr (k := o1 + i * 3 + 1 + 1) rfl Tryz.runUnderlying74 rfl Tryz.sizeOf29 rfl rfl)) ?_
          refine pw_q rfl rfl rfl rfl (oq_loadOwn rfl rfl Tryz.isAgg29 (by repeat (first | exact Z0 | apply Sel.there)) (j := i * 3 + 2) (by omega) ha2) ?_
          refine pw_q rfl rfl rfl rfl (oq_text rfl rfl Tryz.runUnderlying29 Tryz.runUnderlying9 Tryz.runUnderlying5 (by repeat (first | exact Z0 | apply Sel.there)) hra) ?_
          refine pw_q rfl rfl rfl rfl (oq_pv (pv_move rfl)) ?_
          refine pw_q rfl rfl rfl rfl (oq_pv (pv_move rfl)) ?_
          refine pw_q rfl rfl rfl rfl (oq_pv (pv_indexAddrN (j := i) rfl rfl Tryz.runUnderlying39 Tryz.sizeOf76 rfl (by omega))) ?_
          refine pw_q rfl rfl rfl rfl (oq_pv (pv_fieldAddr (k := o2 + i * 3 + 1) rfl Tryz.runUnderlying76 rfl Tryz.sizeOf74 rfl rfl)) ?_
          refine pw_q rfl rfl rfl rfl (oq_pv (pv_fieldAddr (k := o2 + i * 3 + 1 + 1) rfl Tryz.runUnderlying74 rfl Tryz.sizeOf29 rfl rfl)) ?_
          refine pw_q rfl rfl rfl rfl (oq_loadOwn rfl rfl Tryz.isAgg29 (by repeat (first | exact Z0 | apply Sel.there)) (j := i * 3 + 2) (by omega) hb2) ?_
          refine pw_q rfl rfl rfl rfl (oq_text rfl rfl Tryz.runUnderlying29 Tryz.runUnderlying9 Tryz.runUnderlying5 (by repeat (first | exact Z0 | apply Sel.there)) hrb) ?_
          refine pw_q rfl rfl rfl rfl (oq_pv (pv_strne rfl rfl)) ?_
          refine pw_q rfl rfl rfl rfl (oq_pv (pv_pick0 rfl rfl)) ?_
          refine pw_done ?_
          refine Kx5 0 1 12 13 58 rfl ?_
          first | refine ct_cond_d rfl (fun h58 => ?_) (fun h58 => ?_) | refine ct_cond_n rfl (fun h58 => ?_) (fun h58 => ?_) | refine ct_cond_b rfl (fun h58 => ?_) (fun h58 => ?_) | refine ct_cond rfl (fun h58 => ?_) (fun h58 => ?_)
          · exfalso; first | omega | (simp_all; done) | (simp_all; omega)
          · skip
            refine ct_skip ?_
            refine xt_normal_block ?_
            refine Kx4 0 1 12 13 rfl ?_
            refine ct_region ?_
            refine Rp rfl (pv_add rfl rfl ⟨by omega, by omega⟩) ?_
            refine Rp rfl (pv_move rfl) ?_
            refine rl_nil ?_
            exact xt_round (α := { i : Nat // i ≤ l1.length }) (E' := fun q => [(0, .slice (some ⟨b1, o1, none⟩) l1.length c1), (1, .slice (some ⟨b2, o2, none⟩) l1.length c2), (12, .int .i64 l1.length), (13, .int .i64 (q.1 : Int))]) (H' := fun q => own 3 (some ⟨b1, o1, none⟩) l1.length c1 (hcells l1) :: own 3 (some ⟨b2, o2, none⟩) l1.length c2 (hcells l2) :: pack (hinner l1) :: pack (hinner l2) :: F) (μ := fun q => l1.length - q.1) (p := ⟨i, hi⟩) (⟨i + 1, by omega⟩) (by show l1.length - (i + 1) < l1.length - i; omega) (Knows.cons rfl (Knows.cons rfl (Knows.cons rfl (Knows.cons rfl (Knows.nil))))) (by repeat (first | exact Sees.refl | (apply Sees.cons; (focus ((repeat (first | exact Z0 | apply Sel.there)); done))) | apply Sees.skip))
    · skip
      refine ct_exit ?_
      refine xt_exit_then ?_
      refine xt_exit_then ?_
      refine xt_exit_block ?_
      refine xt_then ?_
      refine CT.weaken (E' := []) (Knows.nil) Sees.refl ?_
      refine Cr ?_
      refine Rp rfl (pv_assign rfl) ?_
      refine Kn1 4 rfl ?_
      refine ct_ret ?_
      exact fin_ret (RVs.tmp rfl (RVs.nil)) Tryz.results12 (⟨rfl, rfl⟩) (by repeat (first | exact Sees.refl | (apply Sees.cons; (focus ((repeat (first | exact Z0 | apply Sel.there)); done))) | apply Sees.skip))
theorem cloneHeards (ω : World) (ch : HP) (p : Option Addr) (n c : Nat) (xs : List Value) (hr : Rd ω ch 3 p n xs) (hp : plainCells xs = true) (hb : n * 40 ≤ 140737488355328) (F : List HP)  : Spec ω Tryz.prog 34 #[.slice p n c] (ch :: F) fun v' H' => ∃ p' c', v' = .slice p' n c' ∧ H' = own 3 p' n c' xs :: ch :: F := by
  refine spec_of_body Tryz.func34 rfl Tryz.ntmps34 rfl ?_
  refine ct_rd hr (by repeat (first | exact Z0 | apply Sel.there)) (fun hl hnone _ => ?_)
  refine Cr ?_
  refine Rp rfl (pv_assign rfl) ?_
  refine Kn1 0 rfl ?_
  refine ct_seq ?_
  refine Cr ?_
  refine Rp rfl (pv_move rfl) ?_
  refine Rp rfl (pv_eql rfl rfl Tryz.runUnderlying39 rfl) ?_
  refine Kn2 0 4 rfl ?_
  first | refine ct_cond_d rfl (fun h4 => ?_) (fun h4 => ?_) | refine ct_cond_n rfl (fun h4 => ?_) (fun h4 => ?_) | refine ct_cond_b rfl (fun h4 => ?_) (fun h4 => ?_) | refine ct_cond rfl (fun h4 => ?_) (fun h4 => ?_)
  · have e : p = none := by cases p <;> simp at h4 ⊢
    subst e
    have e0 := hnone rfl
    subst e0
    have ex : xs = [] := List.eq_nil_of_length_eq_zero (by omega)
    subst ex
    refine Cr ?_
    refine Rp rfl (pv_assign rfl) ?_
    refine Kn1 2 rfl ?_
    refine ct_ret ?_
    refine xt_ret_then ?_
    try simp only [Nat.zero_add, List.nil_append]
    refine fin_ret (H' := own 3 none 0 0 [] :: ch :: F) (RVs.tmp rfl (RVs.nil)) Tryz.results34 (?_) ?_
    · exact ⟨_, _, rfl, rfl⟩
    · exact (.of fun m h => own_nil h)
  · skip
    refine ct_skip ?_
    refine Kx1 0 rfl ?_
    refine Cr ?_
    refine Ro rfl (ot_buildSlice (ps := []) (cs := #[]) rfl rfl Tryz.runUnderlying39 Tryz.sizeOf76 Tryz.zeroValue76 rfl rfl rfl rfl) ?_
    rintro _ _ ⟨b5, rfl, rfl⟩
    refine Rp rfl (pv_move rfl) ?_
    refine Ro rfl (ot_append (by_ := 40) rfl rfl rfl Tryz.runUnderlying39 Tryz.runUnderlying39 Tryz.sizeOf76 Tryz.typeInfo76 rfl Tryz.zeroValue76 rfl (by decide) (by repeat (first | exact Z0 | apply Sel.there)) (by repeat (first | exact Z0 | apply Sel.there)) hr hp (by omega)) ?_
    rintro _ _ ⟨p7, c7, rfl, rfl⟩
    refine Rp rfl (pv_assign rfl) ?_
    refine Kn1 2 rfl ?_
    refine ct_ret ?_
    try simp only [Nat.zero_add, List.nil_append]
    refine fin_ret (H' := own 3 p7 n c7 xs :: ch :: F) (RVs.tmp rfl (RVs.nil)) Tryz.results34 (?_) ?_
    · exact ⟨_, _, rfl, rfl⟩
    · exact (by repeat (first | exact Sees.refl | (apply Sees.cons; (focus ((repeat (first | exact Z0 | apply Sel.there)); done))) | apply Sees.skip))
theorem hcells_set (l1 l2 : HL) (x : HeardV × Option Addr × Nat) (q : Option Addr) (d : Nat) : splice (hcells (l1 ++ x :: l2)) (l1.length * 3 + 2) [.slice q x.1.data.length d] = hcells (l1 ++ [(x.1, q, d)] ++ l2) := by
  have e1 : hcells (l1 ++ x :: l2) = (hcells l1 ++ [.int .i64 x.1.at_, .int .i32 x.1.typ]) ++ .slice x.2.1 x.1.data.length x.2.2 :: hcells l2 := by simp [hcells]
  have e2 : hcells (l1 ++ [(x.1, q, d)] ++ l2) = (hcells l1 ++ [.int .i64 x.1.at_, .int .i32 x.1.typ]) ++ .slice q x.1.data.length d :: hcells l2 := by simp [hcells]
  rw [e1, e2]
  simp only [splice]
  rw [List.set_append_right _ _ (by simp [hcells_length])]
  simp [hcells_length]
theorem hinner_snoc (l : HL) (v : HeardV) (q : Option Addr) (d : Nat) : hinner (l ++ [(v, q, d)]) = hinner l ++ [own 1 q v.data.length d (byteC v.data)] := by simp [hinner]
theorem Sees.packNilH {H M : List HP} (s : Sees H M) : Sees H (pack (hinner []) :: M) := Sees.packNil s
attribute [local irreducible] pack hcells hinner
set_option maxHeartbeats 1000000 in
theorem rheard_raw (ω : World) (b : Nat) (base size cur nxt lap left : Int) (nw lo : Value) (l : HL) (p : Option Addr) (c : Nat) (hn : l.length ≤ 64) (hd : ∀ x, x ∈ l → x.1.data.length ≤ 1099511627776) (F : List HP)  : Spec ω Tryz.prog 13 #[.pointer (some ⟨b, 0, none⟩)] (row b 0 [.int .i64 base, .int .i64 size, .int .i64 cur, .int .i64 nxt, .int .i64 lap, .int .i64 left, nw, .slice p l.length c, lo] :: own 3 p l.length c (hcells l) :: pack (hinner l) :: F) fun v' H' => ∃ p' c' l', v' = .slice p' l.length c' ∧ heards l' = heards l ∧ H' = own 3 p' l.length c' (hcells l') :: pack (hinner l') :: row b 0 [.int .i64 base, .int .i64 size, .int .i64 cur, .int .i64 nxt, .int .i64 lap, .int .i64 left, nw, .slice p l.length c, lo] :: own 3 p l.length c (hcells l) :: pack (hinner l) :: F := by
  refine spec_of_body Tryz.func13 rfl Tryz.ntmps13 rfl ?_
  refine Cr ?_
  refine Rp rfl (pv_assign rfl) ?_
  refine Kn1 0 rfl ?_
  refine ct_seq ?_
  refine Cr ?_
  refine Rp rfl (pv_move rfl) ?_
  refine Rp rfl (pv_eql rfl rfl Tryz.runUnderlying32 rfl) ?_
  refine Kn2 0 6 rfl ?_
  refine ct_false rfl ?_
  refine ct_skip ?_
  refine Kx1 0 rfl ?_
  refine Cr ?_
  refine Rp rfl (pv_move rfl) ?_
  refine Rp rfl (pv_nilCheck rfl) ?_
  refine Rp rfl (pv_fieldAddr (k := 7) rfl Tryz.runUnderlying98 rfl Tryz.sizeOf39 rfl rfl) ?_
  refine Rq rfl (oq_load rfl rfl Tryz.isAgg39 (by repeat (first | exact Z0 | apply Sel.there)) (by rfl) (by rfl)) ?_
  refine Ro rfl (ot_call rfl Tryz.call34 (vs := [_]) rfl (by repeat (first | exact Sees.refl | (apply Sees.cons; (focus ((repeat (first | exact Z0 | apply Sel.there)); done))) | apply Sees.skip)) (cloneHeards _ (own 3 p l.length c (hcells l)) _ _ _ _ rd_own (plain_hcells l) (by omega) _)) ?_
  rintro _ _ ⟨p1, c1, rfl, rfl⟩
  refine Rp rfl (pv_assign rfl) ?_
  refine Kn1 3 rfl ?_
  refine ct_seq ?_
  refine Cr ?_
  refine Rp rfl (pv_move rfl) ?_
  refine Rp rfl (pv_len_slice rfl rfl Tryz.runUnderlying39) ?_
  refine Rp rfl (pv_move rfl) ?_
  refine Kn3 3 13 14 rfl ?_
  refine ct_block ?_
  refine ct_loop (α := { q : HL × HL // heards q.1 ++ heards q.2 = heards l ∧ q.2 = l.drop q.1.length }) (fun q => [(3, .slice p1 l.length c1), (13, .int .i64 l.length), (14, .int .i64 (q.1.1.length : Int))]) (fun q => own 3 p1 l.length c1 (hcells (q.1.1 ++ q.1.2)) :: pack (hinner q.1.1) :: pack (hinner l) :: row b 0 [.int .i64 base, .int .i64 size, .int .i64 cur, .int .i64 nxt, .int .i64 lap, .int .i64 left, nw, .slice p l.length c, lo] :: own 3 p l.length c (hcells l) :: F) (fun q => q.1.2.length) ⟨([], l), rfl, rfl⟩ (Knows.cons rfl (Knows.cons rfl (Knows.cons rfl (Knows.nil)))) (Sees.cons (by repeat (first | exact Z0 | apply Sel.there)) (Sees.packNilH (by repeat (first | exact Sees.refl | (apply Sees.cons; (focus ((repeat (first | exact Z0 | apply Sel.there)); done))) | apply Sees.skip)))) ?_
  intro ⟨⟨l1, l2⟩, he, hl2⟩
  dsimp only at he hl2 ⊢
  have hlen : l1.length + l2.length = l.length := by have := congrArg List.length he; simpa [heards] using this
  refine Cr ?_
  refine Rp rfl (pv_bin rfl rfl rfl) ?_
  refine Kn4 3 13 14 15 rfl ?_
  refine ct_seq ?_
  first | refine ct_cond_d rfl (fun h15 => ?_) (fun h15 => ?_) | refine ct_cond_n rfl (fun h15 => ?_) (fun h15 => ?_) | refine ct_cond_b rfl (fun h15 => ?_) (fun h15 => ?_) | refine ct_cond rfl (fun h15 => ?_) (fun h15 => ?_)
  · skip
    refine ct_skip ?_
    refine Kx3 3 13 14 rfl ?_
    refine ct_seq ?_
    refine ct_block ?_
    refine Cr ?_
    refine Rp rfl (pv_move rfl) ?_
    refine Rp rfl (pv_assign rfl) ?_
    refine Kn4 3 4 13 14 rfl ?_
    obtain ⟨x, l3, rfl⟩ : ∃ x l3, l2 = x :: l3 := by rcases l2 with _ | ⟨x, l3⟩; (simp at hlen; omega); exact ⟨x, l3, rfl⟩
    have hx : l[l1.length]? = some x := by have := congrArg (·[0]?) hl2; simpa using this.symm
    have hrx := rd_pack (ω := ω) hx
    have hdx := hd x (List.mem_of_getElem? hx)
    have hx1 : (l1 ++ x :: l3)[l1.length]? = some x := by simp
    obtain ⟨_, _, ha2⟩ := hcells_get _ _ x hx1
    refine ct_own (p := p1) (by repeat (first | exact Z0 | apply Sel.there)) fun hcl _ hp1 => ?_
    simp only [hcells_length] at hcl
    rcases hp1 with ⟨rfl, hz, _⟩ | ⟨b1, o1, rfl⟩; simp at hlen; omega
    refine ct_region ?_
    refine Rp rfl (pv_move rfl) ?_
    refine Rp rfl (pv_move rfl) ?_
    refine Rp rfl (pv_move rfl) ?_
    refine Rp rfl (pv_move rfl) ?_
    refine Rp rfl (pv_indexAddrN (j := l1.length) rfl rfl Tryz.runUnderlying39 Tryz.sizeOf76 rfl (by simp at hlen; omega)) ?_
    refine Rp rfl (pv_fieldAddr (k := o1 + l1.length * 3 + 1) rfl Tryz.runUnderlying76 rfl Tryz.sizeOf74 rfl rfl) ?_
    refine Rp rfl (pv_fieldAddr (k := o1 + l1.length * 3 + 1 + 1) rfl Tryz.runUnderlying74 rfl Tryz.sizeOf29 rfl rfl) ?_
    refine Rq rfl (oq_loadOwn rfl rfl Tryz.isAgg29 (by repeat (first | exact Z0 | apply Sel.there)) (j := l1.length * 3 + 2) (by omega) ha2) ?_
    refine Ro rfl (ot_call rfl Tryz.call35 (vs := [_]) rfl (by repeat (first | exact Sees.refl | (apply Sees.cons; (focus ((repeat (first | exact Z0 | apply Sel.there)); done))) | apply Sees.skip)) (cloneBytes _ (pack (hinner l)) _ _ _ _ hrx (plain_byteC _) (by omega) _)) ?_
    rintro _ _ ⟨p2, c2, rfl, rfl⟩
    refine Rp rfl (pv_indexAddrN (j := l1.length) rfl rfl Tryz.runUnderlying39 Tryz.sizeOf76 rfl (by simp at hlen; omega)) ?_
    refine Rp rfl (pv_fieldAddr (k := o1 + l1.length * 3 + 1) rfl Tryz.runUnderlying76 rfl Tryz.sizeOf74 rfl rfl) ?_
    refine Rp rfl (pv_fieldAddr (k := o1 + l1.length * 3 + 1 + 1) rfl Tryz.runUnderlying74 rfl Tryz.sizeOf29 rfl rfl) ?_
    refine rl_op0 rfl rfl (ot_storeOwn (j := l1.length * 3 + 2) rfl rfl rfl Tryz.sizeOf29 (by repeat (first | exact Z0 | apply Sel.there)) (rfl : _ = [_]) rfl (by omega) (by simp [hcells_length]; omega) rfl (hcells_set l1 l3 x p2 c2)) ?_
    rintro _ _ rfl
    refine rl_nil ?_
    refine xt_normal_block ?_
    refine Kx3 3 13 14 rfl ?_
    refine ct_region ?_
    refine Rp rfl (pv_add rfl rfl ⟨by omega, by omega⟩) ?_
    refine Rp rfl (pv_move rfl) ?_
    refine rl_nil ?_
    exact xt_round (α := { q : HL × HL // heards q.1 ++ heards q.2 = heards l ∧ q.2 = l.drop q.1.length }) (E' := fun q => [(3, .slice (some ⟨b1, o1, none⟩) l.length c1), (13, .int .i64 l.length), (14, .int .i64 (q.1.1.length : Int))]) (H' := fun q => own 3 (some ⟨b1, o1, none⟩) l.length c1 (hcells (q.1.1 ++ q.1.2)) :: pack (hinner q.1.1) :: pack (hinner l) :: row b 0 [.int .i64 base, .int .i64 size, .int .i64 cur, .int .i64 nxt, .int .i64 lap, .int .i64 left, nw, .slice p l.length c, lo] :: own 3 p l.length c (hcells l) :: F) (μ := fun q => q.1.2.length) (p := ⟨(l1, x :: l3), he, hl2⟩) (⟨(l1 ++ [(x.1, p2, c2)], l3), by rw [← he]; simp [heards], by have := congrArg List.tail hl2; simp at this; rw [this]; simp⟩) (by show l3.length < (x :: l3).length; simp) (Knows.cons rfl (Knows.cons rfl (Knows.cons (by show look 14 _ = some (.int .i64 ((l1 ++ [(x.1, p2, c2)]).length : Int)); rw [List.length_append]; rfl) Knows.nil))) (by dsimp only; rw [hinner_snoc]; exact Sees.cons (by repeat (first | exact Z0 | apply Sel.there)) (.of fun m h => by have h2 := (Sees.cons (c := pack (hinner l1)) (by repeat (first | exact Z0 | apply Sel.there)) (Sees.cons (c := own 1 p2 _ c2 _) (by repeat (first | exact Z0 | apply Sel.there)) (by repeat (first | exact Sees.refl | (apply Sees.cons; (focus ((repeat (first | exact Z0 | apply Sel.there)); done))) | apply Sees.skip))) : Sees _ (pack (hinner l1) :: own 1 p2 _ c2 _ :: pack (hinner l) :: _)).out m h; exact (Sees.packSnoc).out m h2))
  · skip
    refine ct_exit ?_
    refine xt_exit_then ?_
    refine xt_exit_then ?_
    refine xt_exit_block ?_
    refine Kx1 3 rfl ?_
    refine Cr ?_
    refine Rp rfl (pv_move rfl) ?_
    refine Rp rfl (pv_assign rfl) ?_
    refine Kn1 2 rfl ?_
    refine ct_ret ?_
    exact fin_ret (RVs.tmp rfl (RVs.nil)) Tryz.results13 (⟨_, _, l1, rfl, by have : l2 = [] := List.eq_nil_of_length_eq_zero (by omega); subst this; simpa [heards] using he, rfl⟩) (by have : l2 = [] := List.eq_nil_of_length_eq_zero (by omega); subst this; rw [List.append_nil]; exact (by repeat (first | exact Sees.refl | (apply Sees.cons; (focus ((repeat (first | exact Z0 | apply Sel.there)); done))) | apply Sees.skip)))
theorem rheard_spec (ω : World) (b : Nat) (r : RM) (B : Nat) (hok : ROk r B) (F : List HP) : Spec ω Tryz.prog 13 #[.pointer (some ⟨b, 0, none⟩)] (relayRep b r :: F) fun v' H' =>
    ∃ p' c' l', v' = .slice p' r.heard.length c' ∧ heards l' = r.heard ∧ H' = own 3 p' r.heard.length c' (hcells l') :: pack (hinner l') :: relayRep b r :: F := by
  refine Spec.ex fun x => Spec.fact (p := heards x.l = r.heard) (by repeat (first | exact Z0 | apply Sel.there)) fun hl => ?_
  have hlen : r.heard.length = x.l.length := by rw [← hl]; simp [heards]
  have hbd : ∀ y, y ∈ x.l → y.1.data.length ≤ 1099511627776 := by
    intro y hy
    have : y.1 ∈ r.heard := by rw [← hl]; exact List.mem_map_of_mem hy
    exact Nat.le_trans (hok.hd _ this) hok.hB
  intro w hw
  have h0 := hok.hh
  have hw2 : Holds ω (row b 0 [.int .i64 r.base, .int .i64 r.size, .int .i64 r.cur, .int .i64 r.nxt, .int .i64 r.lap, .int .i64 r.left, .pointer (nowA x.hb r.now), .slice x.p x.l.length x.c, .int .i64 r.losses] :: own 3 x.p x.l.length x.c (hcells x.l) :: pack (hinner x.l) :: nowRep x.hb r.now :: F) w := by
    rw [← hlen]; exact hw.sees (by repeat (first | exact Sees.refl | (apply Sees.cons; (focus ((repeat (first | exact Z0 | apply Sel.there)); done))) | apply Sees.skip))
  refine (rheard_raw ω b r.base r.size r.cur r.nxt r.lap r.left (.pointer (nowA x.hb r.now)) (.int .i64 r.losses) x.l x.p x.c (by omega) hbd (nowRep x.hb r.now :: F) w hw2).mono ?_
  rintro _ w' ⟨v, rfl, H', ⟨p', c', l', rfl, he, rfl⟩, hw'⟩
  refine ⟨_, rfl, _, ⟨p', c', l', by rw [hlen], by rw [he, hl], rfl⟩, ?_⟩
  rw [← hlen] at hw'
  refine hw'.sees (Sees.cons (by repeat (first | exact Z0 | apply Sel.there)) (Sees.cons (by repeat (first | exact Z0 | apply Sel.there)) (Sees.ex x ?_)))
  exact Sees.cons (by repeat (first | exact Z0 | apply Sel.there)) (Sees.cons (by repeat (first | exact Z0 | apply Sel.there)) (Sees.cons (by repeat (first | exact Z0 | apply Sel.there)) (Sees.cons (by repeat (first | exact Z0 | apply Sel.there)) (Sees.fact hl (by repeat (first | exact Sees.refl | (apply Sees.cons; (focus ((repeat (first | exact Z0 | apply Sel.there)); done))) | apply Sees.skip))))))
end Go.Proofs.YtnjljfjncfbinaaGreat
