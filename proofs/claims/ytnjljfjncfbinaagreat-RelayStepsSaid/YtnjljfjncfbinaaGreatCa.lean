/- Contract: all messages are to be sent. -/
import Derived.Test.YtnjljfjncfbinaaGreatSq
import Derived.Test.YtnjljfjncfbinaaGreatCk
set_option linter.all false
namespace Go.Proofs.YtnjljfjncfbinaaGreat
open Go Go.Proofs
set_option maxRecDepth 100000
set_option linter.unusedVariables false
attribute [local irreducible] RL CT XT OQ OT PW PG PV Upon wpL
theorem pv_sliceHi {P : Program} {E : Env} {T e : TypeId} {x hi : Operand} {p : Option Addr} {n c es h : Nat} {k1 : IntKind} {i : Int} (hx : ev E x = some (.slice p n c)) (hhi : ev E hi = some (.int k1 i)) (ei : i = (h : Int))
    (hT : ∀ w, (underlying T).run P w = .ok (.slice e) w) (hs : ∀ w, (sizeOf e).run P w = .ok es w) (h1 : h ≤ c) : PV P (.slice T x none (some hi) none) E (.slice p h c) := by
  have := pv_slice (P := P) (E := E) (l := 0) (h := h) (m := c) (lo := none) (hi := some hi) (mx := none) hx rfl ⟨_, _, hhi, ei⟩ rfl hT hs (by omega) h1 (Nat.le_refl _) (by intro h; cases h)
  rwa [cutp_zero, Nat.sub_zero] at this
theorem Sees.packAdd {H L L' M A B : List HP} {c : HP} (sa : Sel H (pack A) L) (sc : Sel L c L') (e : B = A ++ [c]) (r : Sees L' M) : Sees H (pack B :: M) := by
  subst e
  refine .of fun m h => ?_
  have h1 := (sa.out m h).skip fun m h => sc.out m h
  have h2 := h1.skip fun m h => h.skip r.out
  rw [stars_pack] at h2 ⊢
  simpa using h2
theorem msgs_snoc_length (l : ML) (x : Msg × Option Addr × Nat) : (msgs (l ++ [x])).length = (msgs l).length + 1 := by simp [msgs]
theorem msinner_snoc (l : ML) (v : Msg) (q : Option Addr) (d : Nat) : msinner (l ++ [(v, q, d)]) = msinner l ++ [own 1 q v.2.length d (byteC v.2)] := by simp [msinner]
theorem msgs_take_snoc {l acc : ML} {i : Nat} {y : Msg × Option Addr × Nat} {q : Option Addr} {d : Nat} (h : msgs acc = (msgs l).take i) (hy : l[i]? = some y) : msgs (acc ++ [(y.1, q, d)]) = (msgs l).take (i + 1) := by
  have hlt : i < l.length := by
    rcases Nat.lt_or_ge i l.length with h | h
    · exact h
    · rw [List.getElem?_eq_none h] at hy; cases hy
  have e : l[i] = y := by rw [List.getElem?_eq_getElem hlt] at hy; exact Option.some.inj hy
  have e2 : (msgs l).take (i + 1) = (msgs l).take i ++ [y.1] := by
    have : i < (msgs l).length := by simp [msgs]; exact hlt
    rw [← List.take_append_getElem this]
    simp [msgs, e]
  rw [e2, ← h]; simp [msgs]
def csAll (base size : Int) (ms : List Msg) : CsS := csettle (ms.length + 1) ⟨base, size, ms, none, [], []⟩
theorem csAll_ok0 {base size : Int} {ms : List Msg} (hb : inK .i64 base) (hs : inK .i64 size) (hl : ∀ m, m ∈ ms → m.2.length ≤ 131072) (hc : ms.length ≤ 64) : CsOk ⟨base, size, ms, none, [], []⟩ :=
  ⟨hb, hs, hl, fun _ _ e => (by cases e), by simp [csN]; omega, Nat.le_refl _⟩
theorem csAll_ok {base size : Int} {ms : List Msg} (hb : inK .i64 base) (hs : inK .i64 size) (hl : ∀ m, m ∈ ms → m.2.length ≤ 131072) (hc : ms.length ≤ 64) : CsOk (csAll base size ms) := csettle_ok _ _ (csAll_ok0 hb hs hl hc)
theorem castAll_spec (ω : World) (base size : Int) (hb : inK .i64 base) (hs : inK .i64 size) (l : ML) (lp : Option Addr) (lc k : Nat) (hk : (if 64 < (l.length : Int) then 64 else (l.length : Int)) = (k : Int)) (hkl : k ≤ l.length) (hk64 : k ≤ 64) (hkc : k ≤ lc) (hdat : ∀ m, m ∈ msgs l → m.2.length ≤ 131072) (X D : HP) (hX : Rd ω X 2 lp l.length (mscells l)) (hD : ∀ y, y ∈ l → Rd ω D 1 y.2.1 y.1.2.length (byteC y.1.2)) (F : List HP) : Spec ω Tryz.prog 20 #[.agg #[.int .i64 base, .int .i64 size], .slice lp l.length lc] (X :: D :: F) fun v' H' => ∃ b, v' = .pointer (some ⟨b, 0, none⟩) ∧ H' = casterRep b (csAll base size ((msgs l).take k)) :: X :: D :: F := by
  refine spec_of_body Tryz.func20 rfl Tryz.ntmps20 rfl ?_
  refine Cr ?_
  refine Ro rfl (ot_box rfl rfl (rfl : _ = [_, _])) ?_
  rintro _ _ ⟨b1, rfl, rfl⟩
  refine Rp rfl (pv_assign rfl) ?_
  refine Kn2 1 2 rfl ?_
  refine Cr ?_
  refine Rq rfl (oq_loadAgg (us := [_, _]) rfl rfl Tryz.isAgg23 Tryz.sizeOf23 Z0 (by rfl) (by rfl) (by rfl)) ?_
  refine Rp rfl (pv_build (ps := [(0, _)]) (cs := [_, _, _, _, _, _]) rfl Tryz.zeroValue123 Tryz.runUnderlying123 (.cons Tryz.sizeOf23 (.cons Tryz.sizeOf51 (.cons Tryz.sizeOf120 (.cons Tryz.sizeOf71 (.cons Tryz.sizeOf121 (.nil)))))) rfl) ?_
  refine Ro rfl (ot_box rfl rfl (rfl : _ = [_, _, _, _, _, _])) ?_
  rintro _ _ ⟨b2, rfl, rfl⟩
  refine Rp rfl (pv_assign rfl) ?_
  refine Kn2 1 5 rfl ?_
  refine ct_seq ?_
  refine Cr ?_
  refine Rp rfl (pv_move rfl) ?_
  refine Rp rfl (pv_move rfl) ?_
  refine Rp rfl (pv_len_slice rfl rfl Tryz.runUnderlying51) ?_
  refine Rp rfl (pv_min rfl rfl) ?_
  refine Rp rfl (pv_sliceHi (h := k) rfl rfl hk Tryz.runUnderlying51 Tryz.sizeOf74 hkc) ?_
  refine Rp rfl (pv_len_slice rfl rfl Tryz.runUnderlying51) ?_
  refine Rp rfl (pv_move rfl) ?_
  refine Kn4 5 15 16 17 rfl ?_
  refine ct_block ?_
  refine ct_loop (α := { q : Nat × ML × Option Addr × Nat // q.1 ≤ k ∧ msgs q.2.1 = (msgs l).take q.1 }) (fun q => [(5, .pointer (some ⟨b2, 0, none⟩)), (15, .slice lp k lc), (16, .int .i64 (k : Int)), (17, .int .i64 (q.1.1 : Int))]) (fun q => row b2 0 [.int .i64 base, .int .i64 size, .slice q.1.2.2.1 ((msgs q.1.2.1).length) q.1.2.2.2, .pointer none, .slice none 0 0, .slice none 0 0] :: own 2 q.1.2.2.1 ((msgs q.1.2.1).length) q.1.2.2.2 (mscells q.1.2.1) :: pack (msinner q.1.2.1) :: X :: D :: F) (fun q => k - q.1.1) ⟨(0, [], none, 0), Nat.zero_le _, rfl⟩ (Knows.cons rfl (Knows.cons rfl (Knows.cons rfl (Knows.cons rfl (Knows.nil))))) (Sees.cons Z0 (Sees.nilOwn (Sees.packNil (Sees.cons Z1 (Sees.cons Z1 (Sees.skip (Sees.refl))))))) ?_
  intro ⟨⟨i, acc, p, c⟩, hi, ha⟩
  dsimp only at hi ha ⊢
  have hal : (msgs acc).length = i := by rw [ha, List.length_take]; simp [msgs]; omega
  refine Cr ?_
  refine Rp rfl (pv_bin rfl rfl rfl) ?_
  refine Kn5 5 15 16 17 18 rfl ?_
  refine ct_seq ?_
  refine ct_cond_d rfl (fun hz3 => ?_) (fun hz3 => ?_)
  · skip
    obtain ⟨⟨⟨ty, d⟩, mp, mc⟩, hy⟩ : ∃ y, l[i]? = some y := ⟨l[i], List.getElem?_eq_getElem (by omega)⟩
    have hus := mscells_get hy
    dsimp only at hus
    have hDy : Rd ω D 1 mp d.length (byteC d) := hD _ (List.mem_of_getElem? hy)
    have hd : d.length ≤ 131072 := hdat (ty, d) (List.mem_map.2 ⟨_, List.mem_of_getElem? hy, rfl⟩)
    refine ct_rdsome hX Z3 (by omega) (fun b0 o0 hp0 => ?_)
    subst hp0
    refine ct_skip ?_
    refine Kx4 5 15 16 17 rfl ?_
    refine ct_seq ?_
    refine ct_block ?_
    refine Cr ?_
    refine Rp rfl (pv_indexAddrN (j := i) rfl rfl Tryz.runUnderlying51 Tryz.sizeOf74 rfl (by omega)) ?_
    refine Rq rfl (oq_loadAggRd (b := b0) (off := o0) (j := i * 2) rfl rfl Tryz.isAgg74 Tryz.sizeOf74 hX Z3 rfl hus rfl) ?_
    refine Ro rfl (ot_alloc rfl Tryz.zeroValue74 (rfl : _ = [_, _])) ?_
    rintro _ _ ⟨b4, rfl, rfl⟩
    refine rl_op0 rfl rfl (ot_store rfl rfl rfl Tryz.sizeOf74 Z0 (rfl : _ = [_, _]) rfl (by rfl) (by rfl) (by first | rfl | assumption) (by exact (rfl : _ = [_, _]))) ?_
    rintro _ _ rfl
    refine Kn5 5 7 15 16 17 rfl ?_
    refine ct_plan [.q 0, .q 1, .q 2, .q 3, .q 4, .q 5, .q 6, .q 7, .q 8, .e 9, .q 10, .e 11, .e 12, .q 13, .q 14, .b 15] _ [_] mixed (by decide +kernel) (Sees.cons Z2 (Sees.cons Z0 (Sees.cons Z0 (Sees.cons Z0 (Sees.cons Z0 (Sees.cons Z0 (Sees.refl))))))) ?_
    refine pw_q rfl rfl rfl rfl (oq_pv (pv_move rfl)) ?_
    refine pw_q rfl rfl rfl rfl (oq_pv (pv_move rfl)) ?_
    refine pw_q rfl rfl rfl rfl (oq_pv (pv_nilCheck rfl)) ?_
    refine pw_q rfl rfl rfl rfl (oq_pv (pv_fieldAddr (k := 2) rfl Tryz.runUnderlying123 rfl Tryz.sizeOf51 rfl rfl)) ?_
    refine pw_q rfl rfl rfl rfl (oq_load rfl rfl Tryz.isAgg51 Z1 (by rfl) (by rfl)) ?_
    refine pw_q rfl rfl rfl rfl (oq_pv (pv_fieldAddr (k := 0) rfl Tryz.runUnderlying74 rfl Tryz.sizeOf21 rfl rfl)) ?_
    refine pw_q rfl rfl rfl rfl (oq_load rfl rfl Tryz.isAgg21 Z0 (by rfl) (by rfl)) ?_
    refine pw_q rfl rfl rfl rfl (oq_pv (pv_fieldAddr (k := 1) rfl Tryz.runUnderlying74 rfl Tryz.sizeOf29 rfl rfl)) ?_
    refine pw_q rfl rfl rfl rfl (oq_load rfl rfl Tryz.isAgg29 Z0 (by rfl) (by rfl)) ?_
    refine pw_e rfl rfl rfl rfl (ot_call rfl Tryz.call35 (vs := [_]) rfl (Sees.cons Z5 (Sees.refl)) (cloneBytes _ D mp d.length mc (byteC d) (hDy) (plain_byteC _) (by omega) _)) ?_
    rintro _ _ ⟨p5, c6, rfl, rfl⟩
    refine ⟨[_, _], Sees.cons Z0 (Sees.cons Z1 (Sees.cons Z1 (Sees.cons Z1 (Sees.cons Z1 (Sees.cons Z1 (Sees.cons Z0 (Sees.refl))))))), ?_⟩
    refine pw_q rfl rfl rfl rfl (oq_pv (pv_build (ps := [(0, _), (1, _)]) (cs := [_, _]) rfl Tryz.zeroValue74 Tryz.runUnderlying74 (.cons Tryz.sizeOf21 (.cons Tryz.sizeOf29 (.nil))) rfl)) ?_
    refine pw_e rfl rfl rfl rfl (ot_buildSlice1 rfl rfl Tryz.runUnderlying51 Tryz.sizeOf74 Tryz.zeroValue74 rfl rfl (rfl : _ = [_, _]) rfl) ?_
    rintro _ _ ⟨b7, rfl, rfl⟩
    refine ⟨[_, _, _], Sees.cons Z0 (Sees.cons Z0 (Sees.cons Z0 (Sees.cons Z0 (Sees.cons Z0 (Sees.cons Z0 (Sees.cons Z0 (Sees.cons Z0 (Sees.refl)))))))), ?_⟩
    refine pw_e rfl rfl rfl rfl (ot_append (by_ := 32) rfl rfl rfl Tryz.runUnderlying51 Tryz.runUnderlying51 Tryz.sizeOf74 Tryz.typeInfo74 rfl Tryz.zeroValue74 rfl (by decide) Z2 Z0 (rd_own) (by rfl) (by omega)) ?_
    rintro _ _ ⟨p8, c9, rfl, rfl⟩
    refine ⟨[_, _, _], Sees.cons Z0 (Sees.cons Z0 (Sees.cons Z0 (Sees.cons Z0 (Sees.cons Z0 (Sees.cons Z0 (Sees.cons Z0 (Sees.cons Z0 (Sees.refl)))))))), ?_⟩
    refine pw_q rfl rfl rfl rfl (oq_pv (pv_nilCheck rfl)) ?_
    refine pw_q rfl rfl rfl rfl (oq_pv (pv_fieldAddr (k := 2) rfl Tryz.runUnderlying123 rfl Tryz.sizeOf51 rfl rfl)) ?_
    refine pw_b0 rfl rfl rfl (ot_store rfl rfl rfl Tryz.sizeOf51 Z4 (rfl : _ = [_]) rfl (by rfl) (by rfl) (by first | rfl | assumption) (by exact (rfl : _ = [_, _, _, _, _, _]))) ?_
    rintro _ _ rfl
    refine pw_done ?_
    refine xt_normal_block ?_
    refine Kx4 5 15 16 17 rfl ?_
    refine ct_region ?_
    refine Rp rfl (pv_bin rfl rfl rfl) ?_
    refine Rp rfl (pv_move rfl) ?_
    refine rl_nil ?_
    exact xt_round (α := { q : Nat × ML × Option Addr × Nat // q.1 ≤ k ∧ msgs q.2.1 = (msgs l).take q.1 }) (E' := fun q => [(5, .pointer (some ⟨b2, 0, none⟩)), (15, .slice (some ⟨b0, o0, none⟩) k lc), (16, .int .i64 (k : Int)), (17, .int .i64 (q.1.1 : Int))]) (H' := fun q => row b2 0 [.int .i64 base, .int .i64 size, .slice q.1.2.2.1 ((msgs q.1.2.1).length) q.1.2.2.2, .pointer none, .slice none 0 0, .slice none 0 0] :: own 2 q.1.2.2.1 ((msgs q.1.2.1).length) q.1.2.2.2 (mscells q.1.2.1) :: pack (msinner q.1.2.1) :: X :: D :: F) (μ := fun q => k - q.1.1) (p := ⟨(i, acc, p, c), hi, ha⟩) (⟨(i + 1, acc ++ [((ty, d), p5, c6)], p8, c9), by dsimp only; omega, msgs_take_snoc ha hy⟩) (by show k - (i + 1) < k - i; omega) (Knows.cons rfl (Knows.cons rfl (Knows.cons rfl (Knows.cons (look_int rfl (cnt_wrap (by omega))) (Knows.nil))))) (by dsimp only; rw [msgs_snoc_length, mscells_append]; exact Sees.cons Z0 (Sees.cons Z0 (Sees.packAdd Z3 Z1 (msinner_snoc _ _ _ _) (Sees.cons Z2 (Sees.cons Z2 (Sees.skip (Sees.skip (Sees.refl))))))))
  · skip
    have ei : i = k := by omega
    subst ei
    have hok0 := csAll_ok0 (ms := msgs acc) hb hs (fun m hm => hdat m (by rw [ha] at hm; exact List.mem_of_mem_take hm)) (by omega)
    refine ct_exit ?_
    refine xt_exit_then ?_
    refine xt_exit_then ?_
    refine xt_exit_block ?_
    refine Kx1 5 rfl ?_
    refine Cr ?_
    refine Rp rfl (pv_move rfl) ?_
    refine Ro rfl (ot_call rfl Tryz.call37 (vs := [_]) rfl (Sees.cons Z0 (Sees.cons Z0 (Sees.cons Z0 (Sees.fact trivial (Sees.nilOwn (Sees.nilOwn (Sees.refl))))))) (csettle_eq _ b2 ⟨base, size, msgs acc, none, [], []⟩ ⟨p, c, acc, 0, none, 0, none, 0⟩ _ _ rfl (Nat.lt_succ_self _) hok0 rfl _)) ?_
    rintro _ _ ⟨rfl, rfl⟩
    refine Kn1 5 rfl ?_
    refine Cr ?_
    refine Rp rfl (pv_move rfl) ?_
    refine Rp rfl (pv_assign rfl) ?_
    refine Kn1 4 rfl ?_
    refine ct_ret ?_
    exact fin_ret (RVs.tmp rfl (RVs.nil)) Tryz.results20 ⟨_, rfl, by rw [ha]; rfl⟩ (Sees.cons Z0 (Sees.cons Z0 (Sees.cons Z0 (Sees.refl))))
end Go.Proofs.YtnjljfjncfbinaaGreat
