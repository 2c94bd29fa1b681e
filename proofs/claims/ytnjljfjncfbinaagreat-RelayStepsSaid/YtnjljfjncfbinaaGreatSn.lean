/- Contracts: a new world, a new buffer. -/
import Derived.Test.YtnjljfjncfbinaaGreatSq
import Derived.Test.YtnjljfjncfbinaaGreatRb
set_option linter.all false
namespace Go.Proofs.YtnjljfjncfbinaaGreat
open Go Go.Proofs
set_option maxRecDepth 100000
set_option linter.unusedVariables false
attribute [local irreducible] RL CT XT OQ OT PW PG PV Upon wpL
theorem arows_snoc {abs : List Nat} {l : List MS} {i ab : Nat} {x : MS} (hx : l[i]? = some x) (h : abs.length = i) : arows (abs ++ [ab]) (l.take (i + 1)) = arows abs (l.take i) ++ [arow ab x] := by
  have hlt : i < l.length := by
    rcases Nat.lt_or_ge i l.length with h | h
    · exact h
    · rw [List.getElem?_eq_none h] at hx; cases hx
  have e : l[i] = x := by rw [List.getElem?_eq_getElem hlt] at hx; exact Option.some.inj hx
  rw [← List.take_append_getElem hlt, e]
  unfold arows
  rw [List.zipWith_append (by rw [List.length_take]; omega)]
  rfl
theorem mvals_get {l : List MS} {i : Nat} {x : MS} (h : l[i]? = some x) : (mvals l)[i]? = some (.iface x.K.tid (.pointer (some ⟨x.mb, 0, none⟩))) := by simp [mvals, h]
@[simp] theorem mvals_length (l : List MS) : (mvals l).length = l.length := by simp [mvals]
theorem Sees.packAdd {H L L' M A B : List HP} {c : HP} (sa : Sel H (pack A) L) (sc : Sel L c L') (e : B = A ++ [c]) (r : Sees L' M) : Sees H (pack B :: M) := by
  subst e
  refine .of fun m h => ?_
  have h1 := (sa.out m h).skip fun m h => sc.out m h
  have h2 := h1.skip fun m h => h.skip r.out
  rw [stars_pack] at h2 ⊢
  simpa using h2
theorem Sees.packNil2 {H M : List HP} {P : List HP} (e : P = []) (s : Sees H M) : Sees H (pack P :: M) := by subst e; exact Sees.packNil s
theorem schedNew_spec (ω : World) (bb : Nat) (l : List MS) (hdead : ∀ x, x ∈ l → x.dead = false) (hll : l.length ≤ 1000000) (lp : Option Addr) (lc : Nat) (X : HP) (hX : Rd ω X 1 lp l.length (mvals l)) (F : List HP) : Spec ω Tryz.prog 19 #[.pointer (some ⟨bb, 0, none⟩), .slice lp l.length lc] (X :: F) fun v' H' => ∃ wd abs p c, abs.length = l.length ∧ v' = .pointer (some ⟨wd, 0, none⟩) ∧ H' = row wd 0 [.pointer (some ⟨bb, 0, none⟩), .slice p abs.length c, .int .i64 0, .slice none 0 0] :: own 1 p abs.length c (aptrs abs) :: pack (arows abs l) :: X :: F := by
  refine spec_of_body Tryz.func19 rfl Tryz.ntmps19 rfl ?_
  refine Cr ?_
  refine Rp rfl (pv_assign rfl) ?_
  refine Kn2 0 1 rfl ?_
  refine Cr ?_
  refine Rp rfl (pv_move rfl) ?_
  refine Rp rfl (pv_build (ps := [(0, _)]) (cs := [_, _, _, _]) rfl Tryz.zeroValue114 Tryz.runUnderlying114 (.cons Tryz.sizeOf53 (.cons Tryz.sizeOf111 (.cons Tryz.sizeOf2 (.cons Tryz.sizeOf112 (.nil))))) rfl) ?_
  refine Ro rfl (ot_box rfl rfl (rfl : _ = [_, _, _, _])) ?_
  rintro _ _ ⟨b1, rfl, rfl⟩
  refine Rp rfl (pv_assign rfl) ?_
  refine Kn2 1 5 rfl ?_
  refine ct_seq ?_
  refine Cr ?_
  refine Rp rfl (pv_move rfl) ?_
  refine Rp rfl (pv_len_slice rfl rfl Tryz.runUnderlying61) ?_
  refine Rp rfl (pv_move rfl) ?_
  refine Kn4 5 11 12 13 rfl ?_
  refine ct_block ?_
  refine ct_loop (α := { q : Nat × List Nat × Option Addr × Nat // q.1 ≤ l.length ∧ q.2.1.length = q.1 }) (fun q => [(5, .pointer (some ⟨b1, 0, none⟩)), (11, .slice lp l.length lc), (12, .int .i64 (l.length : Int)), (13, .int .i64 (q.1.1 : Int))]) (fun q => row b1 0 [.pointer (some ⟨bb, 0, none⟩), .slice q.1.2.2.1 q.1.2.1.length q.1.2.2.2, .int .i64 0, .slice none 0 0] :: own 1 q.1.2.2.1 q.1.2.1.length q.1.2.2.2 (aptrs q.1.2.1) :: pack (arows q.1.2.1 (l.take q.1.1)) :: X :: F) (fun q => l.length - q.1.1) ⟨(0, [], none, 0), Nat.zero_le _, rfl⟩ (Knows.cons rfl (Knows.cons rfl (Knows.cons rfl (Knows.cons rfl (Knows.nil))))) (Sees.cons Z0 (Sees.nilOwn (Sees.packNil2 rfl (Sees.cons Z0 (Sees.refl))))) ?_
  intro ⟨⟨i, abs, p, c⟩, hi, ha⟩
  dsimp only at hi ha ⊢
  refine Cr ?_
  refine Rp rfl (pv_bin rfl rfl rfl) ?_
  refine Kn5 5 11 12 13 14 rfl ?_
  refine ct_seq ?_
  refine ct_cond_d rfl (fun hz2 => ?_) (fun hz2 => ?_)
  · skip
    obtain ⟨⟨K, mb, s, dead⟩, hx⟩ : ∃ x, l[i]? = some x := ⟨l[i], List.getElem?_eq_getElem (by omega)⟩
    have hdx : dead = false := hdead _ (List.mem_of_getElem? hx)
    subst hdx
    have hxv := mvals_get hx
    refine ct_rdsome hX Z3 (by omega) (fun b0 o0 hp0 => ?_)
    subst hp0
    refine ct_skip ?_
    refine Kx4 5 11 12 13 rfl ?_
    refine ct_seq ?_
    refine ct_block ?_
    refine Cr ?_
    refine Rp rfl (pv_indexAddrN (j := i) rfl rfl Tryz.runUnderlying61 Tryz.sizeOf116 rfl (by omega)) ?_
    refine Rq rfl (oq_load_of (b := b0) (off := o0) (vs := mvals l) rfl rfl Tryz.isAgg116 (hX.reads) Z3 (Nat.ble_eq_true_of_le (by omega)) (by rw [show o0 + i * 1 - o0 = i from by omega]; exact hxv)) ?_
    refine Rp rfl (pv_assign rfl) ?_
    refine Kn5 5 7 11 12 13 rfl ?_
    refine ct_region ?_
    refine Rp rfl (pv_move rfl) ?_
    refine Rp rfl (pv_move rfl) ?_
    refine Rp rfl (pv_nilCheck rfl) ?_
    refine Rp rfl (pv_fieldAddr (k := 1) rfl Tryz.runUnderlying114 rfl Tryz.sizeOf111 rfl rfl) ?_
    refine Rq rfl (oq_load rfl rfl Tryz.isAgg111 Z0 (by rfl) (by rfl)) ?_
    refine Rp rfl (pv_move rfl) ?_
    refine Rp rfl (pv_build (ps := [(0, _)]) (cs := [_, _]) rfl Tryz.zeroValue119 Tryz.runUnderlying119 (.cons Tryz.sizeOf116 (.cons Tryz.sizeOf4 (.nil))) rfl) ?_
    refine Ro rfl (ot_box rfl rfl (rfl : _ = [_, _])) ?_
    rintro _ _ ⟨b3, rfl, rfl⟩
    refine Ro rfl (ot_buildSlice1 rfl rfl Tryz.runUnderlying111 Tryz.sizeOf117 Tryz.zeroValue117 rfl rfl (rfl : _ = [_]) rfl) ?_
    rintro _ _ ⟨b4, rfl, rfl⟩
    refine Ro rfl (ot_append (by_ := 8) rfl rfl rfl Tryz.runUnderlying111 Tryz.runUnderlying111 Tryz.sizeOf117 Tryz.typeInfo117 rfl Tryz.zeroValue117 rfl (by decide) Z3 Z0 (rd_own) (by rfl) (by omega)) ?_
    rintro _ _ ⟨p5, c6, rfl, rfl⟩
    refine Rp rfl (pv_nilCheck rfl) ?_
    refine Rp rfl (pv_fieldAddr (k := 1) rfl Tryz.runUnderlying114 rfl Tryz.sizeOf111 rfl rfl) ?_
    refine rl_op0 rfl rfl (ot_store rfl rfl rfl Tryz.sizeOf111 Z3 (rfl : _ = [_]) rfl (by rfl) (by rfl) (by first | rfl | assumption) (by exact (rfl : _ = [_, _, _, _]))) ?_
    rintro _ _ rfl
    refine rl_nil ?_
    refine xt_normal_block ?_
    refine Kx4 5 11 12 13 rfl ?_
    refine ct_region ?_
    refine Rp rfl (pv_bin rfl rfl rfl) ?_
    refine Rp rfl (pv_move rfl) ?_
    refine rl_nil ?_
    skip
    exact xt_round (α := { q : Nat × List Nat × Option Addr × Nat // q.1 ≤ l.length ∧ q.2.1.length = q.1 }) (E' := fun q => [(5, .pointer (some ⟨b1, 0, none⟩)), (11, .slice (some ⟨b0, o0, none⟩) l.length lc), (12, .int .i64 (l.length : Int)), (13, .int .i64 (q.1.1 : Int))]) (H' := fun q => row b1 0 [.pointer (some ⟨bb, 0, none⟩), .slice q.1.2.2.1 q.1.2.1.length q.1.2.2.2, .int .i64 0, .slice none 0 0] :: own 1 q.1.2.2.1 q.1.2.1.length q.1.2.2.2 (aptrs q.1.2.1) :: pack (arows q.1.2.1 (l.take q.1.1)) :: X :: F) (μ := fun q => l.length - q.1.1) (p := ⟨(i, abs, p, c), hi, ha⟩) (⟨(i + 1, abs ++ [b3], p5, c6), by dsimp only; omega, by simp; omega⟩) (by show l.length - (i + 1) < l.length - i; omega) (Knows.cons rfl (Knows.cons rfl (Knows.cons rfl (Knows.cons (look_int rfl (cnt_wrap (by omega))) (Knows.nil))))) (by dsimp only; rw [show aptrs (abs ++ [b3]) = aptrs abs ++ [.pointer (some ⟨b3, 0, none⟩)] from by simp [aptrs], show (abs ++ [b3]).length = abs.length + 1 from by simp]; exact Sees.cons Z0 (Sees.cons Z0 (Sees.packAdd Z2 Z1 (arows_snoc hx ha) (Sees.cons Z1 (Sees.skip (Sees.refl))))))
  · skip
    have ei : i = l.length := by omega
    subst ei
    refine ct_exit ?_
    refine xt_exit_then ?_
    refine xt_exit_then ?_
    refine xt_exit_block ?_
    refine Kx1 5 rfl ?_
    refine Cr ?_
    refine Rp rfl (pv_move rfl) ?_
    refine Rp rfl (pv_assign rfl) ?_
    refine Kn1 4 rfl ?_
    refine ct_ret ?_
    refine fin_ret (RVs.tmp rfl (RVs.nil)) Tryz.results19 ⟨b1, abs, p, c, ha, rfl, rfl⟩ ?_
    rw [List.take_length]
    exact Sees.cons Z0 (Sees.cons Z0 (Sees.cons Z0 (Sees.cons Z0 (Sees.refl))))
theorem newBuf {bb wb k : Nat} {H F : List HP} (hk : k ≤ 16384) (s : Sees H (row bb 0 [.slice (some ⟨wb, 0, none⟩) k k, .int .i64 0] :: own 1 (some ⟨wb, 0, none⟩) k k (List.replicate k (.int .u64 0)) :: F)) : Sees H (bufRep bb (List.replicate k 0) :: F) := by
  refine Sees.ex ⟨wb, 0⟩ ?_
  simp only [List.length_replicate]
  refine .of fun m h => ?_
  have h := s.out m h
  refine h.skip fun m h => ?_
  obtain ⟨sp, ⟨_, _, hsp⟩, h⟩ := stars_own.1 h
  have : sp = [] := List.eq_nil_of_length_eq_zero (by simpa using hsp)
  subst this
  rw [List.append_nil] at h
  have e : wcells (List.replicate k 0) = List.replicate k (.int .u64 0) := by simp [wcells]
  rw [e]
  exact h.skip fun _ h => (Sees.fact hk .refl).out _ h
theorem bnew_spec (ω : World) (size : Int) (k : Nat) (h8 : 8 ≤ size) (h2 : size ≤ 131072) (hm8 : size.tmod 8 = 0) (hk8 : IntKind.i64.wrap (size.tdiv 8) = (k : Int)) (hk0 : k ≤ 16384) (F : List HP) : Spec ω Tryz.prog 18 #[.int .i64 size] F fun v' H' => ∃ bb, v' = .tuple #[.pointer (some ⟨bb, 0, none⟩), .int .i64 0] ∧ H' = bufRep bb (List.replicate k 0) :: F := by
  refine spec_of_body Tryz.func18 rfl Tryz.ntmps18 rfl ?_
  refine Cr ?_
  refine Rp rfl (pv_assign rfl) ?_
  refine Rp rfl (pv_assign rfl) ?_
  refine Kn1 0 rfl ?_
  refine ct_seq ?_
  refine Cr ?_
  refine Rp rfl (pv_move rfl) ?_
  refine Rp rfl (pv_bin rfl rfl rfl) ?_
  refine Rp rfl (pv_move rfl) ?_
  refine rl_split_d (fun hz1 => absurd hz1 (by omega)) (fun _ => ?_)
  refine Ru rfl (pv_move rfl) ?_
  refine Ru rfl (pv_bin rfl rfl rfl) ?_
  refine Rp rfl (pv_pick0 rfl rfl) ?_
  refine Rp rfl (pv_move rfl) ?_
  refine rl_split_d (fun hz2 => absurd hz2 (by omega)) (fun _ => ?_)
  refine Ru rfl (pv_move rfl) ?_
  refine Ru rfl (pv_rem rfl rfl (by decide)) ?_
  refine Ru rfl (pv_bin rfl rfl rfl) ?_
  refine Rp rfl (pv_pick0 rfl rfl) ?_
  refine Kn2 0 14 rfl ?_
  refine ct_cond_n rfl (fun hz3 => absurd hm8 hz3) (fun _ => ?_)
  refine ct_skip ?_
  refine Kx1 0 rfl ?_
  refine Cr ?_
  refine Rp rfl (pv_move rfl) ?_
  refine Rp rfl (pv_quo rfl rfl (by decide)) ?_
  refine Ro rfl (ot_make1 (n := k) (by_ := 8) rfl rfl rfl (by exact hk8) Tryz.runUnderlying103 Tryz.sizeOf149 Tryz.zeroValue149 Tryz.typeInfo149 rfl (by omega) (by omega) (rfl : _ = [_])) ?_
  rintro _ _ ⟨b4, rfl, rfl⟩
  refine Rp rfl (pv_build (ps := [(0, _)]) (cs := [_, _]) rfl Tryz.zeroValue110 Tryz.runUnderlying110 (.cons Tryz.sizeOf103 (.cons Tryz.sizeOf108 (.nil))) rfl) ?_
  refine Ro rfl (ot_box rfl rfl (rfl : _ = [_, _])) ?_
  rintro _ _ ⟨b5, rfl, rfl⟩
  refine Rp rfl (pv_assign rfl) ?_
  refine Rp rfl (pv_assign rfl) ?_
  refine Kn2 2 3 rfl ?_
  refine ct_ret ?_
  refine fin_ret (RVs.tmp rfl (RVs.tmp rfl (RVs.nil))) Tryz.results18 ⟨_, rfl, rfl⟩ ?_
  exact newBuf hk0 (Sees.cons Z0 (Sees.cons Z0 (Sees.refl)))
end Go.Proofs.YtnjljfjncfbinaaGreat
