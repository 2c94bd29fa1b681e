/- The law RelaySteps. -/
import Derived.Test.YtnjljfjncfbinaaGreatSq
import Derived.Test.YtnjljfjncfbinaaGreatPl2
import Derived.Test.YtnjljfjncfbinaaGreatSl8
import Derived.KernelRfl
set_option linter.all false
namespace Go.Proofs.YtnjljfjncfbinaaGreat
open Go Go.Proofs
set_option maxRecDepth 100000
set_option linter.unusedVariables false

theorem ear_ut : Tryz.prog.underlying 25 = some (.struct (Tryz.prog.fieldsOf 25)) := by kernel_rfl
theorem ear_held : Tryz.prog.stoodInHeld 25 = false := by kernel_rfl
theorem ear_guard : Tryz.prog.eqGuardType Tryz.prog.depth 25 = false := by kernel_rfl
theorem ear_fields : (Tryz.prog.fieldsOf 25).toList = [⟨ "Cursor", 2, 0, false, "", "", 0⟩, ⟨ "Next", 2, 1, false, "", "", 8⟩, ⟨ "Lapped", 2, 2, false, "", "", 16⟩] := by kernel_rfl
theorem ear_eq (a b c a' b' c' : Int) : EqL Tryz.prog #[.int .i64 a, .int .i64 b, .int .i64 c] #[.int .i64 a', .int .i64 b', .int .i64 c'] [⟨ "Cursor", 2, 0, false, "", "", 0⟩, ⟨ "Next", 2, 1, false, "", "", 8⟩, ⟨ "Lapped", 2, 2, false, "", "", 16⟩] (decide (a = a') && (decide (b = b') && (decide (c = c') && true))) :=
  .cons rfl Tryz.runUnderlying2 Tryz.isAgg2 rfl rfl (.cons rfl Tryz.runUnderlying2 Tryz.isAgg2 rfl rfl (.cons rfl Tryz.runUnderlying2 Tryz.isAgg2 rfl rfl .nil))
theorem nowAcc_nil (now : Option (HS × HPh)) : (nowAcc now).p = none ∧ (nowAcc now).m = 0 ∧ (nowAcc now).c = 0 := by
  rcases now with _ | ⟨s, ph⟩
  · exact ⟨rfl, rfl, rfl⟩
  · cases ph <;> exact ⟨rfl, rfl, rfl⟩
theorem same_spec' (ω : World) (hs : List HeardV) (l1 l2 : HL) (p1 p2 : Option Addr) (c1 c2 : Nat) (hn : hs.length ≤ 1000) (h1 : heards l1 = hs) (h2 : heards l2 = hs) (F : List HP) :
    Spec ω Tryz.prog 12 #[.slice p1 hs.length c1, .slice p2 hs.length c2] (own 3 p1 hs.length c1 (hcells l1) :: own 3 p2 hs.length c2 (hcells l2) :: pack (hinner l1) :: pack (hinner l2) :: F)
      fun v' H' => v' = .bool true ∧ H' = own 3 p1 hs.length c1 (hcells l1) :: own 3 p2 hs.length c2 (hcells l2) :: pack (hinner l1) :: pack (hinner l2) :: F := by
  have e : hs.length = l1.length := by rw [← h1]; simp [heards]
  rw [e] at hn ⊢
  exact same_spec ω l1 l2 p1 p2 c1 c2 (by omega) (by rw [h1, h2]) F
theorem feed_ok {r : RM} {B : Nat} (h : ROk r B) (hs : r.now = none ∨ nowMore r.now = true) : ∀ (l : List Ans) (r : RM) (B : Nat), ROk r B → (r.now = none ∨ nowMore r.now = true) → (∀ a, a ∈ l → inK .u64 a.v ∧ a.data.length ≤ 100) → B + 100 * l.length ≤ 1099511627776 →
    ∃ B', ROk (rfeed r l) B' ∧ ((rfeed r l).now = none ∨ nowMore (rfeed r l).now = true) ∧ B' ≤ B + 100 * l.length := by
  intro l
  induction l with
  | nil => intro r B h hs _ hB; exact ⟨B, h, hs, Nat.le_add_right _ _⟩
  | cons a l ih =>
    intro r B h hs hl hB
    have ha := hl a List.mem_cons_self
    simp only [List.length_cons] at hB ⊢
    obtain ⟨h1, h2⟩ := rtake_ok h hs ha.1 (by omega)
    obtain ⟨B', h3, h4, h5⟩ := ih (rtake r a) (B + a.data.length) h1 h2 (fun x hx => hl x (List.mem_cons_of_mem _ hx)) (by omega)
    exact ⟨B', h3, h4, by omega⟩
theorem rfeed_snoc (r : RM) (l : List Ans) (a : Ans) : rfeed r (l ++ [a]) = rtake (rfeed r l) a := by simp [rfeed]
theorem Told.take {ω : World} {X : HP} {tp : Option Addr} {L Li : TL} (h : Told ω X tp L) (hl : L.take Li.length = Li) (hle : Li.length ≤ L.length) : Told ω X tp Li := by
  have hget : ∀ (i : Nat) (x : Ans × Option Addr × Nat), Li[i]? = some x → L[i]? = some x := by
    intro i x hx
    rw [← hl, List.getElem?_take] at hx
    split at hx
    · exact hx
    · cases hx
  refine ⟨?_, fun i x hx => h.hi i x (hget i x hx), fun i x hx => h.hu i x (hget i x hx), Nat.le_trans hle h.hl, fun i x hx => h.hB i x (hget i x hx)⟩
  have h2 := h.hr.cut (l := 0) (h := Li.length) (m := L.length) (Nat.zero_le _) hle hle
  rw [cutp_zero] at h2
  have e : ((tcells L).drop (0 * 3)).take ((Li.length - 0) * 3) = tcells Li := by
    have e1 : Li ++ L.drop Li.length = L := by
      have := List.take_append_drop Li.length L
      rwa [hl] at this
    have e2 : tcells L = tcells Li ++ tcells (L.drop Li.length) := by
      rw [show tcells L = tcells (Li ++ L.drop Li.length) from by rw [e1]]
      simp [tcells]
    have e3 : (tcells Li).length = Li.length * 3 := by
      have : ∀ l : TL, (tcells l).length = l.length * 3 := by intro l; induction l with | nil => rfl | cons x l ih => simp [tcells] at *; omega
      exact this Li
    rw [e2]; simp [← e3]
  rw [e] at h2
  exact h2
attribute [local irreducible] pack hcells hinner rloop rnew rtake relayRep heards
set_option maxHeartbeats 4000000 in
theorem relaySteps_spec (ω : World) (hfix : PureSpec Tryz.prog 7 #[] (.bool true)) (base size cur nxt lap times : Int) (hb0 : inK .i64 base) (hs0 : inK .i64 size) (tp : Option Addr) (tc : Nat) (L : TL) (htc : L.length ≤ tc) (hr : Rd ω (fact True) 3 tp L.length (tcells L)) (hi : ∀ (i : Nat) (x : Ans × Option Addr × Nat), L[i]? = some x → Rd ω (fact True) 1 x.2.1 x.1.data.length (byteC x.1.data)) (hu : ∀ (i : Nat) (x : Ans × Option Addr × Nat), L[i]? = some x → inK .u64 x.1.v) (F : List HP)  : Spec ω Tryz.prog 3 #[.agg #[.int .i64 base, .int .i64 size], .agg #[.int .i64 cur, .int .i64 nxt, .int .i64 lap], .int .i64 times, .slice tp L.length tc] (fact True :: F) fun v' H' => v' = .bool true ∧ H' = [] := by
  refine spec_of_body Tryz.func3 rfl Tryz.ntmps3 rfl ?_
  refine Cr ?_
  refine Ro rfl (ot_box rfl rfl (rfl : _ = [_, _])) ?_
  rintro _ _ ⟨b4, rfl, rfl⟩
  refine Ro rfl (ot_box rfl rfl (rfl : _ = [_, _, _])) ?_
  rintro _ _ ⟨b5, rfl, rfl⟩
  refine Rp rfl (pv_assign rfl) ?_
  refine Kn4 2 3 4 5 rfl ?_
  refine ct_seq ?_
  refine Cr ?_
  refine Rq rfl (oq_call rfl Tryz.call7 (vs := []) rfl (hfix)) ?_
  refine Rp rfl (pv_not rfl) ?_
  refine Kn5 2 3 4 5 20 rfl ?_
  refine ct_false rfl ?_
  refine ct_skip ?_
  refine Kx4 2 3 4 5 rfl ?_
  refine ct_seq ?_
  refine Cr ?_
  refine Rp rfl (pv_move rfl) ?_
  refine Rp rfl (pv_len_slice rfl rfl Tryz.runUnderlying26) ?_
  refine Rp rfl (pv_bin rfl rfl rfl) ?_
  refine Kn5 2 3 4 5 23 rfl ?_
  first | refine ct_cond_d rfl (fun h23 => ?_) (fun h23 => ?_) | refine ct_cond_n rfl (fun h23 => ?_) (fun h23 => ?_) | refine ct_cond_b rfl (fun h23 => ?_) (fun h23 => ?_) | refine ct_cond rfl (fun h23 => ?_) (fun h23 => ?_)
  · skip
    refine Cr ?_
    refine Rp rfl (pv_assign rfl) ?_
    refine Kn1 8 rfl ?_
    refine ct_ret ?_
    refine xt_ret_then ?_
    exact fin_ret (RVs.tmp rfl (RVs.nil)) Tryz.results3 (⟨rfl, rfl⟩) (.drop)
  · skip
    refine ct_skip ?_
    refine Kx4 2 3 4 5 rfl ?_
    refine ct_seq ?_
    refine Cr ?_
    refine Rp rfl (pv_move rfl) ?_
    refine Rp rfl (pv_len_slice rfl rfl Tryz.runUnderlying26) ?_
    refine Rp rfl (pv_move rfl) ?_
    refine Kn7 2 3 4 5 24 25 26 rfl ?_
    refine ct_block ?_
    refine ct_loop (α := { i : Nat // i ≤ L.length ∧ ∀ (j : Nat) (x : Ans × Option Addr × Nat), j < i → L[j]? = some x → x.1.data.length ≤ 100 }) (fun q => [(2, .int .i64 times), (3, .slice tp L.length tc), (4, .pointer (some ⟨b4, 0, none⟩)), (5, .pointer (some ⟨b5, 0, none⟩)), (24, .slice tp L.length tc), (25, .int .i64 (L.length : Int)), (26, .int .i64 (q.1 : Int))]) (fun q => row b4 0 [.int .i64 base, .int .i64 size] :: row b5 0 [.int .i64 cur, .int .i64 nxt, .int .i64 lap] :: fact True :: F) (fun q => L.length - q.1) ⟨0, Nat.zero_le _, fun j x h => absurd h (Nat.not_lt_zero _)⟩ (Knows.cons rfl (Knows.cons rfl (Knows.cons rfl (Knows.cons rfl (Knows.cons rfl (Knows.cons rfl (Knows.cons rfl (Knows.nil)))))))) (by repeat (first | exact Sees.refl | (apply Sees.cons; (focus ((repeat (first | exact Z0 | apply Sel.there)); done))) | apply Sees.skip)) ?_
    intro ⟨i, hi1, hd⟩
    dsimp only
    refine Cr ?_
    refine Rp rfl (pv_bin rfl rfl rfl) ?_
    refine Kn8 2 3 4 5 24 25 26 27 rfl ?_
    refine ct_seq ?_
    first | refine ct_cond_d rfl (fun h27 => ?_) (fun h27 => ?_) | refine ct_cond_n rfl (fun h27 => ?_) (fun h27 => ?_) | refine ct_cond_b rfl (fun h27 => ?_) (fun h27 => ?_) | refine ct_cond rfl (fun h27 => ?_) (fun h27 => ?_)
    · skip
      refine ct_skip ?_
      refine Kx7 2 3 4 5 24 25 26 rfl ?_
      refine ct_seq ?_
      refine ct_block ?_
      refine ct_seq ?_
      obtain ⟨x, hx⟩ : ∃ x, L[i]? = some x := ⟨L[i]'(by omega), List.getElem?_eq_getElem (by omega)⟩
      refine ct_rdsome hr (by repeat (first | exact Z0 | apply Sel.there)) (by omega) (fun b0 o0 hp0 => ?_)
      subst hp0
      refine ct_region ?_
      refine Rp rfl (pv_indexAddrN (j := i) rfl rfl Tryz.runUnderlying26 Tryz.sizeOf31 rfl (by omega)) ?_
      refine Rq rfl (oq_loadAggRd (j := i * 3) (us := [_, _, _]) rfl rfl Tryz.isAgg31 Tryz.sizeOf31 hr (by repeat (first | exact Z0 | apply Sel.there)) (by omega) (tcells_get L i x hx) (by rfl)) ?_
      refine Ro rfl (ot_alloc rfl Tryz.zeroValue31 (rfl : _ = [_, _, _])) ?_
      rintro _ _ ⟨b10, rfl, rfl⟩
      refine rl_op0 rfl rfl (ot_store rfl rfl rfl Tryz.sizeOf31 (by repeat (first | exact Z0 | apply Sel.there)) (rfl : _ = [_, _, _]) rfl (by rfl) (by rfl) (by first | rfl | assumption) (by exact (rfl : _ = _ :: _ :: _ :: _))) ?_
      rintro _ _ rfl
      refine Kn8 2 3 4 5 10 24 25 26 rfl ?_
      refine Cr ?_
      refine Rp rfl (pv_fieldAddr (k := 2) rfl Tryz.runUnderlying31 rfl Tryz.sizeOf29 rfl rfl) ?_
      refine Rq rfl (oq_load rfl rfl Tryz.isAgg29 (by repeat (first | exact Z0 | apply Sel.there)) (by rfl) (by rfl)) ?_
      refine Rp rfl (pv_len_slice rfl rfl Tryz.runUnderlying29) ?_
      refine Rp rfl (pv_bin rfl rfl rfl) ?_
      refine Kn8 2 3 4 5 24 25 26 33 rfl ?_
      first | refine ct_cond_d rfl (fun h33 => ?_) (fun h33 => ?_) | refine ct_cond_n rfl (fun h33 => ?_) (fun h33 => ?_) | refine ct_cond_b rfl (fun h33 => ?_) (fun h33 => ?_) | refine ct_cond rfl (fun h33 => ?_) (fun h33 => ?_)
      · skip
        refine Cr ?_
        refine Rp rfl (pv_assign rfl) ?_
        refine Kn1 8 rfl ?_
        refine ct_ret ?_
        refine xt_ret_block ?_
        refine xt_ret_then ?_
        refine xt_ret_then ?_
        refine xt_ret_block ?_
        refine xt_ret_then ?_
        exact fin_ret (RVs.tmp rfl (RVs.nil)) Tryz.results3 (⟨rfl, rfl⟩) (.drop)
      · skip
        refine ct_skip ?_
        refine xt_normal_block ?_
        refine Kx7 2 3 4 5 24 25 26 rfl ?_
        refine ct_region ?_
        refine Rp rfl (pv_add rfl rfl ⟨by omega, by omega⟩) ?_
        refine Rp rfl (pv_move rfl) ?_
        refine rl_nil ?_
        exact xt_round (α := { i : Nat // i ≤ L.length ∧ ∀ (j : Nat) (x : Ans × Option Addr × Nat), j < i → L[j]? = some x → x.1.data.length ≤ 100 }) (E' := fun q => [(2, .int .i64 times), (3, .slice (some ⟨b0, o0, none⟩) L.length tc), (4, .pointer (some ⟨b4, 0, none⟩)), (5, .pointer (some ⟨b5, 0, none⟩)), (24, .slice (some ⟨b0, o0, none⟩) L.length tc), (25, .int .i64 (L.length : Int)), (26, .int .i64 (q.1 : Int))]) (H' := fun q => row b4 0 [.int .i64 base, .int .i64 size] :: row b5 0 [.int .i64 cur, .int .i64 nxt, .int .i64 lap] :: fact True :: F) (μ := fun q => L.length - q.1) (p := ⟨i, hi1, hd⟩) (⟨i + 1, by omega, fun j y hj hy => by rcases Nat.lt_or_ge j i with h | h; exact hd j y h hy; (have e : j = i := by omega); subst e; rw [hx] at hy; cases hy; omega⟩) (by show L.length - (i + 1) < L.length - i; omega) (Knows.cons rfl (Knows.cons rfl (Knows.cons rfl (Knows.cons rfl (Knows.cons rfl (Knows.cons rfl (Knows.cons rfl (Knows.nil)))))))) (by repeat (first | exact Sees.refl | (apply Sees.cons; (focus ((repeat (first | exact Z0 | apply Sel.there)); done))) | apply Sees.skip))
    · skip
      refine ct_exit ?_
      refine xt_exit_then ?_
      refine xt_exit_then ?_
      refine xt_exit_block ?_
      refine Kx4 2 3 4 5 rfl ?_
      refine ct_seq ?_
      have hd : ∀ (j : Nat) (x : Ans × Option Addr × Nat), j < L.length → L[j]? = some x → x.1.data.length ≤ 100 := fun j x hj hx => hd j x (by omega) hx
      have hT : Told ω (fact True) tp L := ⟨hr, hi, hu, by omega, fun j x hx => by have := hd j x (by rcases Nat.lt_or_ge j L.length with h | h; exact h; rw [List.getElem?_eq_none h] at hx; cases hx) hx; omega⟩
      have hcells0 : True := trivial
      refine ct_region ?_
      refine Rq rfl (oq_loadAgg (us := [_, _]) rfl rfl Tryz.isAgg23 Tryz.sizeOf23 (by repeat (first | exact Z0 | apply Sel.there)) (by rfl) (by rfl) (by rfl)) ?_
      refine Rq rfl (oq_loadAgg (us := [_, _, _]) rfl rfl Tryz.isAgg25 Tryz.sizeOf25 (by repeat (first | exact Z0 | apply Sel.there)) (by rfl) (by rfl) (by rfl)) ?_
      refine Rp rfl (pv_move rfl) ?_
      refine Ro rfl (ot_call rfl Tryz.call8 (vs := [_, _, _]) rfl (by repeat (first | exact Sees.refl | (apply Sees.cons; (focus ((repeat (first | exact Z0 | apply Sel.there)); done))) | apply Sees.skip)) (rnew_raw _ base size cur nxt lap times hb0 hs0 _)) ?_
      rintro _ _ ⟨br, rfl, rfl⟩
      refine Rp rfl (pv_assign rfl) ?_
      refine Kn5 2 3 4 5 11 rfl ?_
      refine ct_seq ?_
      refine Cr ?_
      refine Rp rfl (pv_assign rfl) ?_
      refine Kn6 2 3 4 5 11 12 rfl ?_
      refine ct_block ?_
      refine ct_loop (α := { i : Nat // i ≤ L.length + 1 }) (fun q => [(2, .int .i64 times), (3, .slice tp L.length tc), (4, .pointer (some ⟨b4, 0, none⟩)), (5, .pointer (some ⟨b5, 0, none⟩)), (11, .pointer (some ⟨br, 0, none⟩)), (12, .int .i64 (q.1 : Int))]) (fun q => row b4 0 [.int .i64 base, .int .i64 size] :: row b5 0 [.int .i64 cur, .int .i64 nxt, .int .i64 lap] :: relayRep br (rfeed (rnew base size cur nxt lap times) (told (L.take q.1))) :: fact True :: F) (fun q => L.length + 1 - q.1) ⟨0, Nat.zero_le _⟩ (Knows.cons rfl (Knows.cons rfl (Knows.cons rfl (Knows.cons rfl (Knows.cons rfl (Knows.cons rfl (Knows.nil))))))) (by repeat (first | exact Sees.refl | (apply Sees.cons; (focus ((repeat (first | exact Z0 | apply Sel.there)); done))) | apply Sees.skip)) ?_
      intro ⟨i, hi2⟩
      dsimp only
      refine ct_seq ?_
      refine Cr ?_
      refine Rp rfl (pv_move rfl) ?_
      refine Rp rfl (pv_move rfl) ?_
      refine Rp rfl (pv_len_slice rfl rfl Tryz.runUnderlying26) ?_
      refine Rp rfl (pv_bin rfl rfl rfl) ?_
      refine Kn7 2 3 4 5 11 12 42 rfl ?_
      first | refine ct_cond_d rfl (fun h42 => ?_) (fun h42 => ?_) | refine ct_cond_n rfl (fun h42 => ?_) (fun h42 => ?_) | refine ct_cond_b rfl (fun h42 => ?_) (fun h42 => ?_) | refine ct_cond rfl (fun h42 => ?_) (fun h42 => ?_)
      · skip
        refine ct_skip ?_
        refine Kx6 2 3 4 5 11 12 rfl ?_
        refine ct_seq ?_
        refine ct_block ?_
        refine ct_seq ?_
        obtain ⟨Li, hLi⟩ : ∃ Li, L.take i = Li := ⟨_, rfl⟩
        have hlen : i = Li.length := by rw [← hLi, List.length_take]; omega
        subst hlen
        rw [hLi]
        have hTi : Told ω (fact True) tp Li := hT.take hLi (by omega)
        have hro := rnew_ok (base := base) (size := size) (cur := cur) (nxt := nxt) (lap := lap) (times := times) hb0 hs0
        obtain ⟨B, hok, hset, hBle⟩ := feed_ok hro.1 hro.2 (told Li) _ 0 hro.1 hro.2 (fun a ha => by obtain ⟨y, hy, rfl⟩ := List.mem_map.1 ha; obtain ⟨j, hj⟩ := List.getElem?_of_mem hy; have hj2 : L[j]? = some y := (by rw [← hLi, List.getElem?_take] at hj; split at hj; exact hj; cases hj); exact ⟨hu j y hj2, hd j y (by rcases Nat.lt_or_ge j L.length with h | h; exact h; rw [List.getElem?_eq_none h] at hj2; cases hj2) hj2⟩) (by simp [told]; omega)
        simp only [told, List.length_map] at hBle
        refine ct_region ?_
        refine Rp rfl (pv_move rfl) ?_
        refine Rp rfl (pv_move rfl) ?_
        refine Rp rfl (pv_slice (l := 0) (h := Li.length) (m := tc) rfl (rfl) (⟨_, _, rfl, by omega⟩) (rfl) Tryz.runUnderlying26 Tryz.sizeOf31 (by omega) (by omega) (by omega) (by simp)) ?_
        rw [cutp_zero, Nat.sub_zero, Nat.sub_zero]
        refine Rp rfl (pv_build (ps := [(0, _)]) (cs := [_, _, _, _, _, _, _, _, _]) rfl Tryz.zeroValue38 Tryz.runUnderlying38 (.cons Tryz.sizeOf26 (.cons Tryz.sizeOf3 (.cons Tryz.sizeOf36 (.cons Tryz.sizeOf4 (.nil))))) rfl) ?_
        refine Ro rfl (ot_box rfl rfl (rfl : _ = [_, _, _, _, _, _, _, _, _])) ?_
        rintro _ _ ⟨b49, rfl, rfl⟩
        refine Rp rfl (pv_assign rfl) ?_
        refine Kn7 2 3 4 5 11 12 13 rfl ?_
        refine ct_seq ?_
        obtain ⟨G, hG⟩ : ∃ G, rloop 65 ⟨base, size, cur, nxt, lap, if 64 < times then 64 else times, none, [], 0⟩ ⟨told Li, 0, ⟨0, 0, 0, 0, 0, none, 0, 0⟩, false⟩ = G := ⟨_, rfl⟩
        have hF := rloop_feed 65 ⟨base, size, cur, nxt, lap, if 64 < times then 64 else times, none, [], 0⟩ ⟨told Li, 0, ⟨0, 0, 0, 0, 0, none, 0, 0⟩, false⟩ rfl (by dsimp only; split <;> omega) rfl
        rw [hG, show settle 65 ⟨base, size, cur, nxt, lap, if 64 < times then 64 else times, none, [], 0⟩ = rnew base size cur nxt lap times from by unfold rnew; rfl] at hF
        obtain ⟨hf, he, hw, hno⟩ := hF
        dsimp only at hf
        rw [hf] at hok hset
        rw [hf]
        refine ct_region ?_
        refine Rp rfl (pv_move rfl) ?_
        refine Rq rfl (oq_loadAgg (us := [_, _]) rfl rfl Tryz.isAgg23 Tryz.sizeOf23 (by repeat (first | exact Z0 | apply Sel.there)) (by rfl) (by rfl) (by rfl)) ?_
        refine Rq rfl (oq_loadAgg (us := [_, _, _]) rfl rfl Tryz.isAgg25 Tryz.sizeOf25 (by repeat (first | exact Z0 | apply Sel.there)) (by rfl) (by rfl) (by rfl)) ?_
        refine Rp rfl (pv_move rfl) ?_
        refine Ro rfl (ot_call rfl Tryz.call9 (vs := [_, _, _, _]) rfl (by repeat (first | exact Sees.refl | (apply Sees.cons; (focus ((repeat (first | exact Z0 | apply Sel.there)); done))) | apply Sees.skip)) (rrelay_spec _ _ tp tc Li (fact True) hTi ⟨told Li, 0, ⟨0, 0, 0, 0, 0, none, 0, 0⟩, false⟩ ⟨rfl, Nat.zero_le _, rfl⟩ base size cur nxt lap times hb0 hs0 G hG _)) ?_
        rintro _ _ ⟨p55, c55, l55, rfl, hh55, rfl⟩
        refine Rp rfl (pv_move rfl) ?_
        refine Rp rfl (pv_extract rfl rfl) ?_
        refine Rp rfl (pv_extract rfl rfl) ?_
        refine Rp rfl (pv_extract rfl rfl) ?_
        refine Ro rfl (ot_alloc rfl Tryz.zeroValue25 (rfl : _ = [_, _, _])) ?_
        rintro _ _ ⟨b15, rfl, rfl⟩
        refine Rp rfl (pv_assign rfl) ?_
        refine rl_op0 rfl rfl (ot_store rfl rfl rfl Tryz.sizeOf25 (by repeat (first | exact Z0 | apply Sel.there)) (rfl : _ = [_, _, _]) rfl (by rfl) (by rfl) (by first | rfl | assumption) (by exact (rfl : _ = _ :: _ :: _ :: _))) ?_
        rintro _ _ rfl
        refine Rp rfl (pv_assign rfl) ?_
        refine Kn10 2 3 4 5 11 12 13 14 15 16 rfl ?_
        refine ct_seq ?_
        have hwe : G.1.want = nowAcc G.2.now := by rw [hw]; split; rfl; (rename_i hne); rw [hno (by simpa using hne)]; rfl
        rw [hwe]
        refine ct_region ?_
        refine Rp rfl (pv_move rfl) ?_
        refine Ro rfl (ot_call rfl Tryz.call10 (vs := [_]) rfl (by repeat (first | exact Sees.refl | (apply Sees.cons; (focus ((repeat (first | exact Z0 | apply Sel.there)); done))) | apply Sees.skip)) (rnext_spec _ br G.2 _)) ?_
        rintro _ _ ⟨rfl, rfl⟩
        refine Rp rfl (pv_move rfl) ?_
        refine Rp rfl (pv_extract rfl rfl) ?_
        refine Rp rfl (pv_extract rfl rfl) ?_
        refine Ro rfl (ot_alloc rfl Tryz.zeroValue36 (rfl : _ = [_, _, _, _, _, _])) ?_
        rintro _ _ ⟨b17, rfl, rfl⟩
        refine rl_op0 rfl rfl (ot_store rfl rfl rfl Tryz.sizeOf36 (by repeat (first | exact Z0 | apply Sel.there)) (rfl : _ = [_, _, _, _, _, _]) rfl (by rfl) (by rfl) (by first | rfl | assumption) (by exact (rfl : _ = _ :: _ :: _ :: _ :: _ :: _ :: _))) ?_
        rintro _ _ rfl
        refine Rp rfl (pv_assign rfl) ?_
        refine Kn12 2 3 4 5 11 12 13 14 15 16 17 18 rfl ?_
        refine ct_seq ?_
        refine ct_seq ?_
        have hz := nowAcc_nil G.2.now
        generalize nowAcc G.2.now = A at hz ⊢
        obtain ⟨ak, aat, an, av, aw, ap, am, ac⟩ := A
        obtain ⟨hz1, hz2, hz3⟩ := hz
        dsimp only at hz1 hz2 hz3
        subst hz1 hz2 hz3
        have hh64 := hok.hh
        refine ct_plan1 [.q 0, .q 1, .q 2, .q 3, .q 4, .q 5, .q 6, .q 7, .q 8, .q 9, .q 10, .q 11, .e 12, .q 13, .q 14, .q 15, .q 16, .q 18, .e 17, .e 19, .q 20, .q 21, .q 22, .q 23, .q 25, .e 24, .q 26, .q 27, .q 28, .q 29, .q 31, .e 30, .q 32, .q 33] (relayRep br _) (by repeat (first | exact Sees.refl | (apply Sees.cons; (focus ((repeat (first | exact Z0 | apply Sel.there)); done))) | apply Sees.skip)) mixed (by decide +kernel) ?_
        refine pw_q rfl rfl rfl rfl (oq_pv (pv_move rfl)) ?_
        refine pw_q rfl rfl rfl rfl (oq_pv (pv_move rfl)) ?_
        refine pw_q rfl rfl rfl rfl (oq_pv (pv_nilCheck rfl)) ?_
        refine pw_q rfl rfl rfl rfl (oq_pv (pv_fieldAddr (k := 8) rfl Tryz.runUnderlying38 rfl Tryz.sizeOf4 rfl rfl)) ?_
        refine pw_q rfl rfl rfl rfl (oq_load rfl rfl Tryz.isAgg4 (by repeat (first | exact Z0 | apply Sel.there)) (by rfl) (by rfl)) ?_
        refine pw_q rfl rfl rfl rfl (oq_pv (pv_neq rfl rfl Tryz.runUnderlying4 rfl)) ?_
        refine pw_q rfl rfl rfl rfl (oq_pv (pv_move rfl)) ?_
        first | refine pw_split_d (fun h70 => ?_) (fun h70 => ?_) | refine pw_split_n (fun h70 => ?_) (fun h70 => ?_) | refine pw_split_b (fun h70 => ?_) (fun h70 => ?_) | refine pw_split (fun h70 => ?_) (fun h70 => ?_)
        · exact absurd h70 (by rw [he]; simp)
        · skip
          refine pw_q rfl rfl rfl rfl (oq_loadAgg (us := [_, _, _, _, _, _]) rfl rfl Tryz.isAgg36 Tryz.sizeOf36 (by repeat (first | exact Z0 | apply Sel.there)) (by rfl) (by rfl) (by rfl)) ?_
          refine pw_q rfl rfl rfl rfl (oq_pv (pv_move rfl)) ?_
          refine pw_q rfl rfl rfl rfl (oq_pv (pv_nilCheck rfl)) ?_
          refine pw_q rfl rfl rfl rfl (oq_pv (pv_fieldAddr (k := 2) rfl Tryz.runUnderlying38 rfl Tryz.sizeOf36 rfl rfl)) ?_
          refine pw_q rfl rfl rfl rfl (oq_loadAgg (us := [_, _, _, _, _, _]) rfl rfl Tryz.isAgg36 Tryz.sizeOf36 (by repeat (first | exact Z0 | apply Sel.there)) (by rfl) (by rfl) (by rfl)) ?_
          refine pw_e rfl rfl rfl rfl (ot_call rfl Tryz.call11 (vs := [_, _]) rfl (Sees.fact trivial (Sees.fact trivial .refl)) (sameAcc_spec _ _ _ _ _ _ [] none none 0 0 (fact True) (fact True) rd_nil rd_nil _)) ?_
          rintro _ _ ⟨rfl, rfl⟩
          refine ⟨[relayRep br _], by repeat (first | exact Sees.refl | (apply Sees.cons; (focus ((repeat (first | exact Z0 | apply Sel.there)); done))) | apply Sees.skip), ?_⟩
          refine pw_q rfl rfl rfl rfl (oq_pv (pv_not rfl)) ?_
          refine pw_q rfl rfl rfl rfl (oq_pv (pv_pick0 rfl rfl)) ?_
          refine pw_q rfl rfl rfl rfl (oq_pv (pv_move rfl)) ?_
          refine pw_q rfl rfl rfl rfl (oq_pv (pv_move rfl)) ?_
          refine pw_q rfl rfl rfl rfl (oq_pv (pv_move rfl)) ?_
          refine pw_e rfl rfl rfl rfl (ot_call rfl Tryz.call13 (vs := [_]) rfl (by repeat (first | exact Sees.refl | (apply Sees.cons; (focus ((repeat (first | exact Z0 | apply Sel.there)); done))) | apply Sees.skip)) (rheard_spec _ br G.2 B hok _)) ?_
          rintro _ _ ⟨p81, c81, l81, rfl, hh81, rfl⟩
          refine ⟨[own 3 p81 _ _ _, pack (hinner l81), relayRep br _], by repeat (first | exact Sees.refl | (apply Sees.cons; (focus ((repeat (first | exact Z0 | apply Sel.there)); done))) | apply Sees.skip), ?_⟩
          refine pw_e rfl rfl rfl rfl (ot_call rfl Tryz.call12 (vs := [_, _]) rfl (by repeat (first | exact Sees.refl | (apply Sees.cons; (focus ((repeat (first | exact Z0 | apply Sel.there)); done))) | apply Sees.skip)) (same_spec' _ G.2.heard l81 l55 p81 p55 c81 c55 (by omega) hh81 hh55 _)) ?_
          rintro _ _ ⟨rfl, rfl⟩
          refine ⟨[own 3 p81 _ _ _, pack (hinner l81), relayRep br _], by repeat (first | exact Sees.refl | (apply Sees.cons; (focus ((repeat (first | exact Z0 | apply Sel.there)); done))) | apply Sees.skip), ?_⟩
          refine pw_q rfl rfl rfl rfl (oq_pv (pv_not rfl)) ?_
          refine pw_q rfl rfl rfl rfl (oq_pv (pv_pick0 rfl rfl)) ?_
          refine pw_q rfl rfl rfl rfl (oq_pv (pv_move rfl)) ?_
          refine pw_q rfl rfl rfl rfl (oq_pv (pv_move rfl)) ?_
          refine pw_q rfl rfl rfl rfl (oq_loadAgg (us := [_, _, _]) rfl rfl Tryz.isAgg25 Tryz.sizeOf25 (by repeat (first | exact Z0 | apply Sel.there)) (by rfl) (by rfl) (by rfl)) ?_
          refine pw_e rfl rfl rfl rfl (ot_call rfl Tryz.call14 (vs := [_]) rfl (by repeat (first | exact Sees.refl | (apply Sees.cons; (focus ((repeat (first | exact Z0 | apply Sel.there)); done))) | apply Sees.skip)) (rstate_spec _ br G.2 _)) ?_
          rintro _ _ ⟨rfl, rfl⟩
          refine ⟨[own 3 p81 _ _ _, pack (hinner l81), relayRep br _], by repeat (first | exact Sees.refl | (apply Sees.cons; (focus ((repeat (first | exact Z0 | apply Sel.there)); done))) | apply Sees.skip), ?_⟩
          refine pw_q rfl rfl rfl rfl (oq_pv (pv_neqS rfl rfl ear_ut ear_held ear_guard ear_fields (ear_eq _ _ _ _ _ _))) ?_
          refine pw_q rfl rfl rfl rfl (oq_pv (pv_pick0 rfl rfl)) ?_
          refine pw_q rfl rfl rfl rfl (oq_pv (pv_move rfl)) ?_
          first | refine pw_split_d (fun h92 => ?_) (fun h92 => ?_) | refine pw_split_n (fun h92 => ?_) (fun h92 => ?_) | refine pw_split_b (fun h92 => ?_) (fun h92 => ?_) | refine pw_split (fun h92 => ?_) (fun h92 => ?_)
          · exact absurd h92 (by simp)
          · skip
            refine pw_q rfl rfl rfl rfl (oq_pv (pv_move rfl)) ?_
            refine pw_q rfl rfl rfl rfl (oq_pv (pv_move rfl)) ?_
            refine pw_e rfl rfl rfl rfl (ot_call rfl Tryz.call15 (vs := [_]) rfl (by repeat (first | exact Sees.refl | (apply Sees.cons; (focus ((repeat (first | exact Z0 | apply Sel.there)); done))) | apply Sees.skip)) (rlosses_spec _ br G.2 _)) ?_
            rintro _ _ ⟨rfl, rfl⟩
            refine ⟨[own 3 p81 _ _ _, pack (hinner l81), relayRep br _], by repeat (first | exact Sees.refl | (apply Sees.cons; (focus ((repeat (first | exact Z0 | apply Sel.there)); done))) | apply Sees.skip), ?_⟩
            refine pw_q rfl rfl rfl rfl (oq_pv (pv_bin rfl rfl rfl)) ?_
            refine pw_q rfl rfl rfl rfl (oq_pv (pv_pick0 rfl rfl)) ?_
            refine pw_nil ?_
            refine Kx7 2 3 4 5 11 12 97 rfl ?_
            first | refine ct_cond_d rfl (fun h97 => ?_) (fun h97 => ?_) | refine ct_cond_n rfl (fun h97 => ?_) (fun h97 => ?_) | refine ct_cond_b rfl (fun h97 => ?_) (fun h97 => ?_) | refine ct_cond rfl (fun h97 => ?_) (fun h97 => ?_)
            · exfalso; first | omega | (simp_all; done) | (simp_all; omega)
            · skip
              refine ct_skip ?_
              refine Kx6 2 3 4 5 11 12 rfl ?_
              refine Cr ?_
              refine Rp rfl (pv_move rfl) ?_
              refine Rp rfl (pv_move rfl) ?_
              refine Rp rfl (pv_len_slice rfl rfl Tryz.runUnderlying26) ?_
              refine Rp rfl (pv_bin rfl rfl rfl) ?_
              refine Kn7 2 3 4 5 11 12 101 rfl ?_
              first | refine ct_cond_d rfl (fun h101 => ?_) (fun h101 => ?_) | refine ct_cond_n rfl (fun h101 => ?_) (fun h101 => ?_) | refine ct_cond_b rfl (fun h101 => ?_) (fun h101 => ?_) | refine ct_cond rfl (fun h101 => ?_) (fun h101 => ?_)
              · obtain ⟨x, hx⟩ : ∃ x, L[Li.length]? = some x := ⟨L[Li.length]'(by omega), List.getElem?_eq_getElem (by omega)⟩
                have hux := hu _ x hx
                have hdx := hd _ x (by omega) hx
                refine ct_rdsome hr (by repeat (first | exact Z0 | apply Sel.there)) (by omega) (fun b0 o0 hp0 => ?_)
                subst hp0
                refine ct_region ?_
                refine Rp rfl (pv_move rfl) ?_
                refine Rp rfl (pv_move rfl) ?_
                refine Rp rfl (pv_move rfl) ?_
                refine Rp rfl (pv_indexAddrN (j := Li.length) rfl rfl Tryz.runUnderlying26 Tryz.sizeOf31 rfl (by omega)) ?_
                refine Rq rfl (oq_loadAggRd (j := Li.length * 3) (us := [_, _, _]) rfl rfl Tryz.isAgg31 Tryz.sizeOf31 hr (by repeat (first | exact Z0 | apply Sel.there)) (by omega) (tcells_get L Li.length x hx) (by rfl)) ?_
                refine Ro rfl (ot_call rfl Tryz.call16 (vs := [_, _]) rfl (by repeat (first | exact Sees.refl | (apply Sees.cons; (focus ((repeat (first | exact Z0 | apply Sel.there)); done))) | apply Sees.skip)) (rtake_spec _ br G.2 x.1 hux (fact True) _ _ (hi _ x hx) B hok hset (by omega) _)) ?_
                rintro _ _ ⟨rfl, rfl⟩
                refine rl_nil ?_
                refine xt_normal_block ?_
                refine Kx6 2 3 4 5 11 12 rfl ?_
                refine ct_region ?_
                refine Rp rfl (pv_move rfl) ?_
                refine Rp rfl (pv_add rfl rfl ⟨by omega, by omega⟩) ?_
                refine Rp rfl (pv_assign rfl) ?_
                refine rl_nil ?_
                exact xt_round (α := { i : Nat // i ≤ L.length + 1 }) (E' := fun q => [(2, .int .i64 times), (3, .slice _ L.length tc), (4, .pointer (some ⟨b4, 0, none⟩)), (5, .pointer (some ⟨b5, 0, none⟩)), (11, .pointer (some ⟨br, 0, none⟩)), (12, .int .i64 (q.1 : Int))]) (H' := fun q => row b4 0 [.int .i64 base, .int .i64 size] :: row b5 0 [.int .i64 cur, .int .i64 nxt, .int .i64 lap] :: relayRep br (rfeed (rnew base size cur nxt lap times) (told (L.take q.1))) :: fact True :: F) (μ := fun q => L.length + 1 - q.1) (p := ⟨Li.length, hi2⟩) (⟨Li.length + 1, by omega⟩) (by show L.length + 1 - (Li.length + 1) < L.length + 1 - Li.length; omega) (Knows.cons rfl (Knows.cons rfl (Knows.cons rfl (Knows.cons rfl (Knows.cons rfl (Knows.cons rfl (Knows.nil))))))) (by dsimp only; rw [show told (L.take (Li.length + 1)) = told Li ++ [x.1] from by rw [List.take_add_one, hLi, hx]; simp [told], rfeed_snoc, hf]; exact (by repeat (first | exact Sees.refl | (apply Sees.cons; (focus ((repeat (first | exact Z0 | apply Sel.there)); done))) | apply Sees.skip)))
              · skip
                refine ct_skip ?_
                refine xt_normal_block ?_
                refine Kx6 2 3 4 5 11 12 rfl ?_
                refine ct_region ?_
                refine Rp rfl (pv_move rfl) ?_
                refine Rp rfl (pv_add rfl rfl ⟨by omega, by omega⟩) ?_
                refine Rp rfl (pv_assign rfl) ?_
                refine rl_nil ?_
                exact xt_round (α := { i : Nat // i ≤ L.length + 1 }) (E' := fun q => [(2, .int .i64 times), (3, .slice _ L.length tc), (4, .pointer (some ⟨b4, 0, none⟩)), (5, .pointer (some ⟨b5, 0, none⟩)), (11, .pointer (some ⟨br, 0, none⟩)), (12, .int .i64 (q.1 : Int))]) (H' := fun q => row b4 0 [.int .i64 base, .int .i64 size] :: row b5 0 [.int .i64 cur, .int .i64 nxt, .int .i64 lap] :: relayRep br (rfeed (rnew base size cur nxt lap times) (told (L.take q.1))) :: fact True :: F) (μ := fun q => L.length + 1 - q.1) (p := ⟨Li.length, hi2⟩) (⟨Li.length + 1, by omega⟩) (by show L.length + 1 - (Li.length + 1) < L.length + 1 - Li.length; omega) (Knows.cons rfl (Knows.cons rfl (Knows.cons rfl (Knows.cons rfl (Knows.cons rfl (Knows.cons rfl (Knows.nil))))))) (by dsimp only; rw [show told (L.take (Li.length + 1)) = told Li from by rw [List.take_of_length_le (by omega)]; rw [List.take_of_length_le (by omega)] at hLi; rw [hLi], hf]; exact (by repeat (first | exact Sees.refl | (apply Sees.cons; (focus ((repeat (first | exact Z0 | apply Sel.there)); done))) | apply Sees.skip)))
      · skip
        refine ct_exit ?_
        refine xt_exit_then ?_
        refine xt_exit_then ?_
        refine xt_exit_block ?_
        refine xt_then ?_
        refine CT.weaken (E' := []) (Knows.nil) Sees.refl ?_
        refine Cr ?_
        refine Rp rfl (pv_assign rfl) ?_
        refine Kn1 8 rfl ?_
        refine ct_ret ?_
        exact fin_ret (RVs.tmp rfl (RVs.nil)) Tryz.results3 (⟨rfl, rfl⟩) (.drop)
end Go.Proofs.YtnjljfjncfbinaaGreat
