/- The calls whose answers the document fixes: true. -/
import Derived.Test.YtnjljfjncfbinaaGreatSq
import Derived.Test.YtnjljfjncfbinaaGreatSo1
import Derived.Test.YtnjljfjncfbinaaGreatSlD
import Derived.Test.YtnjljfjncfbinaaGreatFm
set_option linter.all false
namespace Go.Proofs.YtnjljfjncfbinaaGreat
open Go Go.Proofs
set_option maxRecDepth 100000
set_option linter.unusedVariables false
attribute [local irreducible] RL CT XT OQ OT PW PG PV Upon wpL
theorem Sees.pack1 {H L M : List HP} {c : HP} (s : Sel H c L) (r : Sees L M) : Sees H (pack [c] :: M) := .of fun m h => by
  rw [stars_pack]
  exact (s.out m h).skip r.out
theorem Sees.unpack1 {H L M : List HP} {c : HP} (s : Sel H (pack [c]) L) (r : Sees L M) : Sees H (c :: M) := .of fun m h => by
  have h1 := s.out m h
  rw [stars_pack] at h1
  exact Stars.skip r.out h1
def fxL (b1 : Nat) : ML := [((1, [97]), some ⟨b1, 0, none⟩, 1), ((2, []), none, 0)]
theorem castAll_fixed (ω : World) (b1 b2 : Nat) (F : List HP) : Spec ω Tryz.prog 20 #[.agg #[.int .i64 0, .int .i64 64], .slice (some ⟨b2, 0, none⟩) 2 2] (own 2 (some ⟨b2, 0, none⟩) 2 2 [.int .i32 1, .slice (some ⟨b1, 0, none⟩) 1 1, .int .i32 2, .slice none 0 0] :: own 1 (some ⟨b1, 0, none⟩) 1 1 [.int .u8 97] :: F) fun v' H' => ∃ b, v' = .pointer (some ⟨b, 0, none⟩) ∧ H' = casterRep b fxC :: F := by
  have hD : ∀ y, y ∈ fxL b1 → Rd ω (pack [own 1 (some ⟨b1, 0, none⟩) 1 1 [.int .u8 97]]) 1 y.2.1 y.1.2.length (byteC y.1.2) := by
    intro y hy
    rcases List.mem_cons.1 hy with e | hy
    · subst e; exact Rd.pack .here rd_own
    · rcases List.mem_cons.1 hy with e | hy
      · subst e; exact rd_nil
      · cases hy
  have hX : Rd ω (own 2 (some ⟨b2, 0, none⟩) 2 2 [.int .i32 1, .slice (some ⟨b1, 0, none⟩) 1 1, .int .i32 2, .slice none 0 0]) 2 (some ⟨b2, 0, none⟩) (fxL b1).length (mscells (fxL b1)) := rd_own
  have := castAll_spec ω 0 64 ⟨by omega, by omega⟩ ⟨by omega, by omega⟩ (fxL b1) (some ⟨b2, 0, none⟩) 2 2 (by show (if (64 : Int) < 2 then (64 : Int) else 2) = _; rfl) (Nat.le_refl _) (by omega) (Nat.le_refl _) (by
    intro m hm
    rcases List.mem_cons.1 hm with e | hm
    · subst e; show 1 ≤ 131072; omega
    · rcases List.mem_cons.1 hm with e | hm
      · subst e; show 0 ≤ 131072; omega
      · cases hm) _ _ hX hD F
  refine Spec.sees (Sees.cons .here (Sees.pack1 .here .refl)) (this.seesPost ?_)
  rintro v H' ⟨b, rfl, rfl⟩
  exact ⟨_, ⟨b, rfl, rfl⟩, Sees.cons .here (.skip (.skip .refl))⟩
theorem wnew1 (ω : World) (K : MK) (mb : Nat) (s : K.S) (bb wb : Nat) (F : List HP) : Spec ω Tryz.prog 19 #[.pointer (some ⟨bb, 0, none⟩), .slice (some ⟨wb, 0, none⟩) 1 1] (own 1 (some ⟨wb, 0, none⟩) 1 1 [.iface K.tid (.pointer (some ⟨mb, 0, none⟩))] :: F) fun v' H' =>
    ∃ wd ab p c, v' = .pointer (some ⟨wd, 0, none⟩) ∧ H' = row wd 0 [.pointer (some ⟨bb, 0, none⟩), .slice p 1 c, .int .i64 0, .slice none 0 0] :: own 1 p 1 c (aptrs [ab]) :: pack (arows [ab] [⟨K, mb, s, false⟩]) :: F := by
  have hX : Rd ω (own 1 (some ⟨wb, 0, none⟩) 1 1 [.iface K.tid (.pointer (some ⟨mb, 0, none⟩))]) 1 (some ⟨wb, 0, none⟩) [(⟨K, mb, s, false⟩ : MS)].length (mvals [⟨K, mb, s, false⟩]) := rd_own
  refine (schedNew_spec ω bb [⟨K, mb, s, false⟩] (fun x hx => by rw [List.mem_singleton.1 hx]) (by show 1 ≤ 1000000; omega) (some ⟨wb, 0, none⟩) 1 _ hX F).seesPost ?_
  rintro v H' ⟨wd, abs, p, c, ha, rfl, rfl⟩
  rcases abs with _ | ⟨ab, _ | ⟨x, l⟩⟩
  · cases ha
  · exact ⟨_, ⟨wd, ab, p, c, rfl, rfl⟩, Sees.cons .here (Sees.cons .here (Sees.cons .here (.skip .refl)))⟩
  · exact absurd ha (by simp)
theorem robin1 (ω : World) (K : MK) (hk : MKok K) (mb : Nat) (s : K.S) (m : List Int) (most f : Nat) (m' : List Int) (s' : K.S) (k : Nat) (h : solo K f s m = some (m', s', k)) (hkm : k ≤ most) (hmo : most ≤ 100000000) (hinv : K.inv (0 + (most - 0)) s) (wd bb ab : Nat) (p : Option Addr) (c : Nat) (F : List HP) :
    Spec ω Tryz.prog 21 #[.pointer (some ⟨wd, 0, none⟩), .int .i64 (most : Int)] (row wd 0 [.pointer (some ⟨bb, 0, none⟩), .slice p 1 c, .int .i64 0, .slice none 0 0] :: own 1 p 1 c (aptrs [ab]) :: pack (arows [ab] [⟨K, mb, s, false⟩]) :: K.rep mb s :: bufRep bb m :: F) fun v' H' =>
      v' = .int .i64 (k : Int) ∧ K.inv 0 s' ∧ H' = K.rep mb s' :: bufRep bb m' :: F := by
  have hg := robin_solo (K := K) (mb := mb) (most := most) f s m 0 m' s' k h (by omega)
  have := robin_spec ω wd bb most 0 0 [ab] [⟨K, mb, s, false⟩] m f _ hg rfl (fun x hx => by rw [List.mem_singleton.1 hx]; exact hk) (fun x hx => by rw [List.mem_singleton.1 hx]; exact hinv) (by show 1 ≤ 1000000; omega) hmo (by omega) p none c 0 [] (.int .i64 0) F
  refine Spec.sees (Sees.cons .here (Sees.nilOwn (Sees.cons .here (Sees.cons .here (Sees.pack1 .here (Sees.cons .here .refl)))))) (this.seesPost ?_)
  rintro v H' ⟨pt, tc, ts, rfl, hi, rfl⟩
  have hi0 := hi ⟨K, mb, s', false⟩ (List.mem_singleton.2 rfl)
  refine ⟨_, ⟨by simp, hi0, rfl⟩, ?_⟩
  exact .skip (.skip (.skip (.skip (Sees.unpack1 .here (Sees.cons .here .refl)))))
theorem heard_fixed (ω : World) (b : Nat) (r : RM) (hr : FxR r) (hi : RInv 0 r) (F : List HP) : Spec ω Tryz.prog 13 #[.pointer (some ⟨b, 0, none⟩)] (relayRep b r :: F) fun v' H' =>
    ∃ hb ho c y1 d0 d1, v' = .slice (some ⟨hb, ho, none⟩) 2 c ∧ H' = own 3 (some ⟨hb, ho, none⟩) 2 c [.int .i64 0, .int .i32 y1, d0, .int .i64 16, .int .i32 2, d1] :: relayRep b r :: F := by
  obtain ⟨B, hok, _, _⟩ := hi
  obtain ⟨h0, h1, hh, e0, e1, e2⟩ := hr.hh
  intro w hw
  refine (rheard_spec ω b r B hok F w hw).mono ?_
  rintro _ w' ⟨v, rfl, H', ⟨p, c, l, rfl, hl, rfl⟩, hw'⟩
  rw [hh] at hl hw' ⊢
  rcases l with _ | ⟨⟨y, p0, c0⟩, _ | ⟨⟨z, p1, c1⟩, _ | ⟨x, l⟩⟩⟩
  · simp [heards] at hl
  · simp [heards] at hl
  · simp only [heards, List.map_cons, List.map_nil, List.cons.injEq, and_true] at hl
    obtain ⟨rfl, rfl⟩ := hl
    obtain ⟨_, _, h' | ⟨hb, ho, rfl⟩⟩ := hw'.own_facts
    · exact absurd h'.2.1 (by simp)
    · refine ⟨_, rfl, _, ⟨hb, ho, c, y.typ, .slice p0 y.data.length c0, .slice p1 z.data.length c1, rfl, rfl⟩, ?_⟩
      have e3 : hcells [(y, p0, c0), (z, p1, c1)] = [.int .i64 0, .int .i32 y.typ, .slice p0 y.data.length c0, .int .i64 16, .int .i32 2, .slice p1 z.data.length c1] := by simp [hcells, e0, e1, e2]
      rw [e3] at hw'
      exact hw'.sees (Sees.cons .here (.skip .refl))
  · simp [heards] at hl
theorem state_fixed (ω : World) (b : Nat) (r : RM) (hr : FxR r) (F : List HP) : Spec ω Tryz.prog 14 #[.pointer (some ⟨b, 0, none⟩)] (relayRep b r :: F) fun v' H' => v' = .agg #[.int .i64 16, .int .i64 24, .int .i64 0] ∧ H' = relayRep b r :: F := by
  have := rstate_spec ω b r F
  rw [hr.hc, hr.hn, hr.hl] at this
  exact this
theorem losses_fixed (ω : World) (b : Nat) (r : RM) (hr : FxR r) (F : List HP) : Spec ω Tryz.prog 15 #[.pointer (some ⟨b, 0, none⟩)] (relayRep b r :: F) fun v' H' => v' = .int .i64 0 ∧ H' = relayRep b r :: F := by
  have := rlosses_spec ω b r F
  rw [hr.ho] at this
  exact this
theorem fxC_ok : CsOk fxC := csAll_ok (ms := [(1, [97]), (2, [])]) ⟨by omega, by omega⟩ ⟨by omega, by omega⟩ (by
  intro m hm
  rcases List.mem_cons.1 hm with e | hm
  · subst e; show 1 ≤ 131072; omega
  · rcases List.mem_cons.1 hm with e | hm
    · subst e; show 0 ≤ 131072; omega
    · cases hm) (by show 2 ≤ 64; omega)
attribute [local irreducible] fxC fxM rnew solo
theorem fixed_spec : PureSpec Tryz.prog 7 #[] (.bool true) := by
  intro ω F
  obtain ⟨s1, k1, hs1, hk1⟩ := fx1
  obtain ⟨m2, r2, k2, hs2, hk2, hfx⟩ := fx2
  have hinv1 : casterMK.inv (0 + (99 - 0)) fxC := fxC_ok
  have hinv2 : relayMK.inv (0 + (999 - 0)) (rnew 0 64 0 0 0 3) := ⟨0, (rnew_ok ⟨by omega, by omega⟩ ⟨by omega, by omega⟩).1, (rnew_ok ⟨by omega, by omega⟩ ⟨by omega, by omega⟩).2, by omega⟩
  refine spec_of_body Tryz.func7 rfl Tryz.ntmps7 rfl ?_
  refine Cr ?_
  refine Rp rfl (pv_assign rfl) ?_
  refine rl_nil ?_
  refine xt_then ?_
  refine CT.weaken (E' := []) (Knows.nil) Sees.refl ?_
  refine Cr ?_
  refine Ro rfl (ot_call rfl Tryz.call18 (vs := [_]) rfl (Sees.refl) (bnew_spec _ 96 12 (by decide) (by decide) (by decide) (by decide) (by decide) _)) ?_
  rintro _ _ ⟨bb, rfl, rfl⟩
  refine Rp rfl (pv_move rfl) ?_
  refine Rp rfl (pv_extract rfl rfl) ?_
  refine Rp rfl (pv_extract rfl rfl) ?_
  refine Rp rfl (pv_assign rfl) ?_
  refine Rp rfl (pv_assign rfl) ?_
  refine Kn2 1 2 rfl ?_
  refine Cr ?_
  refine Rp rfl (pv_build (ps := [(1, _)]) (cs := [_, _]) rfl Tryz.zeroValue23 Tryz.runUnderlying23 (.cons Tryz.sizeOf3 (.cons Tryz.sizeOf3 (.nil))) rfl) ?_
  refine Ro rfl (ot_alloc rfl Tryz.zeroValue23 (rfl : _ = [_, _])) ?_
  rintro _ _ ⟨b1, rfl, rfl⟩
  refine rl_op0 rfl rfl (ot_store rfl rfl rfl Tryz.sizeOf23 Z0 (rfl : _ = [_, _]) rfl (by rfl) (by rfl) (by first | rfl | assumption) (by exact (rfl : _ = [_, _]))) ?_
  rintro _ _ rfl
  refine Kn3 1 2 3 rfl ?_
  refine Cr ?_
  refine Rq rfl (oq_loadAgg (us := [_, _]) rfl rfl Tryz.isAgg23 Tryz.sizeOf23 Z0 (by rfl) (by rfl) (by rfl)) ?_
  refine Rp rfl (pv_build (ps := []) (cs := [_, _, _]) rfl Tryz.zeroValue25 Tryz.runUnderlying25 (.cons Tryz.sizeOf2 (.cons Tryz.sizeOf2 (.cons Tryz.sizeOf2 (.nil)))) rfl) ?_
  refine Ro rfl (ot_call rfl Tryz.call8 (vs := [_, _, _]) rfl (Sees.refl) (rnew_raw _ 0 64 0 0 0 3 ⟨by omega, by omega⟩ ⟨by omega, by omega⟩ _)) ?_
  rintro _ _ ⟨rb, rfl, rfl⟩
  refine Rp rfl (pv_assign rfl) ?_
  refine Kn4 1 2 3 4 rfl ?_
  refine Cr ?_
  refine Rp rfl (pv_move rfl) ?_
  refine Rq rfl (oq_loadAgg (us := [_, _]) rfl rfl Tryz.isAgg23 Tryz.sizeOf23 Z1 (by rfl) (by rfl) (by rfl)) ?_
  refine rl_bytes1 rfl rfl (by decide) rfl rfl Tryz.runUnderlying29 Tryz.sizeOf5 Tryz.zeroValue5 Tryz.runUnderlying5 rfl rfl (by decide) rfl (fun b2 => ?_)
  refine Rp rfl (pv_build (ps := [(0, _), (1, _)]) (cs := [_, _]) rfl Tryz.zeroValue74 Tryz.runUnderlying74 (.cons Tryz.sizeOf21 (.cons Tryz.sizeOf29 (.nil))) rfl) ?_
  refine Rp rfl (pv_build (ps := [(0, _)]) (cs := [_, _]) rfl Tryz.zeroValue74 Tryz.runUnderlying74 (.cons Tryz.sizeOf21 (.cons Tryz.sizeOf29 (.nil))) rfl) ?_
  refine Ro rfl (ot_buildSlice (ps := [(0, _), (1, _)]) (cs := #[_, _, _, _]) rfl rfl Tryz.runUnderlying51 Tryz.sizeOf74 Tryz.zeroValue74 rfl rfl rfl rfl) ?_
  rintro _ _ ⟨b3, rfl, rfl⟩
  refine Ro rfl (ot_call rfl Tryz.call20 (vs := [_, _]) rfl (Sees.cons Z0 (Sees.cons Z0 (Sees.refl))) (castAll_fixed _ b2 b3 _)) ?_
  rintro _ _ ⟨cb, rfl, rfl⟩
  refine Rp rfl (pv_makeInterface rfl Tryz.runUnderlying59 rfl) ?_
  refine Ro rfl (ot_buildSlice1 rfl rfl Tryz.runUnderlying61 Tryz.sizeOf116 Tryz.zeroValue116 rfl rfl (rfl : _ = [_]) rfl) ?_
  rintro _ _ ⟨b4, rfl, rfl⟩
  refine Ro rfl (ot_call rfl Tryz.call19 (vs := [_, _]) rfl (Sees.cons Z0 (Sees.refl)) (wnew1 _ casterMK cb fxC bb b4 _)) ?_
  rintro _ _ ⟨wd1, ab1, p1, c1, rfl, rfl⟩
  refine Ro rfl (ot_call rfl Tryz.call21 (vs := [_, _]) rfl (Sees.cons Z0 (Sees.cons Z0 (Sees.cons Z0 (Sees.cons Z0 (Sees.cons Z2 (Sees.refl)))))) (robin1 _ casterMK casterMKok cb fxC (List.replicate 12 0) 99 60 fxM s1 k1 hs1 hk1 (by omega) hinv1 wd1 bb ab1 p1 c1 _)) ?_
  rintro _ _ ⟨rfl, _, rfl⟩
  refine Kn3 1 2 4 rfl ?_
  refine Cr ?_
  refine Rp rfl (pv_move rfl) ?_
  refine Rp rfl (pv_move rfl) ?_
  refine Rp rfl (pv_makeInterface rfl Tryz.runUnderlying32 rfl) ?_
  refine Ro rfl (ot_buildSlice1 rfl rfl Tryz.runUnderlying61 Tryz.sizeOf116 Tryz.zeroValue116 rfl rfl (rfl : _ = [_]) rfl) ?_
  rintro _ _ ⟨b5, rfl, rfl⟩
  refine Ro rfl (ot_call rfl Tryz.call19 (vs := [_, _]) rfl (Sees.cons Z0 (Sees.refl)) (wnew1 _ relayMK rb (rnew 0 64 0 0 0 3) bb b5 _)) ?_
  rintro _ _ ⟨wd2, ab2, p2, c2, rfl, rfl⟩
  refine Ro rfl (ot_call rfl Tryz.call21 (vs := [_, _]) rfl (Sees.cons Z0 (Sees.cons Z0 (Sees.cons Z0 (Sees.cons Z2 (Sees.cons Z1 (Sees.refl)))))) (robin1 _ relayMK relayMKok rb (rnew 0 64 0 0 0 3) fxM 999 200 m2 r2 k2 hs2 hk2 (by omega) hinv2 wd2 bb ab2 p2 c2 _)) ?_
  rintro _ _ ⟨rfl, hri, rfl⟩
  refine Kn2 2 4 rfl ?_
  refine Cr ?_
  refine Rp rfl (pv_move rfl) ?_
  refine Ro rfl (ot_call rfl Tryz.call13 (vs := [_]) rfl (Sees.cons Z0 (Sees.refl)) (heard_fixed _ rb r2 hfx hri _)) ?_
  rintro _ _ ⟨hb, ho, hc, y1, d0, d1, rfl, rfl⟩
  refine Rp rfl (pv_assign rfl) ?_
  refine Kn3 2 4 5 rfl ?_
  refine Cr ?_
  refine Rp rfl (pv_move rfl) ?_
  refine Rp rfl (pv_bin (v := .bool true) rfl rfl (by rfl)) ?_
  refine Rp rfl (pv_move rfl) ?_
  refine Ru rfl (pv_move rfl) ?_
  refine Ru rfl (pv_len_slice rfl rfl Tryz.runUnderlying39) ?_
  refine Ru rfl (pv_bin (v := .bool true) rfl rfl (by rfl)) ?_
  refine Rp rfl (pv_pick1 rfl rfl) ?_
  refine Rp rfl (pv_move rfl) ?_
  refine Ru rfl (pv_move rfl) ?_
  refine Ru rfl (pv_indexAddrN (j := 0) rfl rfl Tryz.runUnderlying39 Tryz.sizeOf76 rfl (by decide)) ?_
  refine Ru rfl (pv_fieldAddr (k := ho + 0 * 3 + 0) rfl Tryz.runUnderlying76 rfl Tryz.sizeOf2 rfl rfl) ?_
  refine Rv rfl (oq_loadOwn rfl rfl Tryz.isAgg2 Z0 (j := 0) rfl rfl) ?_
  refine Ru rfl (pv_bin (v := .bool true) rfl rfl (by rfl)) ?_
  refine Rp rfl (pv_pick1 rfl rfl) ?_
  refine Rp rfl (pv_move rfl) ?_
  refine Ru rfl (pv_move rfl) ?_
  refine Ru rfl (pv_indexAddrN (j := 1) rfl rfl Tryz.runUnderlying39 Tryz.sizeOf76 rfl (by decide)) ?_
  refine Ru rfl (pv_fieldAddr (k := ho + 1 * 3 + 0) rfl Tryz.runUnderlying76 rfl Tryz.sizeOf2 rfl rfl) ?_
  refine Rv rfl (oq_loadOwn rfl rfl Tryz.isAgg2 Z0 (j := 3) rfl rfl) ?_
  refine Ru rfl (pv_bin (v := .bool true) rfl rfl (by rfl)) ?_
  refine Rp rfl (pv_pick1 rfl rfl) ?_
  refine Rp rfl (pv_move rfl) ?_
  refine Ru rfl (pv_move rfl) ?_
  refine Ru rfl (pv_indexAddrN (j := 1) rfl rfl Tryz.runUnderlying39 Tryz.sizeOf76 rfl (by decide)) ?_
  refine Ru rfl (pv_fieldAddr (k := ho + 1 * 3 + 1) rfl Tryz.runUnderlying76 rfl Tryz.sizeOf74 rfl rfl) ?_
  refine Ru rfl (pv_fieldAddr (k := ho + 1 * 3 + 1 + 0) rfl Tryz.runUnderlying74 rfl Tryz.sizeOf21 rfl rfl) ?_
  refine Rv rfl (oq_loadOwn rfl rfl Tryz.isAgg21 Z0 (j := 4) rfl rfl) ?_
  refine Ru rfl (pv_bin (v := .bool true) rfl rfl (by rfl)) ?_
  refine Rp rfl (pv_pick1 rfl rfl) ?_
  refine Rp rfl (pv_move rfl) ?_
  refine Ru rfl (pv_move rfl) ?_
  refine rl_wop rfl rfl (by decide) (ot_call rfl Tryz.call14 (vs := [_]) rfl (Sees.cons Z1 (Sees.refl)) (state_fixed _ rb r2 hfx _)) ?_
  rintro _ _ ⟨rfl, rfl⟩
  refine Ru rfl (pv_build (ps := [(0, _), (1, _)]) (cs := [_, _, _]) rfl Tryz.zeroValue25 Tryz.runUnderlying25 (.cons Tryz.sizeOf2 (.cons Tryz.sizeOf2 (.cons Tryz.sizeOf2 (.nil)))) rfl) ?_
  refine Ru rfl (pv_eqlS (r := true) rfl rfl ear_ut ear_held ear_guard ear_fields (ear_eq 16 24 0 16 24 0)) ?_
  refine Rp rfl (pv_pick1 rfl rfl) ?_
  refine Rp rfl (pv_move rfl) ?_
  refine Ru rfl (pv_move rfl) ?_
  refine rl_wop rfl rfl (by decide) (ot_call rfl Tryz.call15 (vs := [_]) rfl (Sees.cons Z0 (Sees.refl)) (losses_fixed _ rb r2 hfx _)) ?_
  rintro _ _ ⟨rfl, rfl⟩
  refine Ru rfl (pv_bin (v := .bool true) rfl rfl (by rfl)) ?_
  refine Rp rfl (pv_pick1 rfl rfl) ?_
  refine Rp rfl (pv_assign rfl) ?_
  refine Kn1 0 rfl ?_
  refine ct_ret ?_
  exact fin_ret1 (RVs.tmp rfl (RVs.nil)) Tryz.results7 ⟨rfl, rfl⟩ (Sees.skip (Sees.skip (Sees.skip (Sees.skip (Sees.skip (Sees.refl))))))
end Go.Proofs.YtnjljfjncfbinaaGreat
