/- Kinds of machines: one that sends messages, a relay. -/
import Derived.Test.YtnjljfjncfbinaaGreatSq
import Derived.Test.YtnjljfjncfbinaaGreatCs
import Derived.Test.YtnjljfjncfbinaaGreatFm
import Derived.Test.YtnjljfjncfbinaaGreatSl9
set_option linter.all false
namespace Go.Proofs.YtnjljfjncfbinaaGreat
open Go Go.Proofs
set_option maxRecDepth 100000
set_option linter.unusedVariables false
attribute [local irreducible] RL CT XT OQ OT PW PG PV Upon wpL
theorem Rd.pack {ω : World} {M L : List HP} {c : HP} {es n : Nat} {p : Option Addr} {xs : List Value} (s : Sel M c L) (h : Rd ω c es p n xs) : Rd ω (pack M) es p n xs := fun _ w hw => h _ w ((holds_pack.1 hw).sel (s.app _))
theorem csettle_eq (ω : World) (b : Nat) (c0 : CsS) (x0 : CsX) (n0 : Nat) (goal : CsS) (hg0 : csettle n0 c0 = goal) (hn0 : c0.left.length < n0) (hok0 : CsOk c0) (hl0 : msgs x0.l = c0.left) (F : List HP) : Spec ω Tryz.prog 37 #[.pointer (some ⟨b, 0, none⟩)] (row b 0 [.int .i64 c0.base, .int .i64 c0.size, .slice x0.lp c0.left.length x0.lc, .pointer (csNowA x0.nb c0.now), .slice x0.pp c0.places.length x0.pc, .slice x0.dp c0.done.length x0.dc] :: own 2 x0.lp c0.left.length x0.lc (mscells x0.l) :: pack (msinner x0.l) :: csNowRep x0.nb c0.now :: own 1 x0.pp c0.places.length x0.pc (i64s c0.places) :: own 1 x0.dp c0.done.length x0.dc (i64s c0.done) :: F) fun v' H' => v' = .tuple #[] ∧ H' = casterRep b goal :: F :=
  (csettle_spec ω b c0 x0 n0 goal hg0 hn0 hok0 hl0 F).seesPost fun _ _ ⟨e, s⟩ => ⟨_, ⟨e, rfl⟩, s⟩
theorem sndNext_full (ω : World) (b : Nat) (s : SndS) (ph : SndPh) (F : List HP) : Spec ω Tryz.prog 69 #[.pointer (some ⟨b, 0, none⟩)] (sndRep b s ph :: F) fun v' H' =>
    ∃ (a : AccD) (more : Bool) (X : HP) (p : Option Addr) (c : Nat), v' = .tuple #[accV a p a.data.length c, .bool more] ∧ Rd ω X 1 p a.data.length (byteC a.data) ∧ (∀ μ, X μ → sndRep b s ph μ) ∧ sndWant ph = (if more = true then some a else none) ∧ H' = X :: F := by
  refine (sndNext_spec ω b s ph F).seesPost ?_
  rintro v H' ⟨ac, more, X, p, m, c, rfl, rfl, hrd, hi, hs, hW⟩
  exact ⟨_, ⟨ac, more, X, p, c, rfl, hrd, hi, hW, rfl⟩, hs⟩
theorem sndTake_eq (ω : World) (b : Nat) (s : SndS) (ph : SndPh) (hne : ph ≠ .fin) (hok : SndOk s) (a : Ans) (ha : inK .u64 a.v) (X : HP) (ap : Option Addr) (ac : Nat) (F : List HP) : Spec ω Tryz.prog 195 #[.pointer (some ⟨b, 0, none⟩), .agg #[.int .u64 a.v, .bool (a.d), .slice ap a.data.length ac]] (sndRep b s ph :: X :: F) fun v' H' => v' = .tuple #[] ∧ H' = sndRep b (sndStep s ph a).1 (sndStep s ph a).2 :: X :: F :=
  (sndTake_spec ω b s ph hne hok a ha X ap ac F).seesPost fun _ _ ⟨e, s⟩ => ⟨_, ⟨e, rfl⟩, s⟩
def csWant (c : CsS) : Option AccD := match c.now with
  | none => none
  | some (_, ph) => sndWant ph
def csTake (c : CsS) (y : Ans) : CsS := match c.now with
  | none => c
  | some (s, ph) => csettle (c.left.length + 1) { c with now := some (sndStep s ph y) }
theorem sndStep_ok {s : SndS} {ph : SndPh} {a : Ans} (h : SndOk s) : SndOk (sndStep s ph a).1 := by
  cases ph <;> simp only [sndStep, sndStep_ld_begin, sndStep_st_begin_1, sndStep_st_begin_2, sndStep_st_write_1, sndStep_st_begin_2_1, sndStep_st_write_1_1_1, sndStep_in_write_1_1, sndStep_st_write_1_1_1_1] <;> (repeat' split) <;> exact ⟨h.hb, h.hs, h.hl⟩
theorem CsOk.told {c : CsS} {s : SndS} {ph : SndPh} {y : Ans} (h : CsOk c) (e : c.now = some (s, ph)) : CsOk { c with now := some (sndStep s ph y) } := by
  refine ⟨h.hb, h.hs, h.hl, ?_, ?_, h.hp⟩
  · intro s' ph' e'
    simp only [Option.some.injEq] at e'
    have := sndStep_ok (ph := ph) (a := y) (h.hn _ _ e)
    rw [e'] at this; exact this
  · have := h.hc
    rw [e] at this
    exact this
theorem csTake_ok {c : CsS} {y : Ans} (h : CsOk c) : CsOk (csTake c y) := by
  unfold csTake
  split
  · exact h
  · rename_i s ph e; exact csettle_ok _ _ (h.told e)
theorem csNext_none (ω : World) (b : Nat) (x0 x1 x2 x4 x5 : Value) (F : List HP) : Spec ω Tryz.prog 193 #[.pointer (some ⟨b, 0, none⟩)] (row b 0 [x0, x1, x2, .pointer none, x4, x5] :: F) fun v' H' => v' = .tuple #[accV ⟨0, 0, 0, 0, 0, []⟩ none 0 0, .bool false] ∧ H' = row b 0 [x0, x1, x2, .pointer none, x4, x5] :: F := by
  refine spec_of_body Tryz.func193 rfl Tryz.ntmps193 rfl ?_
  refine Cr ?_
  refine Ro rfl (ot_alloc rfl Tryz.zeroValue36 (rfl : _ = [_, _, _, _, _, _])) ?_
  rintro _ _ ⟨b1, rfl, rfl⟩
  refine Rp rfl (pv_assign rfl) ?_
  refine Kn2 0 2 rfl ?_
  refine ct_seq ?_
  refine Cr ?_
  refine Rp rfl (pv_move rfl) ?_
  refine Rp rfl (pv_eql rfl rfl Tryz.runUnderlying59 rfl) ?_
  refine Kn3 0 2 5 rfl ?_
  refine ct_false rfl ?_
  refine ct_skip ?_
  refine Kx2 0 2 rfl ?_
  refine Cr ?_
  refine Rp rfl (pv_move rfl) ?_
  refine Rp rfl (pv_nilCheck rfl) ?_
  refine Rp rfl (pv_fieldAddr (k := 3) rfl Tryz.runUnderlying123 rfl Tryz.sizeOf120 rfl rfl) ?_
  refine Rq rfl (oq_load rfl rfl Tryz.isAgg120 Z1 (by rfl) (by rfl)) ?_
  refine rl_call rfl rfl (by decide) Tryz.call69 (vs := [_]) rfl Tryz.func69 rfl Tryz.ntmps69 rfl rfl ?_
  refine Cr ?_
  refine Ro rfl (ot_alloc rfl Tryz.zeroValue36 (rfl : _ = [_, _, _, _, _, _])) ?_
  rintro _ _ ⟨b2, rfl, rfl⟩
  refine Rp rfl (pv_assign rfl) ?_
  refine Kn2 0 2 rfl ?_
  refine ct_seq ?_
  refine Cr ?_
  refine Rp rfl (pv_move rfl) ?_
  refine Rp rfl (pv_eql rfl rfl Tryz.runUnderlying120 rfl) ?_
  refine Kn3 0 2 5 rfl ?_
  refine ct_true rfl ?_
  refine Cr ?_
  refine Rp rfl (pv_build (ps := []) (cs := [_, _, _, _, _, _]) rfl Tryz.zeroValue36 Tryz.runUnderlying36 (.cons Tryz.sizeOf3 (.cons Tryz.sizeOf3 (.cons Tryz.sizeOf3 (.cons Tryz.sizeOf28 (.cons Tryz.sizeOf28 (.cons Tryz.sizeOf29 (.nil))))))) rfl) ?_
  refine rl_op0 rfl rfl (ot_store rfl rfl rfl Tryz.sizeOf36 Z0 (rfl : _ = [_, _, _, _, _, _]) rfl (by rfl) (by rfl) (by first | rfl | assumption) (by exact (rfl : _ = [_, _, _, _, _, _]))) ?_
  rintro _ _ rfl
  refine Rp rfl (pv_assign rfl) ?_
  refine Kn2 2 3 rfl ?_
  refine ct_ret ?_
  refine xt_ret_then ?_
  refine fin_ret (RVs.agg (us := [_, _, _, _, _, _]) rfl Tryz.isAgg36 Tryz.sizeOf36 Z0 (by rfl) (by rfl) (by rfl) (RVs.tmp rfl (RVs.nil))) Tryz.results69 ?_ Sees.refl
  refine Rp rfl (pv_extract rfl rfl) ?_
  refine Rp rfl (pv_extract rfl rfl) ?_
  refine rl_op0 rfl rfl (ot_store rfl rfl rfl Tryz.sizeOf36 Z1 (rfl : _ = [_, _, _, _, _, _]) rfl (by rfl) (by rfl) (by first | rfl | assumption) (by exact (rfl : _ = [_, _, _, _, _, _]))) ?_
  rintro _ _ rfl
  refine Rp rfl (pv_assign rfl) ?_
  refine Kn2 2 3 rfl ?_
  refine ct_ret ?_
  exact fin_ret (RVs.agg (us := [_, _, _, _, _, _]) rfl Tryz.isAgg36 Tryz.sizeOf36 Z0 (by rfl) (by rfl) (by rfl) (RVs.tmp rfl (RVs.nil))) Tryz.results193 ⟨rfl, rfl⟩ (Sees.cons Z2 (Sees.skip (Sees.skip (Sees.refl))))
theorem csNext_some (ω : World) (b nb : Nat) (s : SndS) (ph : SndPh) (x0 x1 x2 x4 x5 : Value) (F : List HP) : Spec ω Tryz.prog 193 #[.pointer (some ⟨b, 0, none⟩)] (row b 0 [x0, x1, x2, .pointer (some ⟨nb, 0, none⟩), x4, x5] :: sndRep nb s ph :: F) fun v' H' => ∃ (a : AccD) (more : Bool) (X : HP) (p : Option Addr) (c : Nat), v' = .tuple #[accV a p a.data.length c, .bool more] ∧ Rd ω X 1 p a.data.length (byteC a.data) ∧ (∀ μ, X μ → sndRep nb s ph μ) ∧ sndWant ph = (if more = true then some a else none) ∧ H' = row b 0 [x0, x1, x2, .pointer (some ⟨nb, 0, none⟩), x4, x5] :: X :: F := by
  refine spec_of_body Tryz.func193 rfl Tryz.ntmps193 rfl ?_
  refine Cr ?_
  refine Ro rfl (ot_alloc rfl Tryz.zeroValue36 (rfl : _ = [_, _, _, _, _, _])) ?_
  rintro _ _ ⟨b1, rfl, rfl⟩
  refine Rp rfl (pv_assign rfl) ?_
  refine Kn2 0 2 rfl ?_
  refine ct_seq ?_
  refine Cr ?_
  refine Rp rfl (pv_move rfl) ?_
  refine Rp rfl (pv_eql rfl rfl Tryz.runUnderlying59 rfl) ?_
  refine Kn3 0 2 5 rfl ?_
  refine ct_false rfl ?_
  refine ct_skip ?_
  refine Kx2 0 2 rfl ?_
  refine Cr ?_
  refine Rp rfl (pv_move rfl) ?_
  refine Rp rfl (pv_nilCheck rfl) ?_
  refine Rp rfl (pv_fieldAddr (k := 3) rfl Tryz.runUnderlying123 rfl Tryz.sizeOf120 rfl rfl) ?_
  refine Rq rfl (oq_load rfl rfl Tryz.isAgg120 Z1 (by rfl) (by rfl)) ?_
  refine Ro rfl (ot_call rfl Tryz.call69 (vs := [_]) rfl (Sees.cons Z2 (Sees.refl)) (sndNext_full _ nb s ph _)) ?_
  rintro _ _ ⟨a, more, Xm, pm, cm, rfl, hrd, hrep, hW, rfl⟩
  refine Rp rfl (pv_extract rfl rfl) ?_
  refine Rp rfl (pv_extract rfl rfl) ?_
  refine rl_op0 rfl rfl (ot_store rfl rfl rfl Tryz.sizeOf36 Z1 (rfl : _ = [_, _, _, _, _, _]) rfl (by rfl) (by rfl) (by first | rfl | assumption) (by exact (rfl : _ = [_, _, _, _, _, _]))) ?_
  rintro _ _ rfl
  refine Rp rfl (pv_assign rfl) ?_
  refine Kn2 2 3 rfl ?_
  refine ct_ret ?_
  exact fin_ret (RVs.agg (us := [_, _, _, _, _, _]) rfl Tryz.isAgg36 Tryz.sizeOf36 Z0 (by rfl) (by rfl) (by rfl) (RVs.tmp rfl (RVs.nil))) Tryz.results193 ⟨a, more, Xm, pm, cm, rfl, hrd, hrep, hW, rfl⟩ (Sees.cons Z2 (Sees.cons Z1 (Sees.skip (Sees.refl))))
theorem csNext_spec (ω : World) (b : Nat) (c : CsS) (F : List HP) : Spec ω Tryz.prog 193 #[.pointer (some ⟨b, 0, none⟩)] (casterRep b c :: F) (NextPost ω (casterRep b c) (csWant c) F) := by
  obtain ⟨base, size, left, now, places, done⟩ := c
  refine Spec.ex fun x => ?_
  rcases now with _ | ⟨s, ph⟩
  · refine Spec.eqH (H1 := row b 0 [.int .i64 base, .int .i64 size, .slice x.lp left.length x.lc, .pointer (none), .slice x.pp places.length x.pc, .slice x.dp done.length x.dc] :: own 2 x.lp left.length x.lc (mscells x.l) :: pack (msinner x.l) :: fact True :: own 1 x.pp places.length x.pc (i64s places) :: own 1 x.dp done.length x.dc (i64s done) :: fact (msgs x.l = left) :: F) rfl ?_
    refine (csNext_none ω b _ _ _ _ _ _).mono ?_
    rintro _ _ ⟨rfl, rfl⟩
    exact ⟨⟨0, 0, 0, 0, 0, []⟩, false, pack (casterPieces b ⟨base, size, left, none, places, done⟩ x), none, 0, 0, rfl, rfl, rd_nil, fun _ h => stars_ex1 x h, seesPack (L := casterPieces b ⟨base, size, left, none, places, done⟩ x), rfl⟩
  · refine Spec.eqH (H1 := row b 0 [.int .i64 base, .int .i64 size, .slice x.lp left.length x.lc, .pointer (some ⟨x.nb, 0, none⟩), .slice x.pp places.length x.pc, .slice x.dp done.length x.dc] :: own 2 x.lp left.length x.lc (mscells x.l) :: pack (msinner x.l) :: sndRep x.nb s ph :: own 1 x.pp places.length x.pc (i64s places) :: own 1 x.dp done.length x.dc (i64s done) :: fact (msgs x.l = left) :: F) rfl ?_
    refine Spec.sees (H1 := row b 0 [.int .i64 base, .int .i64 size, .slice x.lp left.length x.lc, .pointer (some ⟨x.nb, 0, none⟩), .slice x.pp places.length x.pc, .slice x.dp done.length x.dc] :: sndRep x.nb s ph :: own 2 x.lp left.length x.lc (mscells x.l) :: pack (msinner x.l) :: own 1 x.pp places.length x.pc (i64s places) :: own 1 x.dp done.length x.dc (i64s done) :: fact (msgs x.l = left) :: F) (Sees.cons .here (Sees.cons (.there (.there .here)) .refl)) ?_
    refine (csNext_some ω b x.nb s ph _ _ _ _ _ _).mono ?_
    rintro _ _ ⟨a, more, X, p, cc, rfl, hrd, hi, hW, rfl⟩
    refine ⟨a, more, pack (row b 0 [.int .i64 base, .int .i64 size, .slice x.lp left.length x.lc, .pointer (some ⟨x.nb, 0, none⟩), .slice x.pp places.length x.pc, .slice x.dp done.length x.dc] :: X :: own 2 x.lp left.length x.lc (mscells x.l) :: pack (msinner x.l) :: own 1 x.pp places.length x.pc (i64s places) :: own 1 x.dp done.length x.dc (i64s done) :: fact (msgs x.l = left) :: []), p, _, cc, rfl, rfl, Rd.pack (.there .here) hrd, ?_, seesPack (L := _ :: _ :: _ :: _ :: _ :: _ :: _ :: []), hW⟩
    intro μ h
    refine stars_ex1 (f := casterPieces b ⟨base, size, left, some (s, ph), places, done⟩) x ?_
    exact (Sees.cons .here (Sees.cons (.there .here) (Sees.cons (.there .here) (Sees.consI .here hi .refl)))).out μ h
theorem csTake_raw (ω : World) (b : Nat) (base size : Int) (left : List Msg) (s : SndS) (ph : SndPh) (places done : List Int) (x : CsX) (hl : msgs x.l = left) (hne : ph ≠ .fin) (hsok : SndOk s) (a : Ans) (ha : inK .u64 a.v) (hok9 : CsOk ⟨base, size, left, some ((sndStep s ph a).1, (sndStep s ph a).2), places, done⟩) (X : HP) (ap : Option Addr) (ac : Nat) (F : List HP) : Spec ω Tryz.prog 194 #[.pointer (some ⟨b, 0, none⟩), .agg #[.int .u64 a.v, .bool (a.d), .slice ap a.data.length ac]] (row b 0 [.int .i64 base, .int .i64 size, .slice x.lp left.length x.lc, .pointer (some ⟨x.nb, 0, none⟩), .slice x.pp places.length x.pc, .slice x.dp done.length x.dc] :: own 2 x.lp left.length x.lc (mscells x.l) :: pack (msinner x.l) :: sndRep x.nb s ph :: own 1 x.pp places.length x.pc (i64s places) :: own 1 x.dp done.length x.dc (i64s done) :: X :: F) fun v' H' => v' = .tuple #[] ∧ H' = casterRep b (csettle (left.length + 1) ⟨base, size, left, some ((sndStep s ph a).1, (sndStep s ph a).2), places, done⟩) :: X :: F := by
  refine spec_of_body Tryz.func194 rfl Tryz.ntmps194 rfl ?_
  refine Cr ?_
  refine Ro rfl (ot_box rfl rfl (rfl : _ = [_, _, _])) ?_
  rintro _ _ ⟨b1, rfl, rfl⟩
  refine Kn2 0 3 rfl ?_
  refine Cr ?_
  refine Rp rfl (pv_move rfl) ?_
  refine Rp rfl (pv_neq rfl rfl Tryz.runUnderlying59 rfl) ?_
  refine Rp rfl (pv_move rfl) ?_
  refine Ru rfl (pv_move rfl) ?_
  refine Ru rfl (pv_nilCheck rfl) ?_
  refine Ru rfl (pv_fieldAddr (k := 3) rfl Tryz.runUnderlying123 rfl Tryz.sizeOf120 rfl rfl) ?_
  refine Rv rfl (oq_load rfl rfl Tryz.isAgg120 Z1 (by rfl) (by rfl)) ?_
  refine Ru rfl (pv_neq rfl rfl Tryz.runUnderlying120 rfl) ?_
  refine Rp rfl (pv_pick1 rfl rfl) ?_
  refine Kn3 0 3 12 rfl ?_
  refine ct_true rfl ?_
  refine ct_seq ?_
  refine ct_planH [.q 0, .q 1, .q 2, .q 3, .q 4, .b 5] mixed (by decide +kernel) ?_
  refine pw_q rfl rfl rfl rfl (oq_pv (pv_move rfl)) ?_
  refine pw_q rfl rfl rfl rfl (oq_pv (pv_nilCheck rfl)) ?_
  refine pw_q rfl rfl rfl rfl (oq_pv (pv_fieldAddr (k := 3) rfl Tryz.runUnderlying123 rfl Tryz.sizeOf120 rfl rfl)) ?_
  refine pw_q rfl rfl rfl rfl (oq_load rfl rfl Tryz.isAgg120 Z1 (by rfl) (by rfl)) ?_
  refine pw_q rfl rfl rfl rfl (oq_loadAgg (us := [_, _, _]) rfl rfl Tryz.isAgg31 Tryz.sizeOf31 Z0 (by rfl) (by rfl) (by rfl)) ?_
  refine pw_b rfl rfl rfl rfl (ot_call rfl Tryz.call195 (vs := [_, _]) rfl (Sees.cons Z4 (Sees.cons Z6 (Sees.refl))) (sndTake_eq _ x.nb s ph hne hsok a ha _ ap ac _)) ?_
  rintro _ _ ⟨rfl, rfl⟩
  refine pw_done ?_
  refine Kx1 0 rfl ?_
  refine ct_region ?_
  refine Rp rfl (pv_move rfl) ?_
  refine Ro rfl (ot_call rfl Tryz.call37 (vs := [_]) rfl (Sees.cons Z3 (Sees.cons Z3 (Sees.cons Z3 (Sees.cons Z0 (Sees.cons Z2 (Sees.cons Z2 (Sees.refl))))))) (csettle_eq _ b ⟨base, size, left, some ((sndStep s ph a).1, (sndStep s ph a).2), places, done⟩ x _ _ rfl (Nat.lt_succ_self _) hok9 hl _)) ?_
  rintro _ _ ⟨rfl, rfl⟩
  refine rl_nil ?_
  exact fin_end (RVs.nil) Tryz.results194 ⟨rfl, rfl⟩ (Sees.cons Z0 (Sees.cons Z0 (Sees.skip (Sees.refl))))
theorem csTake_spec (ω : World) (b : Nat) (c : CsS) (a : Ans) (hok : CsOk c) (hw : csWant c ≠ none) (ha : inK .u64 a.v) (X : HP) (ap : Option Addr) (ac : Nat) (F : List HP) : Spec ω Tryz.prog 194 #[.pointer (some ⟨b, 0, none⟩), .agg #[.int .u64 a.v, .bool (a.d), .slice ap a.data.length ac]] (casterRep b c :: X :: F) fun v' H' => v' = .tuple #[] ∧ H' = casterRep b (csTake c a) :: X :: F := by
  obtain ⟨base, size, left, now, places, done⟩ := c
  rcases now with _ | ⟨s, ph⟩
  · exact absurd rfl hw
  · refine Spec.ex fun x => Spec.fact (p := msgs x.l = left) (.there (.there (.there (.there (.there (.there .here)))))) fun hl => ?_
    refine Spec.sees ?_ (csTake_raw ω b base size left s ph places done x hl (fun e => hw (by subst e; rfl)) (hok.hn _ _ rfl) a ha (hok.told rfl) X ap ac F)
    exact Sees.cons .here (Sees.cons .here (Sees.cons .here (Sees.cons .here (Sees.cons .here (Sees.cons .here (Sees.skip .refl))))))
def casterMK : MK where
  S := CsS
  tid := 59
  fN := 193
  fT := 194
  rep := casterRep
  want := csWant
  take := csTake
  inv := fun _ c => CsOk c
theorem casterMKok : MKok casterMK where
  mN := methF_of ⟨_, rfl⟩ Tryz.typeInfo59 rfl rfl rfl Tryz.runUnderlying59
  mT := methF_of ⟨_, rfl⟩ Tryz.typeInfo59 rfl rfl rfl Tryz.runUnderlying59
  cN := fun args w => Tryz.call193 args w
  cT := fun args w => Tryz.call194 args w
  next := csNext_spec
  take := fun ω b s n y h1 h2 h3 _ X p c _ F => (csTake_spec ω b s y h1 h2 h3 X p c F).mono fun _ _ ⟨e, h⟩ => ⟨e, by subst h; exact .refl⟩
  inv_mono := fun _ _ h => h
  inv_take := fun _ _ _ h _ _ _ => csTake_ok h
def rWant (r : RM) : Option AccD := if nowMore r.now = true then some ⟨(nowAcc r.now).k, (nowAcc r.now).at_, (nowAcc r.now).n, (nowAcc r.now).v, (nowAcc r.now).w, []⟩ else none
theorem nowAcc_plain (o : Option (HS × HPh)) : (nowAcc o).p = none ∧ (nowAcc o).m = 0 ∧ (nowAcc o).c = 0 := by
  rcases o with _ | ⟨s, ph⟩
  · exact ⟨rfl, rfl, rfl⟩
  · cases ph <;> exact ⟨rfl, rfl, rfl⟩
theorem rNext_post (ω : World) (b : Nat) (r : RM) (F : List HP) : Spec ω Tryz.prog 10 #[.pointer (some ⟨b, 0, none⟩)] (relayRep b r :: F) (NextPost ω (relayRep b r) (rWant r) F) := by
  refine (rnext_spec ω b r F).mono ?_
  rintro _ _ ⟨rfl, rfl⟩
  obtain ⟨h1, h2, h3⟩ := nowAcc_plain r.now
  refine ⟨⟨(nowAcc r.now).k, (nowAcc r.now).at_, (nowAcc r.now).n, (nowAcc r.now).v, (nowAcc r.now).w, []⟩, nowMore r.now, relayRep b r, none, 0, 0, ?_, rfl, rd_nil, fun _ h => h, .refl, rfl⟩
  unfold Acc.cells accV
  rw [h1, h2, h3]
def RInv (n : Nat) (r : RM) : Prop := ∃ B, ROk r B ∧ (r.now = none ∨ nowMore r.now = true) ∧ B + 8 * n ≤ 1099511627776
def relayMK : MK where
  S := RM
  tid := 32
  fN := 10
  fT := 16
  rep := relayRep
  want := rWant
  take := rtake
  inv := RInv
theorem relayMKok : MKok relayMK where
  mN := methF_of ⟨_, rfl⟩ Tryz.typeInfo32 rfl rfl rfl Tryz.runUnderlying32
  mT := methF_of ⟨_, rfl⟩ Tryz.typeInfo32 rfl rfl rfl Tryz.runUnderlying32
  cN := fun args w => Tryz.call10 args w
  cT := fun args w => Tryz.call16 args w
  next := rNext_post
  take := by
    rintro ω b s n y ⟨B, h1, h2, h3⟩ _ h4 h5 X p c hX F
    exact (rtake_spec ω b s y h4 X p c hX B h1 h2 (by omega) F).mono fun _ _ ⟨e, h⟩ => ⟨e, by subst h; exact .refl⟩
  inv_mono := by rintro n s ⟨B, h1, h2, h3⟩; exact ⟨B, h1, h2, by omega⟩
  inv_take := by
    rintro n s y ⟨B, h1, h2, h3⟩ _ h4 h5
    obtain ⟨h6, h7⟩ := rtake_ok h1 h2 h4 (show B + y.data.length ≤ 1099511627776 by omega)
    exact ⟨_, h6, h7, by omega⟩
end Go.Proofs.YtnjljfjncfbinaaGreat
