/- Contracts: the document's listener. -/
import Derived.Test.YtnjljfjncfbinaaGreatSq
import Derived.Test.YtnjljfjncfbinaaGreatFj
import Derived.Test.YtnjljfjncfbinaaGreatPl1
set_option linter.all false
namespace Go.Proofs.YtnjljfjncfbinaaGreat
open Go Go.Proofs
set_option maxRecDepth 100000
set_option linter.unusedVariables false

def mkS (base size cur nxt lap c pads : Int) : HS := ⟨base, size, cur, nxt, lap, c, pads, 0, [], false, 10⟩
def hgo (want : Acc) (ends : Bool) : List Ans → Nat → HS → HPh → TS × HS × HPh
  | [], k, s, ph => if ph.ends = true then (⟨[], k, want, ends⟩, s, ph) else (⟨[], k, hwant s ph, true⟩, s, ph)
  | a :: r, k, s, ph => if ph.ends = true then (⟨a :: r, k, want, ends⟩, s, ph) else hgo want ends r (k + 1) (hstep s ph a).1 (hstep s ph a).2
/-- What a listener comes to, told what stands on a tape. -/
def hrunT (t : TS) (s : HS) (ph : HPh) : TS × HS × HPh := hgo t.want t.ends t.rest t.k s ph
theorem hrun_fin (t : TS) (s : HS) : hrunT t s .fin = (t, s, .fin) := by
  obtain ⟨rest, k, want, ends⟩ := t
  cases rest <;> rfl
theorem hrun_stop {t : TS} {s : HS} {ph : HPh} (hp : ph.ends = false) (ho : t.ok = false) : hrunT t s ph = (t.do (hwant s ph), s, ph) := by
  obtain ⟨rest, k, want, ends⟩ := t
  cases rest with
  | nil => simp [hrunT, hgo, hp, TS.do]
  | cons y r => cases ho
theorem hrun_more {t : TS} {s : HS} {ph : HPh} (hp : ph.ends = false) (ho : t.ok = true) (a : Acc) : hrunT t s ph = hrunT (t.do a) (hstep s ph t.hd).1 (hstep s ph t.hd).2 := by
  obtain ⟨rest, k, want, ends⟩ := t
  cases rest with
  | nil => cases ho
  | cons y r => simp [hrunT, hgo, hp, TS.do, TS.hd]
theorem hrun_to {t : TS} {s s' : HS} {ph ph' : HPh} (hp : ph.ends = false) (ho : t.ok = true) (a : Acc) (h : hstep s ph t.hd = (s', ph')) : hrunT t s ph = hrunT (t.do a) s' ph' := by
  rw [hrun_more hp ho a, h]
theorem hrun_out {s : HS} {typ size : Int} : ∀ (m : Nat) (t : TS) (at_ n : Int) (h : List UInt8), n.toNat ≤ m → 1 ≤ n →
    ((tout t at_ n h).2.1 = true → hrunT t s (.out at_ n typ size h) = hrunT (tout t at_ n h).1 s (.vend typ size (tout t at_ n h).2.2)) ∧
    ((tout t at_ n h).2.1 = false → ∃ ph, ph.ends = false ∧ hrunT t s (.out at_ n typ size h) = ((tout t at_ n h).1, s, ph)) := by
  intro m
  induction m with
  | zero => intro t at_ n h h1 h2; omega
  | succ m ih =>
    intro t at_ n h h1 h2
    have hc := chunk_in n h2
    cases ho : t.ok with
    | false =>
      rw [tout_stop h2 ho]
      exact ⟨fun h => (by cases h), fun _ => ⟨_, rfl, hrun_stop rfl ho⟩⟩
    | true =>
      rw [tout_step h2 ho]
      by_cases hn : 1 ≤ n - chunk n
      · rw [hrun_to rfl ho (readA at_ (chunk n)) (show hstep s (.out at_ n typ size h) t.hd = (s, .out (at_ + chunk n) (n - chunk n) typ size (h ++ t.hd.data)) from if_pos hn)]
        exact ih _ _ _ _ (by omega) hn
      · rw [hrun_to rfl ho (readA at_ (chunk n)) (show hstep s (.out at_ n typ size h) t.hd = (s, .vend typ size (h ++ t.hd.data)) from if_neg hn), tout_end (by omega)]
        exact ⟨fun _ => rfl, fun h => (by cases h)⟩
theorem tout_ok {L : TL} : ∀ (m : Nat) (t : TS) (at_ n : Int) (h : List UInt8), n.toNat ≤ m → TOk L t → (tout t at_ n h).2.1 = true → TOk L (tout t at_ n h).1 := by
  intro m
  induction m with
  | zero => intro t at_ n h h1 h2 h3; rw [tout_end (by omega)]; exact h2
  | succ m ih =>
    intro t at_ n h h1 h2 h3
    by_cases hn : 1 ≤ n
    · have hc := chunk_in n hn
      cases ho : t.ok with
      | false => rw [tout_stop hn ho] at h3; cases h3
      | true =>
        rw [tout_step hn ho] at h3 ⊢
        exact ih _ _ _ _ (by omega) (h2.next ho _) h3
    · rw [tout_end (by omega)]; exact h2
section
variable {t : TS} {base size cur nxt lap c pads : Int}
theorem hr_tail_none (ho : t.ok = true) (h : IntKind.i64.wrap (IntKind.u64.wrap (t.hd.v - c)) ≤ 0) : hrunT t (mkS base size cur nxt lap c pads) .tail = (t.do (loadA (base + size + 8)), { mkS base size cur nxt lap c pads with e := 0 }, .fin) := by
  rw [hrun_to rfl ho (loadA (base + size + 8)) (show hstep (mkS base size cur nxt lap c pads) .tail t.hd = _ from if_pos h), hrun_fin]
theorem hr_tail_some (ho : t.ok = true) (h : ¬ IntKind.i64.wrap (IntKind.u64.wrap (t.hd.v - c)) ≤ 0) : hrunT t (mkS base size cur nxt lap c pads) .tail = hrunT (t.do (loadA (base + size + 8))) (mkS base size cur nxt lap c pads) .v1 :=
  hrun_to rfl ho _ (show hstep (mkS base size cur nxt lap c pads) .tail t.hd = _ from if_neg h)
theorem hr_v1_past (ho : t.ok = true) (h : IntKind.i64.wrap (IntKind.u64.wrap (t.hd.v - c)) ≥ size) : hrunT t (mkS base size cur nxt lap c pads) .v1 = hrunT (t.do (loadA (base + size))) (mkS base size cur nxt (IntKind.i64.wrap (lap + 1)) c pads) .latest :=
  hrun_to rfl ho _ (show hstep (mkS base size cur nxt lap c pads) .v1 t.hd = _ from if_pos h)
theorem hr_v1_ok (ho : t.ok = true) (h : ¬ IntKind.i64.wrap (IntKind.u64.wrap (t.hd.v - c)) ≥ size) : hrunT t (mkS base size cur nxt lap c pads) .v1 = hrunT (t.do (loadA (base + size))) (mkS base size cur nxt lap c pads) .hdr :=
  hrun_to rfl ho _ (show hstep (mkS base size cur nxt lap c pads) .v1 t.hd = _ from if_neg h)
theorem hr_latest (ho : t.ok = true) : hrunT t (mkS base size cur nxt lap c pads) .latest = hrunT (t.do (loadA (base + size + 16))) (mkS base size cur nxt lap t.hd.v pads) .hdr :=
  hrun_to rfl ho _ rfl
theorem hr_vpad_past {sz : Int} (ho : t.ok = true) (h : IntKind.i64.wrap (IntKind.u64.wrap (t.hd.v - c)) ≥ size) : hrunT t (mkS base size cur nxt lap c pads) (.vpad sz) = (t.do (loadA (base + size)), (mkS base size cur nxt lap c pads).lose, .fin) := by
  rw [hrun_to rfl ho (loadA (base + size)) (show hstep (mkS base size cur nxt lap c pads) (.vpad sz) t.hd = _ from if_pos h), hrun_fin]
theorem hr_vpad_ok {sz : Int} (ho : t.ok = true) (h : ¬ IntKind.i64.wrap (IntKind.u64.wrap (t.hd.v - c)) ≥ size) : hrunT t (mkS base size cur nxt lap c pads) (.vpad sz) = hrunT (t.do (loadA (base + size))) (mkS base size cur nxt lap (IntKind.u64.wrap (c + IntKind.u64.wrap sz)) (pads + 1)) .hdr :=
  hrun_to rfl ho _ (show hstep (mkS base size cur nxt lap c pads) (.vpad sz) t.hd = _ from if_neg h)
theorem hr_vend_past {typ sz : Int} {b : List UInt8} (ho : t.ok = true) (h : IntKind.i64.wrap (IntKind.u64.wrap (t.hd.v - c)) ≥ size) : hrunT t (mkS base size cur nxt lap c pads) (.vend typ sz b) = (t.do (loadA (base + size)), (mkS base size cur nxt lap c pads).lose, .fin) := by
  rw [hrun_to rfl ho (loadA (base + size)) (show hstep (mkS base size cur nxt lap c pads) (.vend typ sz b) t.hd = _ from if_pos h), hrun_fin]
theorem hr_vend_ok {typ sz : Int} {b : List UInt8} (ho : t.ok = true) (h : ¬ IntKind.i64.wrap (IntKind.u64.wrap (t.hd.v - c)) ≥ size) : hrunT t (mkS base size cur nxt lap c pads) (.vend typ sz b) = (t.do (loadA (base + size)), (mkS base size cur nxt lap c pads).hears typ sz b, .fin) := by
  rw [hrun_to rfl ho (loadA (base + size)) (show hstep (mkS base size cur nxt lap c pads) (.vend typ sz b) t.hd = _ from if_neg h), hrun_fin]
def hdrV (size c : Int) (t : TS) : Int × Int × Int × Bool :=
  if t.ok = false ∨ rlen t.hd.v < 8 then (0, 0, 0, false) else (rlen t.hd.v, rtyp t.hd.v, rsize t.hd.v, decide (rsize t.hd.v ≤ size - plc c size))
theorem hdrV_good (hg : (hdrV size c t).2.2.2 = true) : t.ok = true ∧ 8 ≤ rlen t.hd.v ∧ rsize t.hd.v ≤ size - plc c size ∧ hdrV size c t = (rlen t.hd.v, rtyp t.hd.v, rsize t.hd.v, true) := by
  unfold hdrV at hg ⊢
  split at hg
  · cases hg
  · rename_i h
    rw [if_neg h]
    have h2 : rsize t.hd.v ≤ size - plc c size := by simpa using hg
    have ho : t.ok = true := by cases e : t.ok; exact absurd (.inl e) h; rfl
    exact ⟨ho, by have := h; simp only [not_or] at this; omega, h2, by rw [decide_eq_true h2]⟩
theorem hr_hdr_bad (ho : t.ok = true) (hg : (hdrV size c t).2.2.2 = false) : hrunT t (mkS base size cur nxt lap c pads) .hdr = (t.do (loadA (base + plc c size)), (mkS base size cur nxt lap c pads).lose, .fin) := by
  have hb : rlen t.hd.v < 8 ∨ rsize t.hd.v > size - plc c size := by
    unfold hdrV at hg
    split at hg
    · rename_i h; rcases h with h | h
      · rw [h] at ho; cases ho
      · exact .inl h
    · right; simp at hg; omega
  rw [hrun_to rfl ho (loadA (base + plc c size)) (show hstep (mkS base size cur nxt lap c pads) .hdr t.hd = _ from if_pos hb), hrun_fin]
theorem hr_hdr_pad (hg : (hdrV size c t).2.2.2 = true) (ht : (hdrV size c t).2.1 = -1) (hp : ¬ (pads > 0 ∨ (hdrV size c t).2.2.1 < size - plc c size)) : hrunT t (mkS base size cur nxt lap c pads) .hdr = hrunT (t.do (loadA (base + plc c size))) (mkS base size cur nxt lap c pads) (.vpad (hdrV size c t).2.2.1) := by
  obtain ⟨ho, h1, h2, e⟩ := hdrV_good hg
  rw [e] at ht hp ⊢
  refine hrun_to rfl ho _ ?_
  show recStep _ _ = _
  unfold recStep
  rw [if_neg (by show ¬ (_ ∨ rsize t.hd.v > size - plc c size); omega), if_pos ht]
  exact if_neg hp
theorem hr_hdr_lost (hg : (hdrV size c t).2.2.2 = true) (ht : (hdrV size c t).2.1 = -1) (hp : pads > 0 ∨ (hdrV size c t).2.2.1 < size - plc c size) : hrunT t (mkS base size cur nxt lap c pads) .hdr = (t.do (loadA (base + plc c size)), (mkS base size cur nxt lap c pads).lose, .fin) := by
  obtain ⟨ho, h1, h2, e⟩ := hdrV_good hg
  rw [e] at ht hp
  rw [hrun_to rfl ho (loadA (base + plc c size)) (s' := (mkS base size cur nxt lap c pads).lose) (ph' := .fin), hrun_fin]
  show recStep _ _ = _
  unfold recStep
  rw [if_neg (by show ¬ (_ ∨ rsize t.hd.v > size - plc c size); omega), if_pos ht]
  exact if_pos hp
def outPh (base size c len typ sz : Int) : HPh := if 1 ≤ len - 8 then .out (base + plc c size + 8) (len - 8) typ sz [] else .vend typ sz []
theorem hr_hdr_good (hg : (hdrV size c t).2.2.2 = true) (ht : ¬ (hdrV size c t).2.1 = -1) : hrunT t (mkS base size cur nxt lap c pads) .hdr = hrunT (t.do (loadA (base + plc c size))) (mkS base size cur nxt lap c pads) (outPh base size c (hdrV size c t).1 (hdrV size c t).2.1 (hdrV size c t).2.2.1) := by
  obtain ⟨ho, h1, h2, e⟩ := hdrV_good hg
  rw [e] at ht ⊢
  refine hrun_to rfl ho _ ?_
  show recStep _ _ = _
  unfold recStep outPh
  rw [if_neg (by show ¬ (_ ∨ rsize t.hd.v > size - plc c size); omega), if_neg ht]
  split <;> rfl
theorem rsize_in (v : Int) (h : 8 ≤ rlen v) : rlen v ≤ rsize v ∧ rsize v ≤ rlen v + 7 := by
  have h1 := rlen_in v
  have := align8 (n := rlen v) ⟨by omega, by omega⟩
  unfold rsize
  rwa [if_neg (by omega)]
theorem hr_out (len typ sz : Int) (h : (tout t (base + plc c size + 8) (len - 8) []).2.1 = true) : hrunT t (mkS base size cur nxt lap c pads) (outPh base size c len typ sz) = hrunT (tout t (base + plc c size + 8) (len - 8) []).1 (mkS base size cur nxt lap c pads) (.vend typ sz (tout t (base + plc c size + 8) (len - 8) []).2.2) := by
  unfold outPh
  split
  · rename_i hn; exact (hrun_out _ _ _ _ _ (Nat.le_refl _) hn).1 h
  · rename_i hn; rw [tout_end (by omega)]
theorem hr_outstop (len typ sz : Int) (h : (tout t (base + plc c size + 8) (len - 8) []).2.1 = false) : ∃ ph, ph.ends = false ∧ hrunT t (mkS base size cur nxt lap c pads) (outPh base size c len typ sz) = ((tout t (base + plc c size + 8) (len - 8) []).1, mkS base size cur nxt lap c pads, ph) := by
  unfold outPh
  split
  · rename_i hn; exact (hrun_out _ _ _ _ _ (Nat.le_refl _) hn).2 h
  · rename_i hn; rw [tout_end (by omega)] at h; cases h
theorem wrap_sum (c sz : Int) : IntKind.i64.wrap (IntKind.u64.wrap (c + sz)) = IntKind.i64.wrap (IntKind.i64.wrap c + sz) := by
  simp only [IntKind.wrap, IntKind.bits, IntKind.signed]
  simp
  repeat' split
  all_goals omega
end
theorem rplace_plc (base size c : Int) (hs : 64 ≤ size ∧ size ≤ 8192) (hc : inK .u64 c) (hp : isPow size = true) : PureSpec Tryz.prog 64 #[.agg #[.int .i64 base, .int .i64 size], .int .u64 c] (.int .i64 (plc c size)) := by
  obtain ⟨n, rfl⟩ : ∃ n : Nat, c = n := ⟨c.toNat, by omega⟩
  rw [plc_mod hc hp hs.1 hs.2]
  exact rplace_pure base size n hs (by omega)
theorem rsplit_spec (v : Int) (hv : inK .u64 v) : PureSpec Tryz.prog 109 #[.int .u64 v] (.tuple #[.int .i32 (rlen v), .int .i32 (rtyp v)]) := by
  obtain ⟨n, rfl⟩ : ∃ n : Nat, v = n := ⟨v.toNat, by omega⟩
  have := rsplit_pure n (by omega)
  rw [rsplit_split n (by omega)] at this
  exact this
theorem ralign_spec (n : Int) (hn : 0 ≤ n ∧ n ≤ 2147483647) : PureSpec Tryz.prog 57 #[.int .i64 n, .int .i64 8] (.tuple #[.int .i64 (align n 8).1, .int .i64 (align n 8).2]) := by
  have := ralign_pure n 8 ⟨by omega, by omega⟩
  rwa [ralign_align hn] at this
theorem rpast_pure (base size c v : Int) : PureSpec Tryz.prog 62 #[.agg #[.int .i64 base, .int .i64 size], .int .u64 c, .int .u64 v] (.bool (decide (IntKind.i64.wrap (IntKind.u64.wrap (v - c)) ≥ size))) := by
  intro ω F
  refine spec_of_body Tryz.func62 rfl Tryz.ntmps62 rfl ?_
  refine Cr ?_
  refine Ro rfl (ot_box rfl rfl (rfl : _ = [_, _])) ?_
  rintro _ _ ⟨b3, rfl, rfl⟩
  refine Rp rfl (pv_assign rfl) ?_
  refine Kn3 1 2 3 rfl ?_
  refine Cr ?_
  refine Rp rfl (pv_move rfl) ?_
  refine Rp rfl (pv_move rfl) ?_
  refine Rp rfl (pv_bin rfl rfl rfl) ?_
  refine Rp rfl (pv_convert rfl Tryz.runUnderlying28 Tryz.runUnderlying2) ?_
  refine Rp rfl (pv_fieldAddr (k := 1) rfl Tryz.runUnderlying23 rfl Tryz.sizeOf3 rfl rfl) ?_
  refine Rq rfl (oq_load rfl rfl Tryz.isAgg3 (by repeat (first | exact Z0 | apply Sel.there)) (by rfl) (by rfl)) ?_
  refine Rp rfl (pv_bin rfl rfl rfl) ?_
  refine Rp rfl (pv_assign rfl) ?_
  refine Kn1 6 rfl ?_
  refine ct_ret ?_
  exact fin_ret (RVs.tmp rfl (RVs.nil)) Tryz.results62 (⟨rfl, rfl⟩) (by repeat (first | exact Sees.refl | (apply Sees.cons; (focus ((repeat (first | exact Z0 | apply Sel.there)); done))) | apply Sees.skip))
theorem rlost_pure (cur nxt lap c : Int) : PureSpec Tryz.prog 65 #[.agg #[.int .i64 cur, .int .i64 nxt, .int .i64 lap], .int .u64 c] (.tuple #[.agg #[.int .i32 0, .slice none 0 0], .bool false, .agg #[.int .i64 cur, .int .i64 (IntKind.i64.wrap c), .int .i64 (IntKind.i64.wrap (lap + 1))], .int .i64 9]) := by
  intro ω F
  refine spec_of_body Tryz.func65 rfl Tryz.ntmps65 rfl ?_
  refine Cr ?_
  refine Ro rfl (ot_box rfl rfl (rfl : _ = [_, _, _])) ?_
  rintro _ _ ⟨b2, rfl, rfl⟩
  refine Ro rfl (ot_alloc rfl Tryz.zeroValue74 (rfl : _ = [_, _])) ?_
  rintro _ _ ⟨b4, rfl, rfl⟩
  refine Rp rfl (pv_assign rfl) ?_
  refine Ro rfl (ot_alloc rfl Tryz.zeroValue25 (rfl : _ = [_, _, _])) ?_
  rintro _ _ ⟨b6, rfl, rfl⟩
  refine Rp rfl (pv_assign rfl) ?_
  refine Kn4 1 2 4 6 rfl ?_
  refine Cr ?_
  refine Rp rfl (pv_fieldAddr (k := 2) rfl Tryz.runUnderlying25 rfl Tryz.sizeOf2 rfl rfl) ?_
  refine Rq rfl (oq_load rfl rfl Tryz.isAgg2 (by repeat (first | exact Z0 | apply Sel.there)) (by rfl) (by rfl)) ?_
  refine Rp rfl (pv_bin rfl rfl rfl) ?_
  refine Rp rfl (pv_fieldAddr (k := 2) rfl Tryz.runUnderlying25 rfl Tryz.sizeOf2 rfl rfl) ?_
  refine rl_op0 rfl rfl (ot_store rfl rfl rfl Tryz.sizeOf2 (by repeat (first | exact Z0 | apply Sel.there)) (rfl : _ = [_]) rfl (by rfl) (by rfl) (by first | rfl | assumption) (by exact (rfl : _ = _ :: _ :: _ :: _))) ?_
  rintro _ _ rfl
  refine Kn4 1 2 4 6 rfl ?_
  refine Cr ?_
  refine Rp rfl (pv_move rfl) ?_
  refine Rp rfl (pv_convert rfl Tryz.runUnderlying28 Tryz.runUnderlying2) ?_
  refine Rp rfl (pv_fieldAddr (k := 1) rfl Tryz.runUnderlying25 rfl Tryz.sizeOf2 rfl rfl) ?_
  refine rl_op0 rfl rfl (ot_store rfl rfl rfl Tryz.sizeOf2 (by repeat (first | exact Z0 | apply Sel.there)) (rfl : _ = [_]) rfl (by rfl) (by rfl) (by first | rfl | assumption) (by exact (rfl : _ = _ :: _ :: _))) ?_
  rintro _ _ rfl
  refine Kn3 2 4 6 rfl ?_
  refine ct_seq ?_
  refine ct_plan1 [.q 0, .q 1, .e 2, .q 3, .b 4, .q 5] (row b4 0 _) (by repeat (first | exact Sees.refl | (apply Sees.cons; (focus ((repeat (first | exact Z0 | apply Sel.there)); done))) | apply Sees.skip)) mixed (by decide +kernel) ?_
  refine pw_q rfl rfl rfl rfl (oq_pv (pv_build (ps := []) (cs := [_, _]) rfl Tryz.zeroValue74 Tryz.runUnderlying74 (.cons Tryz.sizeOf21 (.cons Tryz.sizeOf29 (.nil))) rfl)) ?_
  refine pw_q rfl rfl rfl rfl (oq_loadAgg (us := [_, _, _]) rfl rfl Tryz.isAgg25 Tryz.sizeOf25 (by repeat (first | exact Z0 | apply Sel.there)) (by rfl) (by rfl) (by rfl)) ?_
  refine pw_e0 rfl rfl rfl (ot_store rfl rfl rfl Tryz.sizeOf74 (by repeat (first | exact Z0 | apply Sel.there)) (rfl : _ = [_, _]) rfl (by rfl) (by rfl) (by first | rfl | assumption) (by exact (rfl : _ = _ :: _ :: _))) ?_
  rintro _ _ rfl
  refine ⟨[_], .refl, ?_⟩
  refine pw_q rfl rfl rfl rfl (oq_pv (pv_assign rfl)) ?_
  refine pw_b0 rfl rfl rfl (ot_store rfl rfl rfl Tryz.sizeOf25 (by repeat (first | exact Z0 | apply Sel.there)) (rfl : _ = [_, _, _]) rfl (by rfl) (by rfl) (by first | rfl | assumption) (by exact (rfl : _ = _ :: _ :: _ :: _))) ?_
  rintro _ _ rfl
  refine pw_q rfl rfl rfl rfl (oq_pv (pv_assign rfl)) ?_
  refine pw_done ?_
  refine Kx4 4 5 6 7 rfl ?_
  refine ct_ret ?_
  exact fin_ret (RVs.agg (us := [_, _]) rfl Tryz.isAgg74 Tryz.sizeOf74 (by repeat (first | exact Z0 | apply Sel.there)) (by rfl) (by rfl) (by rfl) (RVs.tmp rfl (RVs.agg (us := [_, _, _]) rfl Tryz.isAgg25 Tryz.sizeOf25 (by repeat (first | exact Z0 | apply Sel.there)) (by rfl) (by rfl) (by rfl) (RVs.tmp rfl (RVs.nil))))) Tryz.results65 (⟨rfl, rfl⟩) (by repeat (first | exact Sees.refl | (apply Sees.cons; (focus ((repeat (first | exact Z0 | apply Sel.there)); done))) | apply Sees.skip))
theorem rheader_spec (ω : World) (tb : Nat) (tp : Option Addr) (tc : Nat) (L : TL) (X : HP) (ht : Told ω X tp L) (t : TS) (htk : TOk L t) (base size c : Int) (hb : 0 ≤ base ∧ base ≤ 131072) (hs : 64 ≤ size ∧ size ≤ 8192) (hpw : isPow size = true) (hc : inK .u64 c) (F : List HP)  : Spec ω Tryz.prog 63 #[.pointer (some ⟨tb, 0, none⟩), .agg #[.int .i64 base, .int .i64 size], .int .u64 c] (row tb 0 [.slice tp L.length tc, .int .i64 (t.k : Int), .int .i64 t.want.k, .int .i64 t.want.at_, .int .i64 t.want.n, .int .u64 t.want.v, .int .u64 t.want.w, .slice t.want.p t.want.m t.want.c, .bool t.ends] :: X :: F) fun v' H' => v' = .tuple #[.int .i64 (hdrV size c t).1, .int .i32 (hdrV size c t).2.1, .int .u64 (hdrV size c t).2.2.1, .bool (hdrV size c t).2.2.2, .bool t.ok] ∧ H' = row tb 0 [.slice tp L.length tc, .int .i64 ((t.do (loadA (base + plc c size))).k : Int), .int .i64 (t.do (loadA (base + plc c size))).want.k, .int .i64 (t.do (loadA (base + plc c size))).want.at_, .int .i64 (t.do (loadA (base + plc c size))).want.n, .int .u64 (t.do (loadA (base + plc c size))).want.v, .int .u64 (t.do (loadA (base + plc c size))).want.w, .slice (t.do (loadA (base + plc c size))).want.p (t.do (loadA (base + plc c size))).want.m (t.do (loadA (base + plc c size))).want.c, .bool (t.do (loadA (base + plc c size))).ends] :: X :: F := by
  refine spec_of_body Tryz.func63 rfl Tryz.ntmps63 rfl ?_
  have hpl := plc_in c size hs
  have hv := htk.hd_in ht
  have hln := rlen_in t.hd.v
  refine Cr ?_
  refine Ro rfl (ot_box rfl rfl (rfl : _ = [_, _])) ?_
  rintro _ _ ⟨b4, rfl, rfl⟩
  refine Rp rfl (pv_assign rfl) ?_
  refine Rp rfl (pv_assign rfl) ?_
  refine Rp rfl (pv_assign rfl) ?_
  refine Rp rfl (pv_assign rfl) ?_
  refine Rp rfl (pv_assign rfl) ?_
  refine Kn3 0 2 4 rfl ?_
  refine Cr ?_
  refine Rq rfl (oq_loadAgg (us := [_, _]) rfl rfl Tryz.isAgg23 Tryz.sizeOf23 (by repeat (first | exact Z0 | apply Sel.there)) (by rfl) (by rfl) (by rfl)) ?_
  refine Rp rfl (pv_move rfl) ?_
  refine Rq rfl (oq_call rfl Tryz.call64 (vs := [_, _]) rfl (rplace_plc _ _ _ hs hc hpw)) ?_
  refine Rp rfl (pv_assign rfl) ?_
  refine Kn3 0 4 11 rfl ?_
  refine Cr ?_
  refine Rp rfl (pv_move rfl) ?_
  refine Rp rfl (pv_fieldAddr (k := 0) rfl Tryz.runUnderlying23 rfl Tryz.sizeOf3 rfl rfl) ?_
  refine Rq rfl (oq_load rfl rfl Tryz.isAgg3 (by repeat (first | exact Z0 | apply Sel.there)) (by rfl) (by rfl)) ?_
  refine Rp rfl (pv_move rfl) ?_
  refine Rp rfl (pv_add rfl rfl ⟨by omega, by omega⟩) ?_
  refine Ro rfl (ot_call rfl Tryz.call61 (vs := [_, _, _]) rfl (by repeat (first | exact Sees.refl | (apply Sees.cons; (focus ((repeat (first | exact Z0 | apply Sel.there)); done))) | apply Sees.skip)) (tload_spec _ _ _ _ L X ht t htk _ _)) ?_
  rintro _ _ ⟨rfl, rfl⟩
  refine Rp rfl (pv_move rfl) ?_
  refine Rp rfl (pv_extract rfl rfl) ?_
  refine Rp rfl (pv_extract rfl rfl) ?_
  refine Rp rfl (pv_assign rfl) ?_
  refine Rp rfl (pv_assign rfl) ?_
  refine Kn4 4 11 12 13 rfl ?_
  refine Cr ?_
  refine Rp rfl (pv_move rfl) ?_
  refine Rq rfl (oq_call rfl Tryz.call109 (vs := [_]) rfl (rsplit_spec _ hv)) ?_
  refine Rp rfl (pv_move rfl) ?_
  refine Rp rfl (pv_extract rfl rfl) ?_
  refine Rp rfl (pv_extract rfl rfl) ?_
  refine Rp rfl (pv_assign rfl) ?_
  refine Rp rfl (pv_assign rfl) ?_
  refine Kn5 4 11 13 14 15 rfl ?_
  refine ct_seq ?_
  refine Cr ?_
  refine Rp rfl (pv_move rfl) ?_
  refine Rp rfl (pv_not rfl) ?_
  refine Rp rfl (pv_move rfl) ?_
  first | refine rl_split_d (fun h37 => ?_) (fun h37 => ?_) | refine rl_split_n (fun h37 => ?_) (fun h37 => ?_) | refine rl_split_b (fun h37 => ?_) (fun h37 => ?_) | refine rl_split (fun h37 => ?_) (fun h37 => ?_)
  · skip
    refine rl_u rfl rfl (by decide) ?_
    refine rl_u rfl rfl (by decide) ?_
    refine Rp rfl (pv_pick1 rfl rfl) ?_
    refine Kn6 4 11 13 14 15 40 rfl ?_
    refine ct_true rfl ?_
    refine Cr ?_
    refine Rp rfl (pv_move rfl) ?_
    refine Rp rfl (pv_assign rfl) ?_
    refine Rp rfl (pv_assign rfl) ?_
    refine Rp rfl (pv_assign rfl) ?_
    refine Rp rfl (pv_assign rfl) ?_
    refine Rp rfl (pv_assign rfl) ?_
    refine Kn5 6 7 8 9 10 rfl ?_
    refine ct_ret ?_
    refine xt_ret_then ?_
    refine fin_ret (H' := row tb 0 [.slice tp L.length tc, .int .i64 ((t.do (loadA (base + plc c size))).k : Int), .int .i64 (t.do (loadA (base + plc c size))).want.k, .int .i64 (t.do (loadA (base + plc c size))).want.at_, .int .i64 (t.do (loadA (base + plc c size))).want.n, .int .u64 (t.do (loadA (base + plc c size))).want.v, .int .u64 (t.do (loadA (base + plc c size))).want.w, .slice (t.do (loadA (base + plc c size))).want.p (t.do (loadA (base + plc c size))).want.m (t.do (loadA (base + plc c size))).want.c, .bool (t.do (loadA (base + plc c size))).ends] :: X :: F) (RVs.tmp rfl (RVs.tmp rfl (RVs.tmp rfl (RVs.tmp rfl (RVs.tmp rfl (RVs.nil)))))) Tryz.results63 (?_) ?_
    · have e : hdrV size c t = (0, 0, 0, false) := if_pos (.inl h37)
      rw [e]; exact ⟨rfl, rfl⟩
    · exact (by repeat (first | exact Sees.refl | (apply Sees.cons; (focus ((repeat (first | exact Z0 | apply Sel.there)); done))) | apply Sees.skip))
  · skip
    refine Ru rfl (pv_move rfl) ?_
    refine Ru rfl (pv_bin rfl rfl rfl) ?_
    refine Rp rfl (pv_pick0 rfl rfl) ?_
    refine Kn6 4 11 13 14 15 40 rfl ?_
    first | refine ct_cond_d rfl (fun h40 => ?_) (fun h40 => ?_) | refine ct_cond_n rfl (fun h40 => ?_) (fun h40 => ?_) | refine ct_cond_b rfl (fun h40 => ?_) (fun h40 => ?_) | refine ct_cond rfl (fun h40 => ?_) (fun h40 => ?_)
    · skip
      refine Cr ?_
      refine Rp rfl (pv_move rfl) ?_
      refine Rp rfl (pv_assign rfl) ?_
      refine Rp rfl (pv_assign rfl) ?_
      refine Rp rfl (pv_assign rfl) ?_
      refine Rp rfl (pv_assign rfl) ?_
      refine Rp rfl (pv_assign rfl) ?_
      refine Kn5 6 7 8 9 10 rfl ?_
      refine ct_ret ?_
      refine xt_ret_then ?_
      refine fin_ret (H' := row tb 0 [.slice tp L.length tc, .int .i64 ((t.do (loadA (base + plc c size))).k : Int), .int .i64 (t.do (loadA (base + plc c size))).want.k, .int .i64 (t.do (loadA (base + plc c size))).want.at_, .int .i64 (t.do (loadA (base + plc c size))).want.n, .int .u64 (t.do (loadA (base + plc c size))).want.v, .int .u64 (t.do (loadA (base + plc c size))).want.w, .slice (t.do (loadA (base + plc c size))).want.p (t.do (loadA (base + plc c size))).want.m (t.do (loadA (base + plc c size))).want.c, .bool (t.do (loadA (base + plc c size))).ends] :: X :: F) (RVs.tmp rfl (RVs.tmp rfl (RVs.tmp rfl (RVs.tmp rfl (RVs.tmp rfl (RVs.nil)))))) Tryz.results63 (?_) ?_
      · have e : hdrV size c t = (0, 0, 0, false) := if_pos (.inr h40)
        rw [e]; exact ⟨rfl, rfl⟩
      · exact (by repeat (first | exact Sees.refl | (apply Sees.cons; (focus ((repeat (first | exact Z0 | apply Sel.there)); done))) | apply Sees.skip))
    · have hrs := rsize_in t.hd.v (by omega)
      have hrs2 : rsize t.hd.v = (align (rlen t.hd.v) 8).1 := by unfold rsize; rw [if_neg (by omega)]
      rw [hrs2] at hrs
      refine ct_skip ?_
      refine Kx4 4 11 14 15 rfl ?_
      refine Cr ?_
      refine Rp rfl (pv_move rfl) ?_
      refine Rp rfl (pv_convert_in rfl Tryz.runUnderlying21 Tryz.runUnderlying2 ⟨by omega, by omega⟩) ?_
      refine Rq rfl (oq_call rfl Tryz.call57 (vs := [_, _]) rfl (ralign_spec _ ⟨by omega, by omega⟩)) ?_
      refine Rp rfl (pv_move rfl) ?_
      refine Rp rfl (pv_extract rfl rfl) ?_
      refine Rp rfl (pv_extract rfl rfl) ?_
      refine Rp rfl (pv_assign rfl) ?_
      refine Rp rfl (pv_assign rfl) ?_
      refine Kn5 4 11 14 15 16 rfl ?_
      refine ct_seq ?_
      refine ct_planH [.q 0, .q 1, .q 2, .q 3, .q 4, .q 5, .q 6, .q 7, .q 8, .q 9, .q 10, .q 11, .q 12, .q 13, .q 14, .q 15] mixed (by decide +kernel) ?_
      refine pw_q rfl rfl rfl rfl (oq_pv (pv_move rfl)) ?_
      refine pw_q rfl rfl rfl rfl (oq_pv (pv_convert_in rfl Tryz.runUnderlying21 Tryz.runUnderlying3 ⟨by omega, by omega⟩)) ?_
      refine pw_q rfl rfl rfl rfl (oq_pv (pv_move rfl)) ?_
      refine pw_q rfl rfl rfl rfl (oq_pv (pv_move rfl)) ?_
      refine pw_q rfl rfl rfl rfl (oq_pv (pv_convert_in rfl Tryz.runUnderlying2 Tryz.runUnderlying28 ⟨by omega, by omega⟩)) ?_
      refine pw_q rfl rfl rfl rfl (oq_pv (pv_move rfl)) ?_
      refine pw_q rfl rfl rfl rfl (oq_pv (pv_fieldAddr (k := 1) rfl Tryz.runUnderlying23 rfl Tryz.sizeOf3 rfl rfl)) ?_
      refine pw_q rfl rfl rfl rfl (oq_load rfl rfl Tryz.isAgg3 (by repeat (first | exact Z0 | apply Sel.there)) (by rfl) (by rfl)) ?_
      refine pw_q rfl rfl rfl rfl (oq_pv (pv_move rfl)) ?_
      refine pw_q rfl rfl rfl rfl (oq_pv (pv_sub rfl rfl ⟨by omega, by omega⟩)) ?_
      refine pw_q rfl rfl rfl rfl (oq_pv (pv_bin rfl rfl rfl)) ?_
      refine pw_q rfl rfl rfl rfl (oq_pv (pv_assign rfl)) ?_
      refine pw_q rfl rfl rfl rfl (oq_pv (pv_assign rfl)) ?_
      refine pw_q rfl rfl rfl rfl (oq_pv (pv_assign rfl)) ?_
      refine pw_q rfl rfl rfl rfl (oq_pv (pv_assign rfl)) ?_
      refine pw_q rfl rfl rfl rfl (oq_pv (pv_assign rfl)) ?_
      refine pw_done ?_
      refine Kx5 6 7 8 9 10 rfl ?_
      refine ct_ret ?_
      refine fin_ret (H' := row tb 0 [.slice tp L.length tc, .int .i64 ((t.do (loadA (base + plc c size))).k : Int), .int .i64 (t.do (loadA (base + plc c size))).want.k, .int .i64 (t.do (loadA (base + plc c size))).want.at_, .int .i64 (t.do (loadA (base + plc c size))).want.n, .int .u64 (t.do (loadA (base + plc c size))).want.v, .int .u64 (t.do (loadA (base + plc c size))).want.w, .slice (t.do (loadA (base + plc c size))).want.p (t.do (loadA (base + plc c size))).want.m (t.do (loadA (base + plc c size))).want.c, .bool (t.do (loadA (base + plc c size))).ends] :: X :: F) (RVs.tmp rfl (RVs.tmp rfl (RVs.tmp rfl (RVs.tmp rfl (RVs.tmp rfl (RVs.nil)))))) Tryz.results63 (?_) ?_
      · have e : hdrV size c t = (rlen t.hd.v, rtyp t.hd.v, rsize t.hd.v, decide (rsize t.hd.v ≤ size - plc c size)) := if_neg (by rw [h37]; simp; omega)
        rw [e, hrs2, h37]; exact ⟨rfl, rfl⟩
      · exact (by repeat (first | exact Sees.refl | (apply Sees.cons; (focus ((repeat (first | exact Z0 | apply Sel.there)); done))) | apply Sees.skip))
attribute [local irreducible] right
structure MAok (L : TL) (base size cur nxt : Int) (z : TS × HS × HPh) (q : TS × Int × Int × Bool) : Prop where
  hy : q.2.2.2 = true → TOk L q.1 ∧ hrunT q.1 (mkS base size cur nxt q.2.1 q.2.2.1 0) .hdr = z
  hn : q.2.2.2 = false → ∃ lap c ph, HPh.ends ph = false ∧ z = (q.1, mkS base size cur nxt lap c 0, ph)
  hc : inK .u64 q.2.2.1
structure MBq where
  t : TS
  lap : Int
  c : Int
  pads : Int
  ok : Bool
  good : Bool
  len : Int
  typ : Int
  sz : Int
structure MBok (L : TL) (base size cur nxt : Int) (z : TS × HS × HPh) (q : MBq) : Prop where
  hc : inK .u64 q.c
  h0 : q.ok = false → ∃ lap c pads ph, HPh.ends ph = false ∧ z = (q.t, mkS base size cur nxt lap c pads, ph)
  h1 : q.ok = true → q.good = false → z = (q.t, (mkS base size cur nxt q.lap q.c q.pads).lose, .fin)
  h2 : q.ok = true → q.good = true → TOk L q.t ∧ hrunT q.t (mkS base size cur nxt q.lap q.c q.pads) (outPh base size q.c q.len q.typ q.sz) = z ∧ 8 ≤ q.len ∧ q.len ≤ 8192
section
variable {L : TL} {base size cur nxt lap c pads : Int} {z : TS × HS × HPh} {t : TS}
theorem MAok.past (htk : TOk L t) (hc : inK .u64 t.hd.v) (hz : hrunT t (mkS base size cur nxt lap c 0) .latest = z) : MAok L base size cur nxt z (t.do (loadA (base + size + 16)), lap, t.hd.v, t.ok) :=
  ⟨fun h => ⟨htk.next h _, by rw [← hz, hr_latest h]⟩, fun h => ⟨_, _, _, rfl, by rw [← hz, hrun_stop rfl h]; rfl⟩, hc⟩
theorem MAok.go (htk : TOk L t) (hc : inK .u64 c) (hz : hrunT t (mkS base size cur nxt lap c 0) .v1 = z) (h : t.ok = true → ¬ IntKind.i64.wrap (IntKind.u64.wrap (t.hd.v - c)) ≥ size) : MAok L base size cur nxt z (t.do (loadA (base + size)), lap, c, t.ok) :=
  ⟨fun h' => ⟨htk.next h' _, by rw [← hz, hr_v1_ok h' (h h')]⟩, fun h => ⟨_, _, _, rfl, by rw [← hz, hrun_stop rfl h]; rfl⟩, hc⟩
theorem hdrV_in (h : (hdrV size c t).2.2.2 = true) (hs : 64 ≤ size ∧ size ≤ 8192) : 8 ≤ (hdrV size c t).1 ∧ (hdrV size c t).1 ≤ 8192 ∧ 0 ≤ (hdrV size c t).2.2.1 ∧ (hdrV size c t).2.2.1 ≤ 8192 := by
  obtain ⟨ho, h1, h2, e⟩ := hdrV_good h
  have hpl := plc_in c size hs
  have := rsize_in t.hd.v h1
  rw [e]; dsimp only; omega
theorem MBok.hdr (htk : TOk L t) (hc : inK .u64 c) (hs : 64 ≤ size ∧ size ≤ 8192) (hz : hrunT t (mkS base size cur nxt lap c pads) .hdr = z) (good : Bool) (hg : good = ((hdrV size c t).2.2.2 && !decide ((hdrV size c t).2.1 = -1))) (hp : (hdrV size c t).2.2.2 = true → (hdrV size c t).2.1 = -1 → pads > 0) :
    MBok L base size cur nxt z ⟨t.do (loadA (base + plc c size)), lap, c, pads, t.ok, good, (hdrV size c t).1, (hdrV size c t).2.1, (hdrV size c t).2.2.1⟩ := by
  refine ⟨hc, fun h => ⟨_, _, _, _, rfl, by rw [← hz, hrun_stop rfl h]; rfl⟩, fun h1 h2 => ?_, fun h1 h2 => ?_⟩
  · dsimp only at h1 h2 ⊢
    rw [← hz]
    cases h3 : (hdrV size c t).2.2.2 with
    | false => exact hr_hdr_bad h1 h3
    | true =>
      have h4 : (hdrV size c t).2.1 = -1 := by rw [h2, h3] at hg; simpa using hg.symm
      exact hr_hdr_lost h3 h4 (.inl (hp h3 h4))
  · dsimp only at h1 h2 ⊢
    rw [h2] at hg
    have hg := hg.symm
    simp only [Bool.and_eq_true, Bool.not_eq_true', decide_eq_false_iff_not] at hg
    have := hdrV_in hg.1 hs
    exact ⟨htk.next h1 _, by rw [← hz, hr_hdr_good hg.1 hg.2], this.1, this.2.1⟩
theorem MBok.stop {sz : Int} (hc : inK .u64 c) (hz : hrunT t (mkS base size cur nxt lap c pads) (.vpad sz) = z) (h : t.ok = false) (good : Bool) (len typ sz2 : Int) :
    MBok L base size cur nxt z ⟨t.do (loadA (base + size)), lap, c, pads, t.ok, good, len, typ, sz2⟩ :=
  ⟨hc, fun h => ⟨_, _, _, _, rfl, by rw [← hz, hrun_stop rfl h]; rfl⟩, fun h1 => (by rw [h] at h1; cases h1), fun h1 => (by rw [h] at h1; cases h1)⟩
end
set_option maxHeartbeats 4000000 in
theorem rhear_spec (ω : World) (tb : Nat) (tp : Option Addr) (tc : Nat) (L : TL) (X : HP) (ht : Told ω X tp L) (t : TS) (htk : TOk L t) (base size cur nxt lap : Int) (hb0 : inK .i64 base) (hs0 : inK .i64 size) (z : TS × HS × HPh) (hz : hrunT t (hnew base size cur nxt lap).1 (hnew base size cur nxt lap).2 = z) (F : List HP)  : Spec ω Tryz.prog 32 #[.pointer (some ⟨tb, 0, none⟩), .agg #[.int .i64 base, .int .i64 size], .agg #[.int .i64 cur, .int .i64 nxt, .int .i64 lap]] (row tb 0 [.slice tp L.length tc, .int .i64 (t.k : Int), .int .i64 t.want.k, .int .i64 t.want.at_, .int .i64 t.want.n, .int .u64 t.want.v, .int .u64 t.want.w, .slice t.want.p t.want.m t.want.c, .bool t.ends] :: X :: F) fun v' H' => ∃ p c cur' nxt' lap', v' = .tuple #[.agg #[.int .i32 z.2.1.mt, .slice p z.2.1.data.length c], .bool z.2.1.heard, .agg #[.int .i64 cur', .int .i64 nxt', .int .i64 lap'], .int .i64 z.2.1.e] ∧ (z.2.2.ends = true → cur' = z.2.1.cur ∧ nxt' = z.2.1.nxt ∧ lap' = z.2.1.lap) ∧ H' = own 1 p z.2.1.data.length c (byteC z.2.1.data) :: row tb 0 [.slice tp L.length tc, .int .i64 (z.1.k : Int), .int .i64 z.1.want.k, .int .i64 z.1.want.at_, .int .i64 z.1.want.n, .int .u64 z.1.want.v, .int .u64 z.1.want.w, .slice z.1.want.p z.1.want.m z.1.want.c, .bool z.1.ends] :: X :: F := by
  refine spec_of_body Tryz.func32 rfl Tryz.ntmps32 rfl ?_
  refine Cr ?_
  refine Ro rfl (ot_box rfl rfl (rfl : _ = [_, _])) ?_
  rintro _ _ ⟨b4, rfl, rfl⟩
  refine Ro rfl (ot_box rfl rfl (rfl : _ = [_, _, _])) ?_
  rintro _ _ ⟨b5, rfl, rfl⟩
  refine Ro rfl (ot_alloc rfl Tryz.zeroValue74 (rfl : _ = [_, _])) ?_
  rintro _ _ ⟨b6, rfl, rfl⟩
  refine Rp rfl (pv_assign rfl) ?_
  refine Ro rfl (ot_alloc rfl Tryz.zeroValue25 (rfl : _ = [_, _, _])) ?_
  rintro _ _ ⟨b8, rfl, rfl⟩
  refine Rp rfl (pv_assign rfl) ?_
  refine Kn5 0 4 5 6 8 rfl ?_
  refine Cr ?_
  refine Rp rfl (pv_build (ps := []) (cs := [_, _]) rfl Tryz.zeroValue74 Tryz.runUnderlying74 (.cons Tryz.sizeOf21 (.cons Tryz.sizeOf29 (.nil))) rfl) ?_
  refine Ro rfl (ot_alloc rfl Tryz.zeroValue74 (rfl : _ = [_, _])) ?_
  rintro _ _ ⟨b10, rfl, rfl⟩
  refine rl_op0 rfl rfl (ot_store rfl rfl rfl Tryz.sizeOf74 (by repeat (first | exact Z0 | apply Sel.there)) (rfl : _ = [_, _]) rfl (by rfl) (by rfl) (by first | rfl | assumption) (by exact (rfl : _ = _ :: _ :: _))) ?_
  rintro _ _ rfl
  refine Kn6 0 4 5 6 8 10 rfl ?_
  refine ct_seq ?_
  refine Cr ?_
  refine Rq rfl (oq_loadAgg (us := [_, _]) rfl rfl Tryz.isAgg23 Tryz.sizeOf23 (by repeat (first | exact Z0 | apply Sel.there)) (by rfl) (by rfl) (by rfl)) ?_
  refine Rq rfl (oq_call rfl Tryz.call60 (vs := [_]) rfl (right_pure _ _ ⟨by omega, by omega⟩ ⟨by omega, by omega⟩)) ?_
  refine Rp rfl (pv_not rfl) ?_
  refine Kn7 0 4 5 6 8 10 24 rfl ?_
  first | refine ct_cond_d rfl (fun h24 => ?_) (fun h24 => ?_) | refine ct_cond_n rfl (fun h24 => ?_) (fun h24 => ?_) | refine ct_cond_b rfl (fun h24 => ?_) (fun h24 => ?_) | refine ct_cond rfl (fun h24 => ?_) (fun h24 => ?_)
  · have e24 : ¬ ringErr base size = 0 := by rw [right_ringErr] at h24; simpa using h24
    rw [hnew_none e24, hrun_fin] at hz
    subst hz
    refine ct_seq ?_
    refine ct_plan1 [.q 0, .q 1, .e 2, .q 3, .b 4, .q 5] (row b6 0 _) (by repeat (first | exact Sees.refl | (apply Sees.cons; (focus ((repeat (first | exact Z0 | apply Sel.there)); done))) | apply Sees.skip)) mixed (by decide +kernel) ?_
    refine pw_q rfl rfl rfl rfl (oq_loadAgg (us := [_, _]) rfl rfl Tryz.isAgg74 Tryz.sizeOf74 (by repeat (first | exact Z0 | apply Sel.there)) (by rfl) (by rfl) (by rfl)) ?_
    refine pw_q rfl rfl rfl rfl (oq_loadAgg (us := [_, _, _]) rfl rfl Tryz.isAgg25 Tryz.sizeOf25 (by repeat (first | exact Z0 | apply Sel.there)) (by rfl) (by rfl) (by rfl)) ?_
    refine pw_e0 rfl rfl rfl (ot_store rfl rfl rfl Tryz.sizeOf74 (by repeat (first | exact Z0 | apply Sel.there)) (rfl : _ = [_, _]) rfl (by rfl) (by rfl) (by first | rfl | assumption) (by exact (rfl : _ = _ :: _ :: _))) ?_
    rintro _ _ rfl
    refine ⟨[_], .refl, ?_⟩
    refine pw_q rfl rfl rfl rfl (oq_pv (pv_assign rfl)) ?_
    refine pw_b0 rfl rfl rfl (ot_store rfl rfl rfl Tryz.sizeOf25 (by repeat (first | exact Z0 | apply Sel.there)) (rfl : _ = [_, _, _]) rfl (by rfl) (by rfl) (by first | rfl | assumption) (by exact (rfl : _ = _ :: _ :: _ :: _))) ?_
    rintro _ _ rfl
    refine pw_q rfl rfl rfl rfl (oq_pv (pv_assign rfl)) ?_
    refine pw_done ?_
    refine Kx4 6 7 8 9 rfl ?_
    refine ct_ret ?_
    refine xt_ret_then ?_
    exact fin_ret (RVs.agg (us := [_, _]) rfl Tryz.isAgg74 Tryz.sizeOf74 (by repeat (first | exact Z0 | apply Sel.there)) (by rfl) (by rfl) (by rfl) (RVs.tmp rfl (RVs.agg (us := [_, _, _]) rfl Tryz.isAgg25 Tryz.sizeOf25 (by repeat (first | exact Z0 | apply Sel.there)) (by rfl) (by rfl) (by rfl) (RVs.tmp rfl (RVs.nil))))) Tryz.results32 (⟨none, 0, _, _, _, rfl, fun _ => ⟨rfl, rfl, rfl⟩, rfl⟩) (Sees.nilOwn (by repeat (first | exact Sees.refl | (apply Sees.cons; (focus ((repeat (first | exact Z0 | apply Sel.there)); done))) | apply Sees.skip)))
  · have e24 : ringErr base size = 0 := by rw [right_ringErr] at h24; simpa using h24
    rw [hnew_some e24] at hz
    obtain ⟨hb, hs⟩ := ringErr_ok e24
    have hpw : isPow size = true := by cases e : isPow size with | true => rfl | false => (exfalso; unfold ringErr at e24; rw [if_pos (by simp [e])] at e24; cases e24)
    have hc0 := inK_wrap .u64 nxt
    replace hz : hrunT t (mkS base size cur nxt lap (IntKind.u64.wrap nxt) 0) .tail = z := hz
    refine ct_skip ?_
    refine Kx6 0 4 5 6 8 10 rfl ?_
    refine Cr ?_
    refine Rp rfl (pv_fieldAddr (k := 0) rfl Tryz.runUnderlying23 rfl Tryz.sizeOf3 rfl rfl) ?_
    refine Rq rfl (oq_load rfl rfl Tryz.isAgg3 (by repeat (first | exact Z0 | apply Sel.there)) (by rfl) (by rfl)) ?_
    refine Rp rfl (pv_fieldAddr (k := 1) rfl Tryz.runUnderlying23 rfl Tryz.sizeOf3 rfl rfl) ?_
    refine Rq rfl (oq_load rfl rfl Tryz.isAgg3 (by repeat (first | exact Z0 | apply Sel.there)) (by rfl) (by rfl)) ?_
    refine Rp rfl (pv_add rfl rfl ⟨by omega, by omega⟩) ?_
    refine Rp rfl (pv_assign rfl) ?_
    refine Kn7 0 4 5 6 8 10 11 rfl ?_
    refine Cr ?_
    refine Rp rfl (pv_move rfl) ?_
    refine Rp rfl (pv_move rfl) ?_
    refine Rp rfl (pv_add rfl rfl ⟨by omega, by omega⟩) ?_
    refine Ro rfl (ot_call rfl Tryz.call61 (vs := [_, _, _]) rfl (by repeat (first | exact Sees.refl | (apply Sees.cons; (focus ((repeat (first | exact Z0 | apply Sel.there)); done))) | apply Sees.skip)) (tload_spec _ _ _ _ L X ht t htk _ _)) ?_
    rintro _ _ ⟨rfl, rfl⟩
    refine Rp rfl (pv_move rfl) ?_
    refine Rp rfl (pv_extract rfl rfl) ?_
    refine Rp rfl (pv_extract rfl rfl) ?_
    refine Rp rfl (pv_assign rfl) ?_
    refine Rp rfl (pv_assign rfl) ?_
    refine Kn9 0 4 5 6 8 10 11 12 13 rfl ?_
    refine ct_seq ?_
    refine Cr ?_
    refine Rp rfl (pv_move rfl) ?_
    refine Rp rfl (pv_not rfl) ?_
    refine Kn9 0 4 5 6 8 10 11 12 40 rfl ?_
    first | refine ct_cond_d rfl (fun h40 => ?_) (fun h40 => ?_) | refine ct_cond_n rfl (fun h40 => ?_) (fun h40 => ?_) | refine ct_cond_b rfl (fun h40 => ?_) (fun h40 => ?_) | refine ct_cond rfl (fun h40 => ?_) (fun h40 => ?_)
    · rw [hrun_stop rfl h40] at hz
      subst hz
      refine ct_seq ?_
      refine ct_plan1 [.q 0, .q 1, .e 2, .q 3, .b 4, .q 5] (row b6 0 _) (by repeat (first | exact Sees.refl | (apply Sees.cons; (focus ((repeat (first | exact Z0 | apply Sel.there)); done))) | apply Sees.skip)) mixed (by decide +kernel) ?_
      refine pw_q rfl rfl rfl rfl (oq_loadAgg (us := [_, _]) rfl rfl Tryz.isAgg74 Tryz.sizeOf74 (by repeat (first | exact Z0 | apply Sel.there)) (by rfl) (by rfl) (by rfl)) ?_
      refine pw_q rfl rfl rfl rfl (oq_loadAgg (us := [_, _, _]) rfl rfl Tryz.isAgg25 Tryz.sizeOf25 (by repeat (first | exact Z0 | apply Sel.there)) (by rfl) (by rfl) (by rfl)) ?_
      refine pw_e0 rfl rfl rfl (ot_store rfl rfl rfl Tryz.sizeOf74 (by repeat (first | exact Z0 | apply Sel.there)) (rfl : _ = [_, _]) rfl (by rfl) (by rfl) (by first | rfl | assumption) (by exact (rfl : _ = _ :: _ :: _))) ?_
      rintro _ _ rfl
      refine ⟨[_], .refl, ?_⟩
      refine pw_q rfl rfl rfl rfl (oq_pv (pv_assign rfl)) ?_
      refine pw_b0 rfl rfl rfl (ot_store rfl rfl rfl Tryz.sizeOf25 (by repeat (first | exact Z0 | apply Sel.there)) (rfl : _ = [_, _, _]) rfl (by rfl) (by rfl) (by first | rfl | assumption) (by exact (rfl : _ = _ :: _ :: _ :: _))) ?_
      rintro _ _ rfl
      refine pw_q rfl rfl rfl rfl (oq_pv (pv_assign rfl)) ?_
      refine pw_done ?_
      refine Kx4 6 7 8 9 rfl ?_
      refine ct_ret ?_
      refine xt_ret_then ?_
      exact fin_ret (RVs.agg (us := [_, _]) rfl Tryz.isAgg74 Tryz.sizeOf74 (by repeat (first | exact Z0 | apply Sel.there)) (by rfl) (by rfl) (by rfl) (RVs.tmp rfl (RVs.agg (us := [_, _, _]) rfl Tryz.isAgg25 Tryz.sizeOf25 (by repeat (first | exact Z0 | apply Sel.there)) (by rfl) (by rfl) (by rfl) (RVs.tmp rfl (RVs.nil))))) Tryz.results32 (⟨none, 0, _, _, _, rfl, fun h => (by first | exact absurd h Bool.false_ne_true | (have h2 : HPh.ends ph = true := h; rw [hph] at h2; cases h2)), rfl⟩) (Sees.nilOwn (by repeat (first | exact Sees.refl | (apply Sees.cons; (focus ((repeat (first | exact Z0 | apply Sel.there)); done))) | apply Sees.skip)))
    · have htk1 := htk.next h40 (loadA (base + size + 8))
      refine ct_skip ?_
      refine Kx8 0 4 5 6 8 10 11 12 rfl ?_
      refine Cr ?_
      refine Rp rfl (pv_fieldAddr (k := 1) rfl Tryz.runUnderlying25 rfl Tryz.sizeOf2 rfl rfl) ?_
      refine Rq rfl (oq_load rfl rfl Tryz.isAgg2 (by repeat (first | exact Z0 | apply Sel.there)) (by rfl) (by rfl)) ?_
      refine Rp rfl (pv_convert rfl Tryz.runUnderlying2 Tryz.runUnderlying28) ?_
      refine Rp rfl (pv_assign rfl) ?_
      refine Kn9 0 4 5 6 8 10 11 12 14 rfl ?_
      refine ct_seq ?_
      refine Cr ?_
      refine Rp rfl (pv_move rfl) ?_
      refine Rp rfl (pv_move rfl) ?_
      refine Rp rfl (pv_bin rfl rfl rfl) ?_
      refine Rp rfl (pv_convert rfl Tryz.runUnderlying28 Tryz.runUnderlying2) ?_
      refine Rp rfl (pv_bin rfl rfl rfl) ?_
      refine Kn9 0 4 5 6 8 10 11 14 50 rfl ?_
      first | refine ct_cond_d rfl (fun h50 => ?_) (fun h50 => ?_) | refine ct_cond_n rfl (fun h50 => ?_) (fun h50 => ?_) | refine ct_cond_b rfl (fun h50 => ?_) (fun h50 => ?_) | refine ct_cond rfl (fun h50 => ?_) (fun h50 => ?_)
      · rw [hr_tail_none h40 h50] at hz
        subst hz
        refine ct_seq ?_
        refine ct_plan1 [.q 0, .q 1, .e 2, .q 3, .b 4, .q 5] (row b6 0 _) (by repeat (first | exact Sees.refl | (apply Sees.cons; (focus ((repeat (first | exact Z0 | apply Sel.there)); done))) | apply Sees.skip)) mixed (by decide +kernel) ?_
        refine pw_q rfl rfl rfl rfl (oq_loadAgg (us := [_, _]) rfl rfl Tryz.isAgg74 Tryz.sizeOf74 (by repeat (first | exact Z0 | apply Sel.there)) (by rfl) (by rfl) (by rfl)) ?_
        refine pw_q rfl rfl rfl rfl (oq_loadAgg (us := [_, _, _]) rfl rfl Tryz.isAgg25 Tryz.sizeOf25 (by repeat (first | exact Z0 | apply Sel.there)) (by rfl) (by rfl) (by rfl)) ?_
        refine pw_e0 rfl rfl rfl (ot_store rfl rfl rfl Tryz.sizeOf74 (by repeat (first | exact Z0 | apply Sel.there)) (rfl : _ = [_, _]) rfl (by rfl) (by rfl) (by first | rfl | assumption) (by exact (rfl : _ = _ :: _ :: _))) ?_
        rintro _ _ rfl
        refine ⟨[_], .refl, ?_⟩
        refine pw_q rfl rfl rfl rfl (oq_pv (pv_assign rfl)) ?_
        refine pw_b0 rfl rfl rfl (ot_store rfl rfl rfl Tryz.sizeOf25 (by repeat (first | exact Z0 | apply Sel.there)) (rfl : _ = [_, _, _]) rfl (by rfl) (by rfl) (by first | rfl | assumption) (by exact (rfl : _ = _ :: _ :: _ :: _))) ?_
        rintro _ _ rfl
        refine pw_q rfl rfl rfl rfl (oq_pv (pv_assign rfl)) ?_
        refine pw_done ?_
        refine Kx4 6 7 8 9 rfl ?_
        refine ct_ret ?_
        refine xt_ret_then ?_
        exact fin_ret (RVs.agg (us := [_, _]) rfl Tryz.isAgg74 Tryz.sizeOf74 (by repeat (first | exact Z0 | apply Sel.there)) (by rfl) (by rfl) (by rfl) (RVs.tmp rfl (RVs.agg (us := [_, _, _]) rfl Tryz.isAgg25 Tryz.sizeOf25 (by repeat (first | exact Z0 | apply Sel.there)) (by rfl) (by rfl) (by rfl) (RVs.tmp rfl (RVs.nil))))) Tryz.results32 (⟨none, 0, _, _, _, rfl, fun _ => ⟨rfl, rfl, rfl⟩, rfl⟩) (Sees.nilOwn (by repeat (first | exact Sees.refl | (apply Sees.cons; (focus ((repeat (first | exact Z0 | apply Sel.there)); done))) | apply Sees.skip)))
      · rw [hr_tail_some h40 h50] at hz
        refine ct_skip ?_
        refine Kx8 0 4 5 6 8 10 11 14 rfl ?_
        refine Cr ?_
        refine Rp rfl (pv_move rfl) ?_
        refine Rp rfl (pv_move rfl) ?_
        refine Ro rfl (ot_call rfl Tryz.call61 (vs := [_, _, _]) rfl (by repeat (first | exact Sees.refl | (apply Sees.cons; (focus ((repeat (first | exact Z0 | apply Sel.there)); done))) | apply Sees.skip)) (tload_spec _ _ _ _ L X ht _ htk1 _ _)) ?_
        rintro _ _ ⟨rfl, rfl⟩
        refine Rp rfl (pv_move rfl) ?_
        refine Rp rfl (pv_extract rfl rfl) ?_
        refine Rp rfl (pv_extract rfl rfl) ?_
        refine Rp rfl (pv_assign rfl) ?_
        refine Rp rfl (pv_assign rfl) ?_
        refine Kn10 0 4 5 6 8 10 11 13 14 15 rfl ?_
        refine ct_meet (α := { q : TS × Int × Int × Bool // MAok L base size cur nxt z q }) (fun q => [(0, .pointer (some ⟨tb, 0, none⟩)), (4, .pointer (some ⟨b4, 0, none⟩)), (5, .pointer (some ⟨b5, 0, none⟩)), (6, .pointer (some ⟨b6, 0, none⟩)), (8, .pointer (some ⟨b8, 0, none⟩)), (10, .pointer (some ⟨b10, 0, none⟩)), (11, .int .i64 (base + size)), (13, .bool q.1.2.2.2), (14, .int .u64 q.1.2.2.1)]) (fun q => row b4 0 [.int .i64 base, .int .i64 size] :: row b5 0 [.int .i64 cur, .int .i64 nxt, .int .i64 q.1.2.1] :: row b6 0 [.int .i32 0, .slice none 0 0] :: row b8 0 [.int .i64 0, .int .i64 0, .int .i64 0] :: row b10 0 [.int .i32 0, .slice none 0 0] :: row tb 0 [.slice tp L.length tc, .int .i64 (q.1.1.k : Int), .int .i64 q.1.1.want.k, .int .i64 q.1.1.want.at_, .int .i64 q.1.1.want.n, .int .u64 q.1.1.want.v, .int .u64 q.1.1.want.w, .slice q.1.1.want.p q.1.1.want.m q.1.1.want.c, .bool q.1.1.ends] :: X :: F) ?_ ?_
        · skip
          refine Cr ?_
          refine Rp rfl (pv_move rfl) ?_
          refine Rp rfl (pv_move rfl) ?_
          first | refine rl_split_d (fun h60 => ?_) (fun h60 => ?_) | refine rl_split_n (fun h60 => ?_) (fun h60 => ?_) | refine rl_split_b (fun h60 => ?_) (fun h60 => ?_) | refine rl_split (fun h60 => ?_) (fun h60 => ?_)
          · skip
            refine Rv rfl (oq_loadAgg (us := [_, _]) rfl rfl Tryz.isAgg23 Tryz.sizeOf23 (by repeat (first | exact Z0 | apply Sel.there)) (by rfl) (by rfl) (by rfl)) ?_
            refine Ru rfl (pv_move rfl) ?_
            refine Ru rfl (pv_move rfl) ?_
            refine Rv rfl (oq_call rfl Tryz.call62 (vs := [_, _, _]) rfl (rpast_pure _ _ _ _)) ?_
            refine Rp rfl (pv_pick1 rfl rfl) ?_
            refine Kn11 0 4 5 6 8 10 11 13 14 15 65 rfl ?_
            first | refine ct_cond_d rfl (fun h65 => ?_) (fun h65 => ?_) | refine ct_cond_n rfl (fun h65 => ?_) (fun h65 => ?_) | refine ct_cond_b rfl (fun h65 => ?_) (fun h65 => ?_) | refine ct_cond rfl (fun h65 => ?_) (fun h65 => ?_)
            · skip
              refine Cr ?_
              refine Rp rfl (pv_fieldAddr (k := 2) rfl Tryz.runUnderlying25 rfl Tryz.sizeOf2 rfl rfl) ?_
              refine Rq rfl (oq_load rfl rfl Tryz.isAgg2 (by repeat (first | exact Z0 | apply Sel.there)) (by rfl) (by rfl)) ?_
              refine Rp rfl (pv_bin rfl rfl rfl) ?_
              refine Rp rfl (pv_fieldAddr (k := 2) rfl Tryz.runUnderlying25 rfl Tryz.sizeOf2 rfl rfl) ?_
              refine rl_op0 rfl rfl (ot_store rfl rfl rfl Tryz.sizeOf2 (by repeat (first | exact Z0 | apply Sel.there)) (rfl : _ = [_]) rfl (by rfl) (by rfl) (by first | rfl | assumption) (by exact (rfl : _ = _ :: _ :: _ :: _))) ?_
              rintro _ _ rfl
              refine Kn8 0 4 5 6 8 10 11 15 rfl ?_
              refine ct_region ?_
              refine Rp rfl (pv_move rfl) ?_
              refine Rp rfl (pv_move rfl) ?_
              refine Rp rfl (pv_add rfl rfl ⟨by omega, by omega⟩) ?_
              refine Ro rfl (ot_call rfl Tryz.call61 (vs := [_, _, _]) rfl (by repeat (first | exact Sees.refl | (apply Sees.cons; (focus ((repeat (first | exact Z0 | apply Sel.there)); done))) | apply Sees.skip)) (tload_spec _ _ _ _ L X ht _ (htk1.next h60 _) _ _)) ?_
              rintro _ _ ⟨rfl, rfl⟩
              refine Rp rfl (pv_move rfl) ?_
              refine Rp rfl (pv_extract rfl rfl) ?_
              refine Rp rfl (pv_extract rfl rfl) ?_
              refine Rp rfl (pv_assign rfl) ?_
              refine Rp rfl (pv_assign rfl) ?_
              refine rl_nil ?_
              rw [hr_v1_past h60 h65] at hz
              exact xt_meet (⟨((((t.do (loadA (base + size + 8))).do (loadA (base + size))).do (loadA (base + size + 16))), IntKind.i64.wrap (lap + 1), ((t.do (loadA (base + size + 8))).do (loadA (base + size))).hd.v, ((t.do (loadA (base + size + 8))).do (loadA (base + size))).ok), MAok.past (htk1.next h60 _) ((htk1.next h60 _).hd_in ht) hz⟩) (Knows.cons rfl (Knows.cons rfl (Knows.cons rfl (Knows.cons rfl (Knows.cons rfl (Knows.cons rfl (Knows.cons rfl (Knows.cons rfl (Knows.cons rfl (Knows.nil)))))))))) (by repeat (first | exact Sees.refl | (apply Sees.cons; (focus ((repeat (first | exact Z0 | apply Sel.there)); done))) | apply Sees.skip))
            · skip
              refine ct_skip ?_
              exact xt_meet (⟨(((t.do (loadA (base + size + 8))).do (loadA (base + size))), lap, IntKind.u64.wrap nxt, (t.do (loadA (base + size + 8))).ok), MAok.go htk1 hc0 hz (fun _ => h65)⟩) (Knows.cons rfl (Knows.cons rfl (Knows.cons rfl (Knows.cons rfl (Knows.cons rfl (Knows.cons rfl (Knows.cons rfl (Knows.cons rfl (Knows.cons rfl (Knows.nil)))))))))) (by repeat (first | exact Sees.refl | (apply Sees.cons; (focus ((repeat (first | exact Z0 | apply Sel.there)); done))) | apply Sees.skip))
          · skip
            refine rl_u rfl rfl (by decide) ?_
            refine rl_u rfl rfl (by decide) ?_
            refine rl_u rfl rfl (by decide) ?_
            refine rl_u rfl rfl (by decide) ?_
            refine Rp rfl (pv_pick0 rfl rfl) ?_
            refine Kn11 0 4 5 6 8 10 11 13 14 15 65 rfl ?_
            refine ct_false rfl ?_
            refine ct_skip ?_
            exact xt_meet (⟨(((t.do (loadA (base + size + 8))).do (loadA (base + size))), lap, IntKind.u64.wrap nxt, (t.do (loadA (base + size + 8))).ok), MAok.go htk1 hc0 hz (fun h => by rw [h60] at h; cases h)⟩) (Knows.cons rfl (Knows.cons rfl (Knows.cons rfl (Knows.cons rfl (Knows.cons rfl (Knows.cons rfl (Knows.cons rfl (Knows.cons rfl (Knows.cons rfl (Knows.nil)))))))))) (by repeat (first | exact Sees.refl | (apply Sees.cons; (focus ((repeat (first | exact Z0 | apply Sel.there)); done))) | apply Sees.skip))
        · intro ⟨⟨t1, lap1, c1, ok1⟩, hA⟩
          dsimp only at hA ⊢
          refine ct_seq ?_
          refine Cr ?_
          refine Rp rfl (pv_move rfl) ?_
          refine Rp rfl (pv_not rfl) ?_
          refine Kn9 0 4 5 6 8 10 11 14 78 rfl ?_
          first | refine ct_cond_d rfl (fun h78 => ?_) (fun h78 => ?_) | refine ct_cond_n rfl (fun h78 => ?_) (fun h78 => ?_) | refine ct_cond_b rfl (fun h78 => ?_) (fun h78 => ?_) | refine ct_cond rfl (fun h78 => ?_) (fun h78 => ?_)
          · obtain ⟨l2, c2, ph, hph, hz2⟩ := hA.hn h78
            subst hz2
            refine ct_seq ?_
            refine ct_plan1 [.q 0, .q 1, .e 2, .q 3, .b 4, .q 5] (row b6 0 _) (by repeat (first | exact Sees.refl | (apply Sees.cons; (focus ((repeat (first | exact Z0 | apply Sel.there)); done))) | apply Sees.skip)) mixed (by decide +kernel) ?_
            refine pw_q rfl rfl rfl rfl (oq_loadAgg (us := [_, _]) rfl rfl Tryz.isAgg74 Tryz.sizeOf74 (by repeat (first | exact Z0 | apply Sel.there)) (by rfl) (by rfl) (by rfl)) ?_
            refine pw_q rfl rfl rfl rfl (oq_loadAgg (us := [_, _, _]) rfl rfl Tryz.isAgg25 Tryz.sizeOf25 (by repeat (first | exact Z0 | apply Sel.there)) (by rfl) (by rfl) (by rfl)) ?_
            refine pw_e0 rfl rfl rfl (ot_store rfl rfl rfl Tryz.sizeOf74 (by repeat (first | exact Z0 | apply Sel.there)) (rfl : _ = [_, _]) rfl (by rfl) (by rfl) (by first | rfl | assumption) (by exact (rfl : _ = _ :: _ :: _))) ?_
            rintro _ _ rfl
            refine ⟨[_], .refl, ?_⟩
            refine pw_q rfl rfl rfl rfl (oq_pv (pv_assign rfl)) ?_
            refine pw_b0 rfl rfl rfl (ot_store rfl rfl rfl Tryz.sizeOf25 (by repeat (first | exact Z0 | apply Sel.there)) (rfl : _ = [_, _, _]) rfl (by rfl) (by rfl) (by first | rfl | assumption) (by exact (rfl : _ = _ :: _ :: _ :: _))) ?_
            rintro _ _ rfl
            refine pw_q rfl rfl rfl rfl (oq_pv (pv_assign rfl)) ?_
            refine pw_done ?_
            refine Kx4 6 7 8 9 rfl ?_
            refine ct_ret ?_
            refine xt_ret_then ?_
            exact fin_ret (RVs.agg (us := [_, _]) rfl Tryz.isAgg74 Tryz.sizeOf74 (by repeat (first | exact Z0 | apply Sel.there)) (by rfl) (by rfl) (by rfl) (RVs.tmp rfl (RVs.agg (us := [_, _, _]) rfl Tryz.isAgg25 Tryz.sizeOf25 (by repeat (first | exact Z0 | apply Sel.there)) (by rfl) (by rfl) (by rfl) (RVs.tmp rfl (RVs.nil))))) Tryz.results32 (⟨none, 0, _, _, _, rfl, fun h => (by first | exact absurd h Bool.false_ne_true | (have h2 : HPh.ends ph = true := h; rw [hph] at h2; cases h2)), rfl⟩) (Sees.nilOwn (by repeat (first | exact Sees.refl | (apply Sees.cons; (focus ((repeat (first | exact Z0 | apply Sel.there)); done))) | apply Sees.skip)))
          · obtain ⟨htk1, hz1⟩ := hA.hy h78
            have hpl := plc_in c1 size hs
            refine ct_skip ?_
            refine Kx8 0 4 5 6 8 10 11 14 rfl ?_
            refine Cr ?_
            refine Rp rfl (pv_move rfl) ?_
            refine Rq rfl (oq_loadAgg (us := [_, _]) rfl rfl Tryz.isAgg23 Tryz.sizeOf23 (by repeat (first | exact Z0 | apply Sel.there)) (by rfl) (by rfl) (by rfl)) ?_
            refine Rp rfl (pv_move rfl) ?_
            refine Ro rfl (ot_call rfl Tryz.call63 (vs := [_, _, _]) rfl (by repeat (first | exact Sees.refl | (apply Sees.cons; (focus ((repeat (first | exact Z0 | apply Sel.there)); done))) | apply Sees.skip)) (rheader_spec _ _ _ _ L X ht t1 htk1 base size c1 hb hs hpw hA.hc _)) ?_
            rintro _ _ ⟨rfl, rfl⟩
            refine Rp rfl (pv_move rfl) ?_
            refine Rp rfl (pv_extract rfl rfl) ?_
            refine Rp rfl (pv_extract rfl rfl) ?_
            refine Rp rfl (pv_extract rfl rfl) ?_
            refine Rp rfl (pv_extract rfl rfl) ?_
            refine Rp rfl (pv_extract rfl rfl) ?_
            refine Rp rfl (pv_assign rfl) ?_
            refine Rp rfl (pv_assign rfl) ?_
            refine Rp rfl (pv_assign rfl) ?_
            refine Rp rfl (pv_assign rfl) ?_
            refine Rp rfl (pv_assign rfl) ?_
            refine Kn13 0 4 5 6 8 10 11 13 14 16 17 18 19 rfl ?_
            refine ct_meet (α := { q : MBq // MBok L base size cur nxt z q }) (fun q => [(0, .pointer (some ⟨tb, 0, none⟩)), (4, .pointer (some ⟨b4, 0, none⟩)), (5, .pointer (some ⟨b5, 0, none⟩)), (6, .pointer (some ⟨b6, 0, none⟩)), (8, .pointer (some ⟨b8, 0, none⟩)), (10, .pointer (some ⟨b10, 0, none⟩)), (11, .int .i64 (base + size)), (13, .bool q.1.ok), (14, .int .u64 q.1.c), (16, .int .i64 q.1.len), (17, .int .i32 q.1.typ), (18, .int .u64 q.1.sz), (19, .bool q.1.good)]) (fun q => row b4 0 [.int .i64 base, .int .i64 size] :: row b5 0 [.int .i64 cur, .int .i64 nxt, .int .i64 q.1.lap] :: row b6 0 [.int .i32 0, .slice none 0 0] :: row b8 0 [.int .i64 0, .int .i64 0, .int .i64 0] :: row b10 0 [.int .i32 0, .slice none 0 0] :: row tb 0 [.slice tp L.length tc, .int .i64 (q.1.t.k : Int), .int .i64 q.1.t.want.k, .int .i64 q.1.t.want.at_, .int .i64 q.1.t.want.n, .int .u64 q.1.t.want.v, .int .u64 q.1.t.want.w, .slice q.1.t.want.p q.1.t.want.m q.1.t.want.c, .bool q.1.t.ends] :: X :: F) ?_ ?_
            · skip
              refine Cr ?_
              refine Rp rfl (pv_move rfl) ?_
              refine Rp rfl (pv_move rfl) ?_
              first | refine rl_split_d (fun h92 => ?_) (fun h92 => ?_) | refine rl_split_n (fun h92 => ?_) (fun h92 => ?_) | refine rl_split_b (fun h92 => ?_) (fun h92 => ?_) | refine rl_split (fun h92 => ?_) (fun h92 => ?_)
              · skip
                refine Ru rfl (pv_move rfl) ?_
                refine Rp rfl (pv_pick1 rfl rfl) ?_
                refine Rp rfl (pv_move rfl) ?_
                first | refine rl_split_d (fun h95 => ?_) (fun h95 => ?_) | refine rl_split_n (fun h95 => ?_) (fun h95 => ?_) | refine rl_split_b (fun h95 => ?_) (fun h95 => ?_) | refine rl_split (fun h95 => ?_) (fun h95 => ?_)
                · skip
                  refine Ru rfl (pv_move rfl) ?_
                  refine Ru rfl (pv_bin rfl rfl rfl) ?_
                  refine Rp rfl (pv_pick1 rfl rfl) ?_
                  refine Kn14 0 4 5 6 8 10 11 13 14 16 17 18 19 98 rfl ?_
                  first | refine ct_cond_d rfl (fun h98 => ?_) (fun h98 => ?_) | refine ct_cond_n rfl (fun h98 => ?_) (fun h98 => ?_) | refine ct_cond_b rfl (fun h98 => ?_) (fun h98 => ?_) | refine ct_cond rfl (fun h98 => ?_) (fun h98 => ?_)
                  · have hdi := hdrV_in h95 hs
                    refine ct_seq ?_
                    refine ct_seq ?_
                    refine ct_planH [.q 0, .q 1, .q 2, .q 3, .q 4, .q 5, .q 6, .q 7, .q 8] mixed (by decide +kernel) ?_
                    refine pw_q rfl rfl rfl rfl (oq_pv (pv_move rfl)) ?_
                    refine pw_q rfl rfl rfl rfl (oq_pv (pv_fieldAddr (k := 1) rfl Tryz.runUnderlying23 rfl Tryz.sizeOf3 rfl rfl)) ?_
                    refine pw_q rfl rfl rfl rfl (oq_load rfl rfl Tryz.isAgg3 (by repeat (first | exact Z0 | apply Sel.there)) (by rfl) (by rfl)) ?_
                    refine pw_q rfl rfl rfl rfl (oq_loadAgg (us := [_, _]) rfl rfl Tryz.isAgg23 Tryz.sizeOf23 (by repeat (first | exact Z0 | apply Sel.there)) (by rfl) (by rfl) (by rfl)) ?_
                    refine pw_q rfl rfl rfl rfl (oq_pv (pv_move rfl)) ?_
                    refine pw_q rfl rfl rfl rfl (oq_call rfl Tryz.call64 (vs := [_, _]) rfl (rplace_plc _ _ _ hs hA.hc hpw)) ?_
                    refine pw_q rfl rfl rfl rfl (oq_pv (pv_sub rfl rfl ⟨by omega, by omega⟩)) ?_
                    refine pw_q rfl rfl rfl rfl (oq_pv (pv_convert_in rfl Tryz.runUnderlying3 Tryz.runUnderlying28 ⟨by omega, by omega⟩)) ?_
                    refine pw_q rfl rfl rfl rfl (oq_pv (pv_bin rfl rfl rfl)) ?_
                    refine pw_done ?_
                    refine Kx13 0 4 5 6 8 10 11 14 16 17 18 19 107 rfl ?_
                    first | refine ct_cond_d rfl (fun h107 => ?_) (fun h107 => ?_) | refine ct_cond_n rfl (fun h107 => ?_) (fun h107 => ?_) | refine ct_cond_b rfl (fun h107 => ?_) (fun h107 => ?_) | refine ct_cond rfl (fun h107 => ?_) (fun h107 => ?_)
                    · rw [hr_hdr_lost h95 h98 (.inr h107)] at hz1
                      subst hz1
                      refine Cr ?_
                      refine Rq rfl (oq_loadAgg (us := [_, _, _]) rfl rfl Tryz.isAgg25 Tryz.sizeOf25 (by repeat (first | exact Z0 | apply Sel.there)) (by rfl) (by rfl) (by rfl)) ?_
                      refine Rp rfl (pv_move rfl) ?_
                      refine Rq rfl (oq_call rfl Tryz.call65 (vs := [_, _]) rfl (rlost_pure _ _ _ _)) ?_
                      refine Rp rfl (pv_extract rfl rfl) ?_
                      refine Rp rfl (pv_extract rfl rfl) ?_
                      refine Rp rfl (pv_extract rfl rfl) ?_
                      refine Rp rfl (pv_extract rfl rfl) ?_
                      refine rl_op0 rfl rfl (ot_store rfl rfl rfl Tryz.sizeOf74 (by repeat (first | exact Z0 | apply Sel.there)) (rfl : _ = [_, _]) rfl (by rfl) (by rfl) (by first | rfl | assumption) (by exact (rfl : _ = _ :: _ :: _))) ?_
                      rintro _ _ rfl
                      refine Rp rfl (pv_assign rfl) ?_
                      refine rl_op0 rfl rfl (ot_store rfl rfl rfl Tryz.sizeOf25 (by repeat (first | exact Z0 | apply Sel.there)) (rfl : _ = [_, _, _]) rfl (by rfl) (by rfl) (by first | rfl | assumption) (by exact (rfl : _ = _ :: _ :: _ :: _))) ?_
                      rintro _ _ rfl
                      refine Rp rfl (pv_assign rfl) ?_
                      refine Kn4 6 7 8 9 rfl ?_
                      refine ct_ret ?_
                      refine xt_ret_then ?_
                      refine xt_ret_then ?_
                      exact fin_ret (RVs.agg (us := [_, _]) rfl Tryz.isAgg74 Tryz.sizeOf74 (by repeat (first | exact Z0 | apply Sel.there)) (by rfl) (by rfl) (by rfl) (RVs.tmp rfl (RVs.agg (us := [_, _, _]) rfl Tryz.isAgg25 Tryz.sizeOf25 (by repeat (first | exact Z0 | apply Sel.there)) (by rfl) (by rfl) (by rfl) (RVs.tmp rfl (RVs.nil))))) Tryz.results32 (⟨none, 0, _, _, _, rfl, fun _ => ⟨rfl, rfl, rfl⟩, rfl⟩) (Sees.nilOwn (by repeat (first | exact Sees.refl | (apply Sees.cons; (focus ((repeat (first | exact Z0 | apply Sel.there)); done))) | apply Sees.skip)))
                    · rw [hr_hdr_pad h95 h98 (by omega)] at hz1
                      have htk2 := htk1.next h92 (loadA (base + plc c1 size))
                      refine ct_skip ?_
                      refine Kx12 0 4 5 6 8 10 11 14 16 17 18 19 rfl ?_
                      refine Cr ?_
                      refine Rp rfl (pv_move rfl) ?_
                      refine Rp rfl (pv_move rfl) ?_
                      refine Ro rfl (ot_call rfl Tryz.call61 (vs := [_, _, _]) rfl (by repeat (first | exact Sees.refl | (apply Sees.cons; (focus ((repeat (first | exact Z0 | apply Sel.there)); done))) | apply Sees.skip)) (tload_spec _ _ _ _ L X ht _ htk2 _ _)) ?_
                      rintro _ _ ⟨rfl, rfl⟩
                      refine Rp rfl (pv_move rfl) ?_
                      refine Rp rfl (pv_extract rfl rfl) ?_
                      refine Rp rfl (pv_extract rfl rfl) ?_
                      refine Rp rfl (pv_assign rfl) ?_
                      refine Rp rfl (pv_assign rfl) ?_
                      refine Kn14 0 4 5 6 8 10 11 13 14 15 16 17 18 19 rfl ?_
                      refine ct_seq ?_
                      refine Cr ?_
                      refine Rp rfl (pv_move rfl) ?_
                      refine Rp rfl (pv_move rfl) ?_
                      first | refine rl_split_d (fun h122 => ?_) (fun h122 => ?_) | refine rl_split_n (fun h122 => ?_) (fun h122 => ?_) | refine rl_split_b (fun h122 => ?_) (fun h122 => ?_) | refine rl_split (fun h122 => ?_) (fun h122 => ?_)
                      · skip
                        refine Rv rfl (oq_loadAgg (us := [_, _]) rfl rfl Tryz.isAgg23 Tryz.sizeOf23 (by repeat (first | exact Z0 | apply Sel.there)) (by rfl) (by rfl) (by rfl)) ?_
                        refine Ru rfl (pv_move rfl) ?_
                        refine Ru rfl (pv_move rfl) ?_
                        refine Rv rfl (oq_call rfl Tryz.call62 (vs := [_, _, _]) rfl (rpast_pure _ _ _ _)) ?_
                        refine Rp rfl (pv_pick1 rfl rfl) ?_
                        refine Kn15 0 4 5 6 8 10 11 13 14 15 16 17 18 19 127 rfl ?_
                        first | refine ct_cond_d rfl (fun h127 => ?_) (fun h127 => ?_) | refine ct_cond_n rfl (fun h127 => ?_) (fun h127 => ?_) | refine ct_cond_b rfl (fun h127 => ?_) (fun h127 => ?_) | refine ct_cond rfl (fun h127 => ?_) (fun h127 => ?_)
                        · rw [hr_vpad_past h122 h127] at hz1
                          subst hz1
                          refine Cr ?_
                          refine Rq rfl (oq_loadAgg (us := [_, _, _]) rfl rfl Tryz.isAgg25 Tryz.sizeOf25 (by repeat (first | exact Z0 | apply Sel.there)) (by rfl) (by rfl) (by rfl)) ?_
                          refine Rp rfl (pv_move rfl) ?_
                          refine Rq rfl (oq_call rfl Tryz.call65 (vs := [_, _]) rfl (rlost_pure _ _ _ _)) ?_
                          refine Rp rfl (pv_extract rfl rfl) ?_
                          refine Rp rfl (pv_extract rfl rfl) ?_
                          refine Rp rfl (pv_extract rfl rfl) ?_
                          refine Rp rfl (pv_extract rfl rfl) ?_
                          refine rl_op0 rfl rfl (ot_store rfl rfl rfl Tryz.sizeOf74 (by repeat (first | exact Z0 | apply Sel.there)) (rfl : _ = [_, _]) rfl (by rfl) (by rfl) (by first | rfl | assumption) (by exact (rfl : _ = _ :: _ :: _))) ?_
                          rintro _ _ rfl
                          refine Rp rfl (pv_assign rfl) ?_
                          refine rl_op0 rfl rfl (ot_store rfl rfl rfl Tryz.sizeOf25 (by repeat (first | exact Z0 | apply Sel.there)) (rfl : _ = [_, _, _]) rfl (by rfl) (by rfl) (by first | rfl | assumption) (by exact (rfl : _ = _ :: _ :: _ :: _))) ?_
                          rintro _ _ rfl
                          refine Rp rfl (pv_assign rfl) ?_
                          refine Kn4 6 7 8 9 rfl ?_
                          refine ct_ret ?_
                          refine xt_ret_then ?_
                          refine xt_ret_then ?_
                          exact fin_ret (RVs.agg (us := [_, _]) rfl Tryz.isAgg74 Tryz.sizeOf74 (by repeat (first | exact Z0 | apply Sel.there)) (by rfl) (by rfl) (by rfl) (RVs.tmp rfl (RVs.agg (us := [_, _, _]) rfl Tryz.isAgg25 Tryz.sizeOf25 (by repeat (first | exact Z0 | apply Sel.there)) (by rfl) (by rfl) (by rfl) (RVs.tmp rfl (RVs.nil))))) Tryz.results32 (⟨none, 0, _, _, _, rfl, fun _ => ⟨rfl, rfl, rfl⟩, rfl⟩) (Sees.nilOwn (by repeat (first | exact Sees.refl | (apply Sees.cons; (focus ((repeat (first | exact Z0 | apply Sel.there)); done))) | apply Sees.skip)))
                        · rw [hr_vpad_ok h122 h127, wrap_inK (k := .u64) (a := (hdrV size c1 t1).2.2.1) ⟨by omega, by omega⟩] at hz1
                          have htk3 := htk2.next h122 (loadA (base + size))
                          refine ct_skip ?_
                          refine Kx14 0 4 5 6 8 10 11 13 14 15 16 17 18 19 rfl ?_
                          refine Cr ?_
                          refine Rp rfl (pv_move rfl) ?_
                          refine Kn15 0 4 5 6 8 10 11 13 14 15 16 17 18 19 135 rfl ?_
                          first | refine ct_cond_d rfl (fun h135 => ?_) (fun h135 => ?_) | refine ct_cond_n rfl (fun h135 => ?_) (fun h135 => ?_) | refine ct_cond_b rfl (fun h135 => ?_) (fun h135 => ?_) | refine ct_cond rfl (fun h135 => ?_) (fun h135 => ?_)
                          · skip
                            refine Cr ?_
                            refine Rp rfl (pv_move rfl) ?_
                            refine Rp rfl (pv_move rfl) ?_
                            refine Rp rfl (pv_bin rfl rfl rfl) ?_
                            refine Rp rfl (pv_assign rfl) ?_
                            refine Kn9 0 4 5 6 8 10 11 14 15 rfl ?_
                            refine Cr ?_
                            refine Rp rfl (pv_move rfl) ?_
                            refine Rq rfl (oq_loadAgg (us := [_, _]) rfl rfl Tryz.isAgg23 Tryz.sizeOf23 (by repeat (first | exact Z0 | apply Sel.there)) (by rfl) (by rfl) (by rfl)) ?_
                            refine Rp rfl (pv_move rfl) ?_
                            refine Ro rfl (ot_call rfl Tryz.call63 (vs := [_, _, _]) rfl (by repeat (first | exact Sees.refl | (apply Sees.cons; (focus ((repeat (first | exact Z0 | apply Sel.there)); done))) | apply Sees.skip)) (rheader_spec _ _ _ _ L X ht _ htk3 base size (IntKind.u64.wrap (c1 + (hdrV size c1 t1).2.2.1)) hb hs hpw (inK_wrap .u64 _) _)) ?_
                            rintro _ _ ⟨rfl, rfl⟩
                            refine Rp rfl (pv_move rfl) ?_
                            refine Rp rfl (pv_extract rfl rfl) ?_
                            refine Rp rfl (pv_extract rfl rfl) ?_
                            refine Rp rfl (pv_extract rfl rfl) ?_
                            refine Rp rfl (pv_extract rfl rfl) ?_
                            refine Rp rfl (pv_extract rfl rfl) ?_
                            refine Rp rfl (pv_assign rfl) ?_
                            refine Rp rfl (pv_assign rfl) ?_
                            refine Rp rfl (pv_assign rfl) ?_
                            refine Rp rfl (pv_assign rfl) ?_
                            refine Rp rfl (pv_assign rfl) ?_
                            refine Kn14 0 4 5 6 8 10 11 13 14 15 16 17 18 19 rfl ?_
                            refine ct_region ?_
                            refine Rp rfl (pv_move rfl) ?_
                            refine Rp rfl (pv_move rfl) ?_
                            first | refine rl_split_d (fun h150 => ?_) (fun h150 => ?_) | refine rl_split_n (fun h150 => ?_) (fun h150 => ?_) | refine rl_split_b (fun h150 => ?_) (fun h150 => ?_) | refine rl_split (fun h150 => ?_) (fun h150 => ?_)
                            · skip
                              refine Ru rfl (pv_move rfl) ?_
                              refine Ru rfl (pv_bin rfl rfl rfl) ?_
                              refine Rp rfl (pv_pick1 rfl rfl) ?_
                              refine Rp rfl (pv_assign rfl) ?_
                              refine rl_nil ?_
                              exact xt_meet (⟨⟨(((t1.do (loadA (base + plc c1 size))).do (loadA (base + size))).do (loadA (base + plc (IntKind.u64.wrap (c1 + (hdrV size c1 t1).2.2.1)) size))), lap1, (IntKind.u64.wrap (c1 + (hdrV size c1 t1).2.2.1)), 0 + 1, ((t1.do (loadA (base + plc c1 size))).do (loadA (base + size))).ok, !decide ((hdrV size (IntKind.u64.wrap (c1 + (hdrV size c1 t1).2.2.1)) ((t1.do (loadA (base + plc c1 size))).do (loadA (base + size)))).2.1 = -1), (hdrV size (IntKind.u64.wrap (c1 + (hdrV size c1 t1).2.2.1)) ((t1.do (loadA (base + plc c1 size))).do (loadA (base + size)))).1, (hdrV size (IntKind.u64.wrap (c1 + (hdrV size c1 t1).2.2.1)) ((t1.do (loadA (base + plc c1 size))).do (loadA (base + size)))).2.1, (hdrV size (IntKind.u64.wrap (c1 + (hdrV size c1 t1).2.2.1)) ((t1.do (loadA (base + plc c1 size))).do (loadA (base + size)))).2.2.1⟩, MBok.hdr htk3 (inK_wrap .u64 _) hs hz1 _ (by rw [h150]; rfl) (fun _ _ => by omega)⟩) (Knows.cons rfl (Knows.cons rfl (Knows.cons rfl (Knows.cons rfl (Knows.cons rfl (Knows.cons rfl (Knows.cons rfl (Knows.cons rfl (Knows.cons rfl (Knows.cons rfl (Knows.cons rfl (Knows.cons rfl (Knows.cons rfl (Knows.nil)))))))))))))) (by repeat (first | exact Sees.refl | (apply Sees.cons; (focus ((repeat (first | exact Z0 | apply Sel.there)); done))) | apply Sees.skip))
                            · skip
                              refine rl_u rfl rfl (by decide) ?_
                              refine rl_u rfl rfl (by decide) ?_
                              refine Rp rfl (pv_pick0 rfl rfl) ?_
                              refine Rp rfl (pv_assign rfl) ?_
                              refine rl_nil ?_
                              exact xt_meet (⟨⟨(((t1.do (loadA (base + plc c1 size))).do (loadA (base + size))).do (loadA (base + plc (IntKind.u64.wrap (c1 + (hdrV size c1 t1).2.2.1)) size))), lap1, (IntKind.u64.wrap (c1 + (hdrV size c1 t1).2.2.1)), 0 + 1, ((t1.do (loadA (base + plc c1 size))).do (loadA (base + size))).ok, false, (hdrV size (IntKind.u64.wrap (c1 + (hdrV size c1 t1).2.2.1)) ((t1.do (loadA (base + plc c1 size))).do (loadA (base + size)))).1, (hdrV size (IntKind.u64.wrap (c1 + (hdrV size c1 t1).2.2.1)) ((t1.do (loadA (base + plc c1 size))).do (loadA (base + size)))).2.1, (hdrV size (IntKind.u64.wrap (c1 + (hdrV size c1 t1).2.2.1)) ((t1.do (loadA (base + plc c1 size))).do (loadA (base + size)))).2.2.1⟩, MBok.hdr htk3 (inK_wrap .u64 _) hs hz1 _ (by rw [h150]; rfl) (fun _ _ => by omega)⟩) (Knows.cons rfl (Knows.cons rfl (Knows.cons rfl (Knows.cons rfl (Knows.cons rfl (Knows.cons rfl (Knows.cons rfl (Knows.cons rfl (Knows.cons rfl (Knows.cons rfl (Knows.cons rfl (Knows.cons rfl (Knows.cons rfl (Knows.nil)))))))))))))) (by repeat (first | exact Sees.refl | (apply Sees.cons; (focus ((repeat (first | exact Z0 | apply Sel.there)); done))) | apply Sees.skip))
                          · exfalso; first | omega | (simp_all; done) | (simp_all; omega)
                      · skip
                        refine rl_u rfl rfl (by decide) ?_
                        refine rl_u rfl rfl (by decide) ?_
                        refine rl_u rfl rfl (by decide) ?_
                        refine rl_u rfl rfl (by decide) ?_
                        refine Rp rfl (pv_pick0 rfl rfl) ?_
                        refine Kn15 0 4 5 6 8 10 11 13 14 15 16 17 18 19 127 rfl ?_
                        refine ct_false rfl ?_
                        refine ct_skip ?_
                        refine Kx14 0 4 5 6 8 10 11 13 14 15 16 17 18 19 rfl ?_
                        refine Cr ?_
                        refine Rp rfl (pv_move rfl) ?_
                        refine Kn15 0 4 5 6 8 10 11 13 14 15 16 17 18 19 135 rfl ?_
                        first | refine ct_cond_d rfl (fun h135 => ?_) (fun h135 => ?_) | refine ct_cond_n rfl (fun h135 => ?_) (fun h135 => ?_) | refine ct_cond_b rfl (fun h135 => ?_) (fun h135 => ?_) | refine ct_cond rfl (fun h135 => ?_) (fun h135 => ?_)
                        · exfalso; first | omega | (simp_all; done) | (simp_all; omega)
                        · skip
                          refine ct_skip ?_
                          exact xt_meet (⟨⟨((t1.do (loadA (base + plc c1 size))).do (loadA (base + size))), lap1, c1, 0, (t1.do (loadA (base + plc c1 size))).ok, (hdrV size c1 t1).2.2.2, (hdrV size c1 t1).1, (hdrV size c1 t1).2.1, (hdrV size c1 t1).2.2.1⟩, MBok.stop hA.hc hz1 h122 _ _ _ _⟩) (Knows.cons rfl (Knows.cons rfl (Knows.cons rfl (Knows.cons rfl (Knows.cons rfl (Knows.cons rfl (Knows.cons rfl (Knows.cons rfl (Knows.cons rfl (Knows.cons rfl (Knows.cons rfl (Knows.cons rfl (Knows.cons rfl (Knows.nil)))))))))))))) (by repeat (first | exact Sees.refl | (apply Sees.cons; (focus ((repeat (first | exact Z0 | apply Sel.there)); done))) | apply Sees.skip))
                  · skip
                    refine ct_skip ?_
                    exact xt_meet (⟨⟨(t1.do (loadA (base + plc c1 size))), lap1, c1, 0, t1.ok, (hdrV size c1 t1).2.2.2, (hdrV size c1 t1).1, (hdrV size c1 t1).2.1, (hdrV size c1 t1).2.2.1⟩, MBok.hdr htk1 hA.hc hs hz1 _ (by rw [decide_eq_false h98]; simp) (fun _ h => absurd h h98)⟩) (Knows.cons rfl (Knows.cons rfl (Knows.cons rfl (Knows.cons rfl (Knows.cons rfl (Knows.cons rfl (Knows.cons rfl (Knows.cons rfl (Knows.cons rfl (Knows.cons rfl (Knows.cons rfl (Knows.cons rfl (Knows.cons rfl (Knows.nil)))))))))))))) (by repeat (first | exact Sees.refl | (apply Sees.cons; (focus ((repeat (first | exact Z0 | apply Sel.there)); done))) | apply Sees.skip))
                · skip
                  refine rl_u rfl rfl (by decide) ?_
                  refine rl_u rfl rfl (by decide) ?_
                  refine Rp rfl (pv_pick0 rfl rfl) ?_
                  refine Kn14 0 4 5 6 8 10 11 13 14 16 17 18 19 98 rfl ?_
                  refine ct_false rfl ?_
                  refine ct_skip ?_
                  exact xt_meet (⟨⟨(t1.do (loadA (base + plc c1 size))), lap1, c1, 0, t1.ok, (hdrV size c1 t1).2.2.2, (hdrV size c1 t1).1, (hdrV size c1 t1).2.1, (hdrV size c1 t1).2.2.1⟩, MBok.hdr htk1 hA.hc hs hz1 _ (by rw [h95]; rfl) (fun h _ => by rw [h95] at h; cases h)⟩) (Knows.cons rfl (Knows.cons rfl (Knows.cons rfl (Knows.cons rfl (Knows.cons rfl (Knows.cons rfl (Knows.cons rfl (Knows.cons rfl (Knows.cons rfl (Knows.cons rfl (Knows.cons rfl (Knows.cons rfl (Knows.cons rfl (Knows.nil)))))))))))))) (by repeat (first | exact Sees.refl | (apply Sees.cons; (focus ((repeat (first | exact Z0 | apply Sel.there)); done))) | apply Sees.skip))
              · skip
                refine rl_u rfl rfl (by decide) ?_
                refine Rp rfl (pv_pick0 rfl rfl) ?_
                refine Rp rfl (pv_move rfl) ?_
                refine rl_u rfl rfl (by decide) ?_
                refine rl_u rfl rfl (by decide) ?_
                refine Rp rfl (pv_pick0 rfl rfl) ?_
                refine Kn14 0 4 5 6 8 10 11 13 14 16 17 18 19 98 rfl ?_
                refine ct_false rfl ?_
                refine ct_skip ?_
                exact xt_meet (⟨⟨(t1.do (loadA (base + plc c1 size))), lap1, c1, 0, t1.ok, (hdrV size c1 t1).2.2.2, (hdrV size c1 t1).1, (hdrV size c1 t1).2.1, (hdrV size c1 t1).2.2.1⟩, MBok.hdr htk1 hA.hc hs hz1 _ (by have e : (hdrV size c1 t1).2.2.2 = false := (by unfold hdrV; rw [if_pos (.inl h92)]); rw [e]; rfl) (fun h _ => by rw [(hdrV_good h).1] at h92; cases h92)⟩) (Knows.cons rfl (Knows.cons rfl (Knows.cons rfl (Knows.cons rfl (Knows.cons rfl (Knows.cons rfl (Knows.cons rfl (Knows.cons rfl (Knows.cons rfl (Knows.cons rfl (Knows.cons rfl (Knows.cons rfl (Knows.cons rfl (Knows.nil)))))))))))))) (by repeat (first | exact Sees.refl | (apply Sees.cons; (focus ((repeat (first | exact Z0 | apply Sel.there)); done))) | apply Sees.skip))
            · intro ⟨q, hB⟩
              dsimp only
              refine ct_seq ?_
              refine Cr ?_
              refine Rp rfl (pv_move rfl) ?_
              refine Rp rfl (pv_not rfl) ?_
              refine Kn13 0 4 5 6 8 10 11 14 16 17 18 19 155 rfl ?_
              first | refine ct_cond_d rfl (fun h155 => ?_) (fun h155 => ?_) | refine ct_cond_n rfl (fun h155 => ?_) (fun h155 => ?_) | refine ct_cond_b rfl (fun h155 => ?_) (fun h155 => ?_) | refine ct_cond rfl (fun h155 => ?_) (fun h155 => ?_)
              · obtain ⟨l2, c2, p2, ph, hph, hz2⟩ := hB.h0 h155
                subst hz2
                refine ct_seq ?_
                refine ct_plan1 [.q 0, .q 1, .e 2, .q 3, .b 4, .q 5] (row b6 0 _) (by repeat (first | exact Sees.refl | (apply Sees.cons; (focus ((repeat (first | exact Z0 | apply Sel.there)); done))) | apply Sees.skip)) mixed (by decide +kernel) ?_
                refine pw_q rfl rfl rfl rfl (oq_loadAgg (us := [_, _]) rfl rfl Tryz.isAgg74 Tryz.sizeOf74 (by repeat (first | exact Z0 | apply Sel.there)) (by rfl) (by rfl) (by rfl)) ?_
                refine pw_q rfl rfl rfl rfl (oq_loadAgg (us := [_, _, _]) rfl rfl Tryz.isAgg25 Tryz.sizeOf25 (by repeat (first | exact Z0 | apply Sel.there)) (by rfl) (by rfl) (by rfl)) ?_
                refine pw_e0 rfl rfl rfl (ot_store rfl rfl rfl Tryz.sizeOf74 (by repeat (first | exact Z0 | apply Sel.there)) (rfl : _ = [_, _]) rfl (by rfl) (by rfl) (by first | rfl | assumption) (by exact (rfl : _ = _ :: _ :: _))) ?_
                rintro _ _ rfl
                refine ⟨[_], .refl, ?_⟩
                refine pw_q rfl rfl rfl rfl (oq_pv (pv_assign rfl)) ?_
                refine pw_b0 rfl rfl rfl (ot_store rfl rfl rfl Tryz.sizeOf25 (by repeat (first | exact Z0 | apply Sel.there)) (rfl : _ = [_, _, _]) rfl (by rfl) (by rfl) (by first | rfl | assumption) (by exact (rfl : _ = _ :: _ :: _ :: _))) ?_
                rintro _ _ rfl
                refine pw_q rfl rfl rfl rfl (oq_pv (pv_assign rfl)) ?_
                refine pw_done ?_
                refine Kx4 6 7 8 9 rfl ?_
                refine ct_ret ?_
                refine xt_ret_then ?_
                exact fin_ret (RVs.agg (us := [_, _]) rfl Tryz.isAgg74 Tryz.sizeOf74 (by repeat (first | exact Z0 | apply Sel.there)) (by rfl) (by rfl) (by rfl) (RVs.tmp rfl (RVs.agg (us := [_, _, _]) rfl Tryz.isAgg25 Tryz.sizeOf25 (by repeat (first | exact Z0 | apply Sel.there)) (by rfl) (by rfl) (by rfl) (RVs.tmp rfl (RVs.nil))))) Tryz.results32 (⟨none, 0, _, _, _, rfl, fun h => (by first | exact absurd h Bool.false_ne_true | (have h2 : HPh.ends ph = true := h; rw [hph] at h2; cases h2)), rfl⟩) (Sees.nilOwn (by repeat (first | exact Sees.refl | (apply Sees.cons; (focus ((repeat (first | exact Z0 | apply Sel.there)); done))) | apply Sees.skip)))
              · skip
                refine ct_skip ?_
                refine Kx12 0 4 5 6 8 10 11 14 16 17 18 19 rfl ?_
                refine ct_seq ?_
                refine Cr ?_
                refine Rp rfl (pv_move rfl) ?_
                refine Rp rfl (pv_not rfl) ?_
                refine Kn12 0 4 5 6 8 10 11 14 16 17 18 159 rfl ?_
                first | refine ct_cond_d rfl (fun h159 => ?_) (fun h159 => ?_) | refine ct_cond_n rfl (fun h159 => ?_) (fun h159 => ?_) | refine ct_cond_b rfl (fun h159 => ?_) (fun h159 => ?_) | refine ct_cond rfl (fun h159 => ?_) (fun h159 => ?_)
                · have hz2 := hB.h1 h155 h159
                  subst hz2
                  refine Cr ?_
                  refine Rq rfl (oq_loadAgg (us := [_, _, _]) rfl rfl Tryz.isAgg25 Tryz.sizeOf25 (by repeat (first | exact Z0 | apply Sel.there)) (by rfl) (by rfl) (by rfl)) ?_
                  refine Rp rfl (pv_move rfl) ?_
                  refine Rq rfl (oq_call rfl Tryz.call65 (vs := [_, _]) rfl (rlost_pure _ _ _ _)) ?_
                  refine Rp rfl (pv_extract rfl rfl) ?_
                  refine Rp rfl (pv_extract rfl rfl) ?_
                  refine Rp rfl (pv_extract rfl rfl) ?_
                  refine Rp rfl (pv_extract rfl rfl) ?_
                  refine rl_op0 rfl rfl (ot_store rfl rfl rfl Tryz.sizeOf74 (by repeat (first | exact Z0 | apply Sel.there)) (rfl : _ = [_, _]) rfl (by rfl) (by rfl) (by first | rfl | assumption) (by exact (rfl : _ = _ :: _ :: _))) ?_
                  rintro _ _ rfl
                  refine Rp rfl (pv_assign rfl) ?_
                  refine rl_op0 rfl rfl (ot_store rfl rfl rfl Tryz.sizeOf25 (by repeat (first | exact Z0 | apply Sel.there)) (rfl : _ = [_, _, _]) rfl (by rfl) (by rfl) (by first | rfl | assumption) (by exact (rfl : _ = _ :: _ :: _ :: _))) ?_
                  rintro _ _ rfl
                  refine Rp rfl (pv_assign rfl) ?_
                  refine Kn4 6 7 8 9 rfl ?_
                  refine ct_ret ?_
                  refine xt_ret_then ?_
                  exact fin_ret (RVs.agg (us := [_, _]) rfl Tryz.isAgg74 Tryz.sizeOf74 (by repeat (first | exact Z0 | apply Sel.there)) (by rfl) (by rfl) (by rfl) (RVs.tmp rfl (RVs.agg (us := [_, _, _]) rfl Tryz.isAgg25 Tryz.sizeOf25 (by repeat (first | exact Z0 | apply Sel.there)) (by rfl) (by rfl) (by rfl) (RVs.tmp rfl (RVs.nil))))) Tryz.results32 (⟨none, 0, _, _, _, rfl, fun _ => ⟨rfl, rfl, rfl⟩, rfl⟩) (Sees.nilOwn (by repeat (first | exact Sees.refl | (apply Sees.cons; (focus ((repeat (first | exact Z0 | apply Sel.there)); done))) | apply Sees.skip)))
                · obtain ⟨htk4, hz4, hlen1, hlen2⟩ := hB.h2 h155 h159
                  have hpl := plc_in q.c size hs
                  refine ct_skip ?_
                  refine Kx11 0 4 5 6 8 10 11 14 16 17 18 rfl ?_
                  refine ct_seq ?_
                  refine ct_planH [.q 0, .q 1, .q 2, .q 3, .q 4, .q 5, .q 6, .q 7, .q 8, .q 9, .b 10, .q 11, .q 12, .q 13, .q 14, .q 15] mixed (by decide +kernel) ?_
                  refine pw_q rfl rfl rfl rfl (oq_pv (pv_move rfl)) ?_
                  refine pw_q rfl rfl rfl rfl (oq_pv (pv_fieldAddr (k := 0) rfl Tryz.runUnderlying23 rfl Tryz.sizeOf3 rfl rfl)) ?_
                  refine pw_q rfl rfl rfl rfl (oq_load rfl rfl Tryz.isAgg3 (by repeat (first | exact Z0 | apply Sel.there)) (by rfl) (by rfl)) ?_
                  refine pw_q rfl rfl rfl rfl (oq_loadAgg (us := [_, _]) rfl rfl Tryz.isAgg23 Tryz.sizeOf23 (by repeat (first | exact Z0 | apply Sel.there)) (by rfl) (by rfl) (by rfl)) ?_
                  refine pw_q rfl rfl rfl rfl (oq_pv (pv_move rfl)) ?_
                  refine pw_q rfl rfl rfl rfl (oq_call rfl Tryz.call64 (vs := [_, _]) rfl (rplace_plc _ _ _ hs hB.hc hpw)) ?_
                  refine pw_q rfl rfl rfl rfl (oq_pv (pv_add rfl rfl ⟨by omega, by omega⟩)) ?_
                  refine pw_q rfl rfl rfl rfl (oq_pv (pv_add rfl rfl ⟨by omega, by omega⟩)) ?_
                  refine pw_q rfl rfl rfl rfl (oq_pv (pv_move rfl)) ?_
                  refine pw_q rfl rfl rfl rfl (oq_pv (pv_sub rfl rfl ⟨by omega, by omega⟩)) ?_
                  refine pw_b rfl rfl rfl rfl (ot_call rfl Tryz.call66 (vs := [_, _, _]) rfl (by repeat (first | exact Sees.refl | (apply Sees.cons; (focus ((repeat (first | exact Z0 | apply Sel.there)); done))) | apply Sees.skip)) (tout_spec _ _ _ _ L X ht q.t htk4 (base + plc q.c size + 8) (q.len - 8) (by omega) (by omega) ⟨by omega, by omega⟩ _ rfl _)) ?_
                  rintro _ _ ⟨p178, c178, rfl, rfl⟩
                  refine pw_q rfl rfl rfl rfl (oq_pv (pv_move rfl)) ?_
                  refine pw_q rfl rfl rfl rfl (oq_pv (pv_extract rfl rfl)) ?_
                  refine pw_q rfl rfl rfl rfl (oq_pv (pv_extract rfl rfl)) ?_
                  refine pw_q rfl rfl rfl rfl (oq_pv (pv_assign rfl)) ?_
                  refine pw_q rfl rfl rfl rfl (oq_pv (pv_assign rfl)) ?_
                  refine pw_done ?_
                  refine Kx12 0 4 5 6 8 10 11 13 14 17 18 20 rfl ?_
                  refine ct_seq ?_
                  refine Cr ?_
                  refine Rp rfl (pv_move rfl) ?_
                  refine Kn13 0 4 5 6 8 10 11 13 14 17 18 20 181 rfl ?_
                  first | refine ct_cond_d rfl (fun h181 => ?_) (fun h181 => ?_) | refine ct_cond_n rfl (fun h181 => ?_) (fun h181 => ?_) | refine ct_cond_b rfl (fun h181 => ?_) (fun h181 => ?_) | refine ct_cond rfl (fun h181 => ?_) (fun h181 => ?_)
                  · rw [hr_out _ _ _ h181] at hz4
                    have htk5 := tout_ok _ q.t _ _ _ (Nat.le_refl _) htk4 h181
                    refine ct_region ?_
                    refine Rp rfl (pv_move rfl) ?_
                    refine Rp rfl (pv_move rfl) ?_
                    refine Ro rfl (ot_call rfl Tryz.call61 (vs := [_, _, _]) rfl (by repeat (first | exact Sees.refl | (apply Sees.cons; (focus ((repeat (first | exact Z0 | apply Sel.there)); done))) | apply Sees.skip)) (tload_spec _ _ _ _ L X ht _ htk5 _ _)) ?_
                    rintro _ _ ⟨rfl, rfl⟩
                    refine Rp rfl (pv_move rfl) ?_
                    refine Rp rfl (pv_extract rfl rfl) ?_
                    refine Rp rfl (pv_extract rfl rfl) ?_
                    refine Rp rfl (pv_assign rfl) ?_
                    refine Rp rfl (pv_assign rfl) ?_
                    refine Kn11 4 5 6 8 10 13 14 15 17 18 20 rfl ?_
                    refine ct_seq ?_
                    refine Cr ?_
                    refine Rp rfl (pv_move rfl) ?_
                    refine Rp rfl (pv_not rfl) ?_
                    refine Kn11 4 5 6 8 10 14 15 17 18 20 189 rfl ?_
                    first | refine ct_cond_d rfl (fun h189 => ?_) (fun h189 => ?_) | refine ct_cond_n rfl (fun h189 => ?_) (fun h189 => ?_) | refine ct_cond_b rfl (fun h189 => ?_) (fun h189 => ?_) | refine ct_cond rfl (fun h189 => ?_) (fun h189 => ?_)
                    · first | (rw [hrun_stop rfl h189] at hz4; subst hz4) | skip
                      refine ct_seq ?_
                      refine ct_plan1 [.q 0, .q 1, .e 2, .q 3, .b 4, .q 5] (row b6 0 _) (by repeat (first | exact Sees.refl | (apply Sees.cons; (focus ((repeat (first | exact Z0 | apply Sel.there)); done))) | apply Sees.skip)) mixed (by decide +kernel) ?_
                      refine pw_q rfl rfl rfl rfl (oq_loadAgg (us := [_, _]) rfl rfl Tryz.isAgg74 Tryz.sizeOf74 (by repeat (first | exact Z0 | apply Sel.there)) (by rfl) (by rfl) (by rfl)) ?_
                      refine pw_q rfl rfl rfl rfl (oq_loadAgg (us := [_, _, _]) rfl rfl Tryz.isAgg25 Tryz.sizeOf25 (by repeat (first | exact Z0 | apply Sel.there)) (by rfl) (by rfl) (by rfl)) ?_
                      refine pw_e0 rfl rfl rfl (ot_store rfl rfl rfl Tryz.sizeOf74 (by repeat (first | exact Z0 | apply Sel.there)) (rfl : _ = [_, _]) rfl (by rfl) (by rfl) (by first | rfl | assumption) (by exact (rfl : _ = _ :: _ :: _))) ?_
                      rintro _ _ rfl
                      refine ⟨[_], .refl, ?_⟩
                      refine pw_q rfl rfl rfl rfl (oq_pv (pv_assign rfl)) ?_
                      refine pw_b0 rfl rfl rfl (ot_store rfl rfl rfl Tryz.sizeOf25 (by repeat (first | exact Z0 | apply Sel.there)) (rfl : _ = [_, _, _]) rfl (by rfl) (by rfl) (by first | rfl | assumption) (by exact (rfl : _ = _ :: _ :: _ :: _))) ?_
                      rintro _ _ rfl
                      refine pw_q rfl rfl rfl rfl (oq_pv (pv_assign rfl)) ?_
                      refine pw_done ?_
                      refine Kx4 6 7 8 9 rfl ?_
                      refine ct_ret ?_
                      refine xt_ret_then ?_
                      exact fin_ret (RVs.agg (us := [_, _]) rfl Tryz.isAgg74 Tryz.sizeOf74 (by repeat (first | exact Z0 | apply Sel.there)) (by rfl) (by rfl) (by rfl) (RVs.tmp rfl (RVs.agg (us := [_, _, _]) rfl Tryz.isAgg25 Tryz.sizeOf25 (by repeat (first | exact Z0 | apply Sel.there)) (by rfl) (by rfl) (by rfl) (RVs.tmp rfl (RVs.nil))))) Tryz.results32 (⟨none, 0, _, _, _, rfl, fun h => (by first | exact absurd h Bool.false_ne_true | (have h2 : HPh.ends ph = true := h; rw [hph] at h2; cases h2)), rfl⟩) (Sees.nilOwn (by repeat (first | exact Sees.refl | (apply Sees.cons; (focus ((repeat (first | exact Z0 | apply Sel.there)); done))) | apply Sees.skip)))
                    · skip
                      refine ct_skip ?_
                      refine Kx9 4 5 6 8 14 15 17 18 20 rfl ?_
                      refine ct_seq ?_
                      refine Cr ?_
                      refine Rq rfl (oq_loadAgg (us := [_, _]) rfl rfl Tryz.isAgg23 Tryz.sizeOf23 (by repeat (first | exact Z0 | apply Sel.there)) (by rfl) (by rfl) (by rfl)) ?_
                      refine Rp rfl (pv_move rfl) ?_
                      refine Rp rfl (pv_move rfl) ?_
                      refine Rq rfl (oq_call rfl Tryz.call62 (vs := [_, _, _]) rfl (rpast_pure _ _ _ _)) ?_
                      refine Kn8 5 6 8 14 17 18 20 195 rfl ?_
                      first | refine ct_cond_d rfl (fun h195 => ?_) (fun h195 => ?_) | refine ct_cond_n rfl (fun h195 => ?_) (fun h195 => ?_) | refine ct_cond_b rfl (fun h195 => ?_) (fun h195 => ?_) | refine ct_cond rfl (fun h195 => ?_) (fun h195 => ?_)
                      · rw [hr_vend_past h189 h195] at hz4
                        subst hz4
                        refine Cr ?_
                        refine Rq rfl (oq_loadAgg (us := [_, _, _]) rfl rfl Tryz.isAgg25 Tryz.sizeOf25 (by repeat (first | exact Z0 | apply Sel.there)) (by rfl) (by rfl) (by rfl)) ?_
                        refine Rp rfl (pv_move rfl) ?_
                        refine Rq rfl (oq_call rfl Tryz.call65 (vs := [_, _]) rfl (rlost_pure _ _ _ _)) ?_
                        refine Rp rfl (pv_extract rfl rfl) ?_
                        refine Rp rfl (pv_extract rfl rfl) ?_
                        refine Rp rfl (pv_extract rfl rfl) ?_
                        refine Rp rfl (pv_extract rfl rfl) ?_
                        refine rl_op0 rfl rfl (ot_store rfl rfl rfl Tryz.sizeOf74 (by repeat (first | exact Z0 | apply Sel.there)) (rfl : _ = [_, _]) rfl (by rfl) (by rfl) (by first | rfl | assumption) (by exact (rfl : _ = _ :: _ :: _))) ?_
                        rintro _ _ rfl
                        refine Rp rfl (pv_assign rfl) ?_
                        refine rl_op0 rfl rfl (ot_store rfl rfl rfl Tryz.sizeOf25 (by repeat (first | exact Z0 | apply Sel.there)) (rfl : _ = [_, _, _]) rfl (by rfl) (by rfl) (by first | rfl | assumption) (by exact (rfl : _ = _ :: _ :: _ :: _))) ?_
                        rintro _ _ rfl
                        refine Rp rfl (pv_assign rfl) ?_
                        refine Kn4 6 7 8 9 rfl ?_
                        refine ct_ret ?_
                        refine xt_ret_then ?_
                        exact fin_ret (RVs.agg (us := [_, _]) rfl Tryz.isAgg74 Tryz.sizeOf74 (by repeat (first | exact Z0 | apply Sel.there)) (by rfl) (by rfl) (by rfl) (RVs.tmp rfl (RVs.agg (us := [_, _, _]) rfl Tryz.isAgg25 Tryz.sizeOf25 (by repeat (first | exact Z0 | apply Sel.there)) (by rfl) (by rfl) (by rfl) (RVs.tmp rfl (RVs.nil))))) Tryz.results32 (⟨none, 0, _, _, _, rfl, fun _ => ⟨rfl, rfl, rfl⟩, rfl⟩) (Sees.nilOwn (by repeat (first | exact Sees.refl | (apply Sees.cons; (focus ((repeat (first | exact Z0 | apply Sel.there)); done))) | apply Sees.skip)))
                      · rw [hr_vend_ok h189 h195] at hz4
                        subst hz4
                        refine ct_skip ?_
                        refine Kx7 5 6 8 14 17 18 20 rfl ?_
                        refine Cr ?_
                        refine Rp rfl (pv_move rfl) ?_
                        refine Rp rfl (pv_convert rfl Tryz.runUnderlying28 Tryz.runUnderlying2) ?_
                        refine Rp rfl (pv_move rfl) ?_
                        refine Rp rfl (pv_move rfl) ?_
                        refine Rp rfl (pv_bin rfl rfl rfl) ?_
                        refine Rp rfl (pv_convert rfl Tryz.runUnderlying28 Tryz.runUnderlying2) ?_
                        refine Rp rfl (pv_fieldAddr (k := 0) rfl Tryz.runUnderlying25 rfl Tryz.sizeOf2 rfl rfl) ?_
                        refine rl_op0 rfl rfl (ot_store rfl rfl rfl Tryz.sizeOf2 (by repeat (first | exact Z0 | apply Sel.there)) (rfl : _ = [_]) rfl (by rfl) (by rfl) (by first | rfl | assumption) (by exact (rfl : _ = _ :: _))) ?_
                        rintro _ _ rfl
                        refine Rp rfl (pv_fieldAddr (k := 1) rfl Tryz.runUnderlying25 rfl Tryz.sizeOf2 rfl rfl) ?_
                        refine rl_op0 rfl rfl (ot_store rfl rfl rfl Tryz.sizeOf2 (by repeat (first | exact Z0 | apply Sel.there)) (rfl : _ = [_]) rfl (by rfl) (by rfl) (by first | rfl | assumption) (by exact (rfl : _ = _ :: _ :: _))) ?_
                        rintro _ _ rfl
                        refine Kn5 5 6 8 17 20 rfl ?_
                        refine ct_seq ?_
                        refine ct_plan1 [.q 0, .q 1, .q 2, .q 3, .e 4, .q 5, .b 6, .q 7] (row b6 0 _) (by repeat (first | exact Sees.refl | (apply Sees.cons; (focus ((repeat (first | exact Z0 | apply Sel.there)); done))) | apply Sees.skip)) mixed (by decide +kernel) ?_
                        refine pw_q rfl rfl rfl rfl (oq_pv (pv_move rfl)) ?_
                        refine pw_q rfl rfl rfl rfl (oq_pv (pv_move rfl)) ?_
                        refine pw_q rfl rfl rfl rfl (oq_pv (pv_build (ps := [(0, _), (1, _)]) (cs := [_, _]) rfl Tryz.zeroValue74 Tryz.runUnderlying74 (.cons Tryz.sizeOf21 (.cons Tryz.sizeOf29 (.nil))) rfl)) ?_
                        refine pw_q rfl rfl rfl rfl (oq_loadAgg (us := [_, _, _]) rfl rfl Tryz.isAgg25 Tryz.sizeOf25 (by repeat (first | exact Z0 | apply Sel.there)) (by rfl) (by rfl) (by rfl)) ?_
                        refine pw_e0 rfl rfl rfl (ot_store rfl rfl rfl Tryz.sizeOf74 (by repeat (first | exact Z0 | apply Sel.there)) (rfl : _ = [_, _]) rfl (by rfl) (by rfl) (by first | rfl | assumption) (by exact (rfl : _ = _ :: _ :: _))) ?_
                        rintro _ _ rfl
                        refine ⟨[_], .refl, ?_⟩
                        refine pw_q rfl rfl rfl rfl (oq_pv (pv_assign rfl)) ?_
                        refine pw_b0 rfl rfl rfl (ot_store rfl rfl rfl Tryz.sizeOf25 (by repeat (first | exact Z0 | apply Sel.there)) (rfl : _ = [_, _, _]) rfl (by rfl) (by rfl) (by first | rfl | assumption) (by exact (rfl : _ = _ :: _ :: _ :: _))) ?_
                        rintro _ _ rfl
                        refine pw_q rfl rfl rfl rfl (oq_pv (pv_assign rfl)) ?_
                        refine pw_done ?_
                        refine Kx4 6 7 8 9 rfl ?_
                        refine ct_ret ?_
                        exact fin_ret (RVs.agg (us := [_, _]) rfl Tryz.isAgg74 Tryz.sizeOf74 (by repeat (first | exact Z0 | apply Sel.there)) (by rfl) (by rfl) (by rfl) (RVs.tmp rfl (RVs.agg (us := [_, _, _]) rfl Tryz.isAgg25 Tryz.sizeOf25 (by repeat (first | exact Z0 | apply Sel.there)) (by rfl) (by rfl) (by rfl) (RVs.tmp rfl (RVs.nil))))) Tryz.results32 (⟨p178, c178, _, _, _, rfl, fun _ => ⟨rfl, wrap_sum _ _, rfl⟩, rfl⟩) (by repeat (first | exact Sees.refl | (apply Sees.cons; (focus ((repeat (first | exact Z0 | apply Sel.there)); done))) | apply Sees.skip))
                  · obtain ⟨ph, hph, e4⟩ := hr_outstop (cur := cur) (nxt := nxt) (lap := q.lap) (pads := q.pads) q.len q.typ q.sz h181
                    rw [e4] at hz4
                    subst hz4
                    refine ct_skip ?_
                    refine Kx10 4 5 6 8 10 13 14 17 18 20 rfl ?_
                    refine ct_seq ?_
                    refine Cr ?_
                    refine Rp rfl (pv_move rfl) ?_
                    refine Rp rfl (pv_not rfl) ?_
                    refine Kn10 4 5 6 8 10 14 17 18 20 189 rfl ?_
                    first | refine ct_cond_d rfl (fun h189 => ?_) (fun h189 => ?_) | refine ct_cond_n rfl (fun h189 => ?_) (fun h189 => ?_) | refine ct_cond_b rfl (fun h189 => ?_) (fun h189 => ?_) | refine ct_cond rfl (fun h189 => ?_) (fun h189 => ?_)
                    · first | (rw [hrun_stop rfl h189] at hz4; subst hz4) | skip
                      refine ct_seq ?_
                      refine ct_plan1 [.q 0, .q 1, .e 2, .q 3, .b 4, .q 5] (row b6 0 _) (by repeat (first | exact Sees.refl | (apply Sees.cons; (focus ((repeat (first | exact Z0 | apply Sel.there)); done))) | apply Sees.skip)) mixed (by decide +kernel) ?_
                      refine pw_q rfl rfl rfl rfl (oq_loadAgg (us := [_, _]) rfl rfl Tryz.isAgg74 Tryz.sizeOf74 (by repeat (first | exact Z0 | apply Sel.there)) (by rfl) (by rfl) (by rfl)) ?_
                      refine pw_q rfl rfl rfl rfl (oq_loadAgg (us := [_, _, _]) rfl rfl Tryz.isAgg25 Tryz.sizeOf25 (by repeat (first | exact Z0 | apply Sel.there)) (by rfl) (by rfl) (by rfl)) ?_
                      refine pw_e0 rfl rfl rfl (ot_store rfl rfl rfl Tryz.sizeOf74 (by repeat (first | exact Z0 | apply Sel.there)) (rfl : _ = [_, _]) rfl (by rfl) (by rfl) (by first | rfl | assumption) (by exact (rfl : _ = _ :: _ :: _))) ?_
                      rintro _ _ rfl
                      refine ⟨[_], .refl, ?_⟩
                      refine pw_q rfl rfl rfl rfl (oq_pv (pv_assign rfl)) ?_
                      refine pw_b0 rfl rfl rfl (ot_store rfl rfl rfl Tryz.sizeOf25 (by repeat (first | exact Z0 | apply Sel.there)) (rfl : _ = [_, _, _]) rfl (by rfl) (by rfl) (by first | rfl | assumption) (by exact (rfl : _ = _ :: _ :: _ :: _))) ?_
                      rintro _ _ rfl
                      refine pw_q rfl rfl rfl rfl (oq_pv (pv_assign rfl)) ?_
                      refine pw_done ?_
                      refine Kx4 6 7 8 9 rfl ?_
                      refine ct_ret ?_
                      refine xt_ret_then ?_
                      exact fin_ret (RVs.agg (us := [_, _]) rfl Tryz.isAgg74 Tryz.sizeOf74 (by repeat (first | exact Z0 | apply Sel.there)) (by rfl) (by rfl) (by rfl) (RVs.tmp rfl (RVs.agg (us := [_, _, _]) rfl Tryz.isAgg25 Tryz.sizeOf25 (by repeat (first | exact Z0 | apply Sel.there)) (by rfl) (by rfl) (by rfl) (RVs.tmp rfl (RVs.nil))))) Tryz.results32 (⟨none, 0, _, _, _, rfl, fun h => (by first | exact absurd h Bool.false_ne_true | (have h2 : HPh.ends ph = true := h; rw [hph] at h2; cases h2)), rfl⟩) (Sees.nilOwn (by repeat (first | exact Sees.refl | (apply Sees.cons; (focus ((repeat (first | exact Z0 | apply Sel.there)); done))) | apply Sees.skip)))
                    · exfalso; first | omega | (simp_all; done) | (simp_all; omega)
end Go.Proofs.YtnjljfjncfbinaaGreat
