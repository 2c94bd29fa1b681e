/- Contracts: relay. -/
import Derived.Test.YtnjljfjncfbinaaGreatSq
import Derived.Test.YtnjljfjncfbinaaGreatFf
set_option linter.all false
namespace Go.Proofs.YtnjljfjncfbinaaGreat
open Go Go.Proofs
set_option maxRecDepth 100000
set_option linter.unusedVariables false

structure HeardV where
  at_ : Int
  typ : Int
  data : List UInt8
abbrev HL := List (HeardV × Option Addr × Nat)
def hcells (l : HL) : List Value := l.flatMap fun x => [.int .i64 x.1.at_, .int .i32 x.1.typ, .slice x.2.1 x.1.data.length x.2.2]
def hinner (l : HL) : List HP := l.map fun x => own 1 x.2.1 x.1.data.length x.2.2 (byteC x.1.data)
def heards (l : HL) : List HeardV := l.map (·.1)
/-- What a relay has. -/
structure RM where
  base : Int
  size : Int
  cur : Int
  nxt : Int
  lap : Int
  left : Int
  now : Option (HS × HPh)
  heard : List HeardV
  losses : Int
structure RX where
  p : Option Addr := none
  c : Nat := 0
  hb : Nat := 0
  l : HL := []
def RM.note (r : RM) (s : HS) : RM :=
  { r with cur := s.cur, nxt := s.nxt, lap := s.lap, now := none, heard := if s.heard = true then r.heard ++ [⟨s.cur, s.mt, s.data⟩] else r.heard, losses := if s.e = 9 then IntKind.i64.wrap (r.losses + 1) else r.losses }
def RM.idle (r : RM) : RM := match r.now with
  | some (s, _) => r.note s
  | none => r
def RM.begin (r : RM) : RM := { r with left := r.left - 1, now := some (hnew r.base r.size r.cur r.nxt r.lap) }
def settle : Nat → RM → RM
  | 0, r => r
  | n + 1, r => if nowMore r.now = true then r else if r.idle.left < 1 then r.idle else settle n r.idle.begin
def nowN : Option (HS × HPh) → Nat
  | none => 0
  | some _ => 1
structure ROk (r : RM) (B : Nat) : Prop where
  hb : inK .i64 r.base
  hs : inK .i64 r.size
  hl : r.left ≤ 64
  hh : r.heard.length + r.left.toNat + nowN r.now ≤ 64
  hd : ∀ h, h ∈ r.heard → h.data.length ≤ B
  hn : ∀ s ph, r.now = some (s, ph) → POk s ph ∧ (ph.ends = false → s.data = []) ∧ ph.room s ≤ B
  hB : B ≤ 1099511627776
theorem now_fin {now : Option (HS × HPh)} {hb : Nat} (h : nowMore now = false) (h2 : (nowA hb now).isNone = false) : ∃ s, now = some (s, .fin) := by
  rcases now with _ | ⟨s, ph⟩
  · cases h2
  · cases ph <;> first | exact ⟨s, rfl⟩ | cases h
theorem now_none {now : Option (HS × HPh)} {hb : Nat} (h2 : (nowA hb now).isNone = true) : now = none := by
  rcases now with _ | ⟨s, ph⟩
  · rfl
  · cases h2
theorem now_some {now : Option (HS × HPh)} {hb : Nat} (h2 : (nowA hb now).isNone = false) : ∃ s ph, now = some (s, ph) := by
  rcases now with _ | ⟨s, ph⟩
  · cases h2
  · exact ⟨s, ph, rfl⟩
theorem ROk.note {r : RM} {B : Nat} {s : HS} (h : ROk r B) (hn : r.now = some (s, .fin)) : ROk (r.note s) B := by
  have hh := h.hh
  have h2 := h.hn _ _ hn
  rw [hn] at hh
  refine ⟨h.hb, h.hs, h.hl, ?_, ?_, fun s' ph' e => by simp [RM.note] at e, h.hB⟩
  · simp only [RM.note, nowN] at hh ⊢
    split <;> simp <;> omega
  · intro x hx
    simp only [RM.note] at hx
    split at hx
    · rcases List.mem_append.1 hx with hx | hx
      · exact h.hd x hx
      · rw [List.mem_singleton.1 hx]; exact h2.2.2
    · exact h.hd x hx
theorem ROk.begin {r : RM} {B : Nat} (h : ROk r B) (hn : r.now = none) (hl : ¬ r.left < 1) : ROk r.begin B := by
  have hh := h.hh
  have h3 := h.hl
  rw [hn] at hh
  refine ⟨h.hb, h.hs, ?_, ?_, h.hd, ?_, h.hB⟩
  · simp only [RM.begin]; omega
  · simp only [RM.begin, nowN] at hh ⊢; omega
  · intro s ph e
    simp only [RM.begin, Option.some.injEq] at e
    have := hnew_ok r.base r.size r.cur r.nxt r.lap
    rw [e] at this
    refine ⟨this, fun _ => ?_, ?_⟩
    · have : (hnew r.base r.size r.cur r.nxt r.lap).1.data = [] := by unfold hnew; split <;> rfl
      rw [e] at this; exact this
    · have : (hnew r.base r.size r.cur r.nxt r.lap).2.room (hnew r.base r.size r.cur r.nxt r.lap).1 = 0 := by unfold hnew; split <;> rfl
      rw [e] at this; show ph.room s ≤ B; simp only at this; omega
theorem ROk.idle {r : RM} {B : Nat} (h : ROk r B) (hm : nowMore r.now = false) : ROk r.idle B ∧ r.idle.now = none ∧ r.idle.left = r.left := by
  unfold RM.idle
  rcases e : r.now with _ | ⟨s, ph⟩
  · exact ⟨h, e, rfl⟩
  · have hf : ph = .fin := by rw [e] at hm; cases ph <;> first | rfl | cases hm
    subst hf
    exact ⟨h.note e, rfl, rfl⟩
theorem settle_ok {B : Nat} : ∀ (n : Nat) (r : RM), r.left.toNat < n → ROk r B → ROk (settle n r) B ∧ ((settle n r).now = none ∨ nowMore (settle n r).now = true) := by
  intro n
  induction n with
  | zero => intro r h; omega
  | succ n ih =>
    intro r hn h
    simp only [settle]
    split
    · rename_i hm; exact ⟨h, .inr hm⟩
    · rename_i hm
      have hm : nowMore r.now = false := by simpa using hm
      obtain ⟨h1, h2, h3⟩ := h.idle hm
      split
      · exact ⟨h1, .inl h2⟩
      · rename_i hl
        refine ih _ ?_ (h1.begin h2 hl)
        show (r.idle.left - 1).toNat < n
        omega
theorem hstep_room {s : HS} {ph : HPh} {a : Ans} (hd : ph.ends = false → s.data = []) (hp : ph.ends = false) : ((hstep s ph a).2.ends = false → (hstep s ph a).1.data = []) ∧ (hstep s ph a).2.room (hstep s ph a).1 ≤ ph.room s + a.data.length := by
  have hd := hd hp
  cases ph <;> simp only [hstep, tailStep, recStep] <;> (repeat' split) <;> simp_all [HPh.room, HPh.ends, HS.lose, HS.skip, HS.hears]
def rtake (r : RM) (a : Ans) : RM := match r.now with
  | none => r
  | some (s, ph) => settle (r.left.toNat + 1) { r with now := some (hstep s ph a) }
theorem ROk.told {r : RM} {B : Nat} {s : HS} {ph : HPh} (h : ROk r B) (hn : r.now = some (s, ph)) (hp : ph.ends = false) {a : Ans} (ha : inK .u64 a.v) (hB : B + a.data.length ≤ 1099511627776) : ROk { r with now := some (hstep s ph a) } (B + a.data.length) := by
  obtain ⟨h1, h2, h3⟩ := h.hn _ _ hn
  have hr := hstep_room (a := a) h2 hp
  have hh := h.hh
  rw [hn] at hh
  refine ⟨h.hb, h.hs, h.hl, hh, fun x hx => Nat.le_trans (h.hd x hx) (Nat.le_add_right _ _), ?_, hB⟩
  intro s' ph' e
  simp only [Option.some.injEq] at e
  have ho := hstep_ok h1 (a := a) ha
  rw [e] at hr ho
  exact ⟨ho, hr.1, by have := hr.2; simp only at this; omega⟩
theorem Sees.fact {p : Prop} {H M : List HP} (hp : p) (s : Sees H M) : Sees H (fact p :: M) :=
  .of fun m h => ⟨fun _ _ => none, m, ⟨fun _ _ => .inl rfl⟩, ⟨fun _ _ _ h => (by cases h)⟩, Hl.le_refl _, hp, s.out _ h⟩
theorem hcells_append (a b : HL) : hcells (a ++ b) = hcells a ++ hcells b := by simp [hcells]
theorem hinner_append (a b : HL) : hinner (a ++ b) = hinner a ++ hinner b := by simp [hinner]
theorem hcells_length (l : HL) : (hcells l).length = l.length * 3 := by induction l with | nil => rfl | cons x l ih => simp [hcells] at *; try omega
theorem plain_hcells (l : HL) : plainCells (hcells l) = true := by induction l with | nil => rfl | cons x l ih => simp [hcells, plainCells] at *; try exact ih
theorem Sees.packSnoc {A : List HP} {c : HP} {M : List HP} : Sees (pack A :: c :: M) (pack (A ++ [c]) :: M) := .of fun m h => by
  rw [stars_pack] at h ⊢; simpa using h
def relayPieces (b : Nat) (r : RM) (x : RX) : List HP := [row b 0 [.int .i64 r.base, .int .i64 r.size, .int .i64 r.cur, .int .i64 r.nxt, .int .i64 r.lap, .int .i64 r.left, .pointer (nowA x.hb r.now), .slice x.p r.heard.length x.c, .int .i64 r.losses], nowRep x.hb r.now, own 3 x.p r.heard.length x.c (hcells x.l), pack (hinner x.l), fact (heards x.l = r.heard)]
def relayRep (b : Nat) (r : RM) : HP := ex (relayPieces b r)
theorem hresult_spec (ω : World) (b : Nat) (s : HS) (hbd : s.data.length ≤ 140737488355328) (F : List HP) : Spec ω Tryz.prog 98 #[.pointer (some ⟨b, 0, none⟩)] (hearRep b s .fin :: F) fun v' H' =>
    ∃ p' c', v' = .tuple #[.agg #[.int .i32 s.mt, .slice p' s.data.length c'], .bool s.heard, .int .i64 s.e] ∧ H' = own 1 p' s.data.length c' (byteC s.data) :: hearRep b s .fin :: F := by
  refine Spec.ex fun x => ?_
  intro w hw
  refine (Spec.sees (by repeat (first | exact Sees.refl | (apply Sees.cons; (focus ((repeat (first | exact Z0 | apply Sel.there)); done))) | apply Sees.skip)) (hresult_raw ω b s x.p x.c hbd F) w hw).mono ?_
  rintro _ w' ⟨v, rfl, H', ⟨p', c', rfl, rfl⟩, hw'⟩
  exact ⟨_, rfl, _, ⟨p', c', rfl, rfl⟩, hw'.sees (Sees.cons (by repeat (first | exact Z0 | apply Sel.there)) (Sees.ex x (by repeat (first | exact Sees.refl | (apply Sees.cons; (focus ((repeat (first | exact Z0 | apply Sel.there)); done))) | apply Sees.skip))))⟩
theorem hstate_spec (ω : World) (b : Nat) (s : HS) (F : List HP) : Spec ω Tryz.prog 99 #[.pointer (some ⟨b, 0, none⟩)] (hearRep b s .fin :: F) fun v' H' =>
    v' = .agg #[.int .i64 s.cur, .int .i64 s.nxt, .int .i64 s.lap] ∧ H' = hearRep b s .fin :: F := by
  refine Spec.fold (Spec.ex fun x => ?_)
  refine (Spec.sees (by repeat (first | exact Sees.refl | (apply Sees.cons; (focus ((repeat (first | exact Z0 | apply Sel.there)); done))) | apply Sees.skip)) (hstate_raw ω b s x.p x.c (own 1 x.p s.data.length x.c (byteC s.data) :: F))).mono ?_
  rintro _ _ ⟨rfl, rfl⟩
  exact ⟨rfl, Sees.ex x (by repeat (first | exact Sees.refl | (apply Sees.cons; (focus ((repeat (first | exact Z0 | apply Sel.there)); done))) | apply Sees.skip))⟩
theorem note_raw (ω : World) (b hb : Nat) (base size cur nxt lap left losses : Int) (s : HS) (hbd : s.data.length ≤ 140737488355328) (p : Option Addr) (n c : Nat) (xs : List Value) (hn : n ≤ 64) (F : List HP)  : Spec ω Tryz.prog 58 #[.pointer (some ⟨b, 0, none⟩)] (row b 0 [.int .i64 base, .int .i64 size, .int .i64 cur, .int .i64 nxt, .int .i64 lap, .int .i64 left, .pointer (some ⟨hb, 0, none⟩), .slice p n c, .int .i64 losses] :: hearRep hb s .fin :: own 3 p n c xs :: F) fun v' H' => ∃ p1 c1 p' c' l', v' = .tuple #[] ∧ l' = (if s.e = 9 then IntKind.i64.wrap (losses + 1) else losses) ∧ ((s.heard = true ∧ H' = row b 0 [.int .i64 base, .int .i64 size, .int .i64 s.cur, .int .i64 s.nxt, .int .i64 s.lap, .int .i64 left, .pointer (some ⟨hb, 0, none⟩), .slice p' (n + 1) c', .int .i64 l'] :: own 3 p' (n + 1) c' (xs ++ [.int .i64 s.cur, .int .i32 s.mt, .slice p1 s.data.length c1]) :: own 1 p1 s.data.length c1 (byteC s.data) :: F) ∨ (s.heard = false ∧ H' = row b 0 [.int .i64 base, .int .i64 size, .int .i64 s.cur, .int .i64 s.nxt, .int .i64 s.lap, .int .i64 left, .pointer (some ⟨hb, 0, none⟩), .slice p n c, .int .i64 l'] :: own 3 p n c xs :: F)) := by
  refine spec_of_body Tryz.func58 rfl Tryz.ntmps58 rfl ?_
  refine Cr ?_
  refine Rp rfl (pv_move rfl) ?_
  refine Rp rfl (pv_nilCheck rfl) ?_
  refine Rp rfl (pv_fieldAddr (k := 6) rfl Tryz.runUnderlying98 rfl Tryz.sizeOf96 rfl rfl) ?_
  refine Rq rfl (oq_load rfl rfl Tryz.isAgg96 (by repeat (first | exact Z0 | apply Sel.there)) (by rfl) (by rfl)) ?_
  refine Ro rfl (ot_call rfl Tryz.call98 (vs := [_]) rfl (by repeat (first | exact Sees.refl | (apply Sees.cons; (focus ((repeat (first | exact Z0 | apply Sel.there)); done))) | apply Sees.skip)) (hresult_spec _ _ _ hbd _)) ?_
  rintro _ _ ⟨p1, c1, rfl, rfl⟩
  refine Rp rfl (pv_move rfl) ?_
  refine Rp rfl (pv_extract rfl rfl) ?_
  refine Rp rfl (pv_extract rfl rfl) ?_
  refine Rp rfl (pv_extract rfl rfl) ?_
  refine Ro rfl (ot_alloc rfl Tryz.zeroValue74 (rfl : _ = [_, _])) ?_
  rintro _ _ ⟨b2, rfl, rfl⟩
  refine rl_op0 rfl rfl (ot_store rfl rfl rfl Tryz.sizeOf74 (by repeat (first | exact Z0 | apply Sel.there)) (rfl : _ = [_, _]) rfl (by rfl) (by rfl) (by first | rfl | assumption) (by exact (rfl : _ = _ :: _ :: _))) ?_
  rintro _ _ rfl
  refine Rp rfl (pv_assign rfl) ?_
  refine Rp rfl (pv_assign rfl) ?_
  refine Kn4 0 2 3 4 rfl ?_
  refine Cr ?_
  refine Rp rfl (pv_move rfl) ?_
  refine Rp rfl (pv_move rfl) ?_
  refine Rp rfl (pv_nilCheck rfl) ?_
  refine Rp rfl (pv_fieldAddr (k := 6) rfl Tryz.runUnderlying98 rfl Tryz.sizeOf96 rfl rfl) ?_
  refine Rq rfl (oq_load rfl rfl Tryz.isAgg96 (by repeat (first | exact Z0 | apply Sel.there)) (by rfl) (by rfl)) ?_
  refine Ro rfl (ot_call rfl Tryz.call99 (vs := [_]) rfl (by repeat (first | exact Sees.refl | (apply Sees.cons; (focus ((repeat (first | exact Z0 | apply Sel.there)); done))) | apply Sees.skip)) (hstate_spec _ _ _ _)) ?_
  rintro _ _ ⟨rfl, rfl⟩
  refine Rp rfl (pv_nilCheck rfl) ?_
  refine Rp rfl (pv_fieldAddr (k := 2) rfl Tryz.runUnderlying98 rfl Tryz.sizeOf25 rfl rfl) ?_
  refine rl_op0 rfl rfl (ot_store rfl rfl rfl Tryz.sizeOf25 (by repeat (first | exact Z0 | apply Sel.there)) (rfl : _ = [_, _, _]) rfl (by rfl) (by rfl) (by first | rfl | assumption) (by exact (rfl : _ = _ :: _ :: _ :: _ :: _ :: _))) ?_
  rintro _ _ rfl
  refine Kn4 0 2 3 4 rfl ?_
  refine ct_seq ?_
  refine Cr ?_
  refine Rp rfl (pv_move rfl) ?_
  refine Kn4 0 2 4 22 rfl ?_
  first | refine ct_cond_d rfl (fun h22 => ?_) (fun h22 => ?_) | refine ct_cond_n rfl (fun h22 => ?_) (fun h22 => ?_) | refine ct_cond_b rfl (fun h22 => ?_) (fun h22 => ?_) | refine ct_cond rfl (fun h22 => ?_) (fun h22 => ?_)
  · skip
    refine ct_plan1 [.q 0, .q 1, .q 2, .q 3, .q 4, .q 5, .q 6, .q 7, .q 8, .q 9, .q 10, .q 11, .e 12, .e 13, .q 14, .q 15, .b 16] (own 3 p _ _ _) (by repeat (first | exact Sees.refl | (apply Sees.cons; (focus ((repeat (first | exact Z0 | apply Sel.there)); done))) | apply Sees.skip)) mixed (by decide +kernel) ?_
    refine pw_q rfl rfl rfl rfl (oq_pv (pv_move rfl)) ?_
    refine pw_q rfl rfl rfl rfl (oq_pv (pv_move rfl)) ?_
    refine pw_q rfl rfl rfl rfl (oq_pv (pv_nilCheck rfl)) ?_
    refine pw_q rfl rfl rfl rfl (oq_pv (pv_fieldAddr (k := 7) rfl Tryz.runUnderlying98 rfl Tryz.sizeOf39 rfl rfl)) ?_
    refine pw_q rfl rfl rfl rfl (oq_load rfl rfl Tryz.isAgg39 (by repeat (first | exact Z0 | apply Sel.there)) (by rfl) (by rfl)) ?_
    refine pw_q rfl rfl rfl rfl (oq_pv (pv_move rfl)) ?_
    refine pw_q rfl rfl rfl rfl (oq_pv (pv_nilCheck rfl)) ?_
    refine pw_q rfl rfl rfl rfl (oq_pv (pv_fieldAddr (k := 2) rfl Tryz.runUnderlying98 rfl Tryz.sizeOf25 rfl rfl)) ?_
    refine pw_q rfl rfl rfl rfl (oq_pv (pv_fieldAddr (k := 2) rfl Tryz.runUnderlying25 rfl Tryz.sizeOf2 rfl rfl)) ?_
    refine pw_q rfl rfl rfl rfl (oq_load rfl rfl Tryz.isAgg2 (by repeat (first | exact Z0 | apply Sel.there)) (by rfl) (by rfl)) ?_
    refine pw_q rfl rfl rfl rfl (oq_loadAgg (us := [_, _]) rfl rfl Tryz.isAgg74 Tryz.sizeOf74 (by repeat (first | exact Z0 | apply Sel.there)) (by rfl) (by rfl) (by rfl)) ?_
    refine pw_q rfl rfl rfl rfl (oq_pv (pv_build (ps := [(0, _), (1, _)]) (cs := [_, _, _]) rfl Tryz.zeroValue76 Tryz.runUnderlying76 (.cons Tryz.sizeOf2 (.cons Tryz.sizeOf74 (.nil))) rfl)) ?_
    refine pw_e rfl rfl rfl rfl (ot_buildSlice (ps := [(0, _)]) (cs := #[_, _, _]) rfl rfl Tryz.runUnderlying39 Tryz.sizeOf76 Tryz.zeroValue76 rfl rfl rfl rfl) ?_
    rintro _ _ ⟨b35, rfl, rfl⟩
    refine ⟨[own 3 (some ⟨b35, 0, none⟩) _ _ _, own 3 _ _ _ _], by repeat (first | exact Sees.refl | (apply Sees.cons; (focus ((repeat (first | exact Z0 | apply Sel.there)); done))) | apply Sees.skip), ?_⟩
    refine pw_e rfl rfl rfl rfl (ot_append (by_ := 40) rfl rfl rfl Tryz.runUnderlying39 Tryz.runUnderlying39 Tryz.sizeOf76 Tryz.typeInfo76 rfl Tryz.zeroValue76 rfl (by decide) (by repeat (first | exact Z0 | apply Sel.there)) (by repeat (first | exact Z0 | apply Sel.there)) rd_own (by rfl) (by omega)) ?_
    rintro _ _ ⟨p36, c36, rfl, rfl⟩
    refine ⟨[own 3 p36 _ _ _], by repeat (first | exact Sees.refl | (apply Sees.cons; (focus ((repeat (first | exact Z0 | apply Sel.there)); done))) | apply Sees.skip), ?_⟩
    refine pw_q rfl rfl rfl rfl (oq_pv (pv_nilCheck rfl)) ?_
    refine pw_q rfl rfl rfl rfl (oq_pv (pv_fieldAddr (k := 7) rfl Tryz.runUnderlying98 rfl Tryz.sizeOf39 rfl rfl)) ?_
    refine pw_b0 rfl rfl rfl (ot_store rfl rfl rfl Tryz.sizeOf39 (by repeat (first | exact Z0 | apply Sel.there)) (rfl : _ = [_]) rfl (by rfl) (by rfl) (by first | rfl | assumption) (by exact (rfl : _ = _ :: _ :: _ :: _ :: _ :: _ :: _ :: _ :: _))) ?_
    rintro _ _ rfl
    refine pw_done ?_
    refine Kx2 0 4 rfl ?_
    refine Cr ?_
    refine Rp rfl (pv_move rfl) ?_
    refine Rp rfl (pv_bin rfl rfl rfl) ?_
    refine Kn2 0 40 rfl ?_
    first | refine ct_cond_d rfl (fun h40 => ?_) (fun h40 => ?_) | refine ct_cond_n rfl (fun h40 => ?_) (fun h40 => ?_) | refine ct_cond_b rfl (fun h40 => ?_) (fun h40 => ?_) | refine ct_cond rfl (fun h40 => ?_) (fun h40 => ?_)
    · skip
      refine ct_region ?_
      refine Rp rfl (pv_move rfl) ?_
      refine Rp rfl (pv_nilCheck rfl) ?_
      refine Rp rfl (pv_fieldAddr (k := 8) rfl Tryz.runUnderlying98 rfl Tryz.sizeOf3 rfl rfl) ?_
      refine Rq rfl (oq_load rfl rfl Tryz.isAgg3 (by repeat (first | exact Z0 | apply Sel.there)) (by rfl) (by rfl)) ?_
      refine Rp rfl (pv_bin rfl rfl rfl) ?_
      refine Rp rfl (pv_nilCheck rfl) ?_
      refine Rp rfl (pv_fieldAddr (k := 8) rfl Tryz.runUnderlying98 rfl Tryz.sizeOf3 rfl rfl) ?_
      refine rl_op0 rfl rfl (ot_store rfl rfl rfl Tryz.sizeOf3 (by repeat (first | exact Z0 | apply Sel.there)) (rfl : _ = [_]) rfl (by rfl) (by rfl) (by first | rfl | assumption) (by exact (rfl : _ = _ :: _ :: _ :: _ :: _ :: _ :: _ :: _ :: _ :: _))) ?_
      rintro _ _ rfl
      refine rl_nil ?_
      exact fin_end (RVs.nil) Tryz.results58 (⟨p1, c1, _, _, _, rfl, (if_pos h40).symm, .inl ⟨h22, rfl⟩⟩) (by repeat (first | exact Sees.refl | (apply Sees.cons; (focus ((repeat (first | exact Z0 | apply Sel.there)); done))) | apply Sees.skip))
    · skip
      refine ct_skip ?_
      exact fin_end (RVs.nil) Tryz.results58 (⟨p1, c1, _, _, _, rfl, (if_neg h40).symm, .inl ⟨h22, rfl⟩⟩) (by repeat (first | exact Sees.refl | (apply Sees.cons; (focus ((repeat (first | exact Z0 | apply Sel.there)); done))) | apply Sees.skip))
  · skip
    refine ct_skip ?_
    refine Kx2 0 4 rfl ?_
    refine Cr ?_
    refine Rp rfl (pv_move rfl) ?_
    refine Rp rfl (pv_bin rfl rfl rfl) ?_
    refine Kn2 0 40 rfl ?_
    first | refine ct_cond_d rfl (fun h40 => ?_) (fun h40 => ?_) | refine ct_cond_n rfl (fun h40 => ?_) (fun h40 => ?_) | refine ct_cond_b rfl (fun h40 => ?_) (fun h40 => ?_) | refine ct_cond rfl (fun h40 => ?_) (fun h40 => ?_)
    · skip
      refine ct_region ?_
      refine Rp rfl (pv_move rfl) ?_
      refine Rp rfl (pv_nilCheck rfl) ?_
      refine Rp rfl (pv_fieldAddr (k := 8) rfl Tryz.runUnderlying98 rfl Tryz.sizeOf3 rfl rfl) ?_
      refine Rq rfl (oq_load rfl rfl Tryz.isAgg3 (by repeat (first | exact Z0 | apply Sel.there)) (by rfl) (by rfl)) ?_
      refine Rp rfl (pv_bin rfl rfl rfl) ?_
      refine Rp rfl (pv_nilCheck rfl) ?_
      refine Rp rfl (pv_fieldAddr (k := 8) rfl Tryz.runUnderlying98 rfl Tryz.sizeOf3 rfl rfl) ?_
      refine rl_op0 rfl rfl (ot_store rfl rfl rfl Tryz.sizeOf3 (by repeat (first | exact Z0 | apply Sel.there)) (rfl : _ = [_]) rfl (by rfl) (by rfl) (by first | rfl | assumption) (by exact (rfl : _ = _ :: _ :: _ :: _ :: _ :: _ :: _ :: _ :: _ :: _))) ?_
      rintro _ _ rfl
      refine rl_nil ?_
      exact fin_end (RVs.nil) Tryz.results58 (⟨p1, c1, p, c, _, rfl, (if_pos h40).symm, .inr ⟨h22, rfl⟩⟩) (by repeat (first | exact Sees.refl | (apply Sees.cons; (focus ((repeat (first | exact Z0 | apply Sel.there)); done))) | apply Sees.skip))
    · skip
      refine ct_skip ?_
      exact fin_end (RVs.nil) Tryz.results58 (⟨p1, c1, p, c, _, rfl, (if_neg h40).symm, .inr ⟨h22, rfl⟩⟩) (by repeat (first | exact Sees.refl | (apply Sees.cons; (focus ((repeat (first | exact Z0 | apply Sel.there)); done))) | apply Sees.skip))
theorem note_spec (ω : World) (b hb : Nat) (r : RM) (x : RX) (s : HS) (hbd : s.data.length ≤ 1099511627776) (hn : r.heard.length ≤ 64) (hl : heards x.l = r.heard) (F : List HP) : Spec ω Tryz.prog 58 #[.pointer (some ⟨b, 0, none⟩)]
    (row b 0 [.int .i64 r.base, .int .i64 r.size, .int .i64 r.cur, .int .i64 r.nxt, .int .i64 r.lap, .int .i64 r.left, .pointer (some ⟨hb, 0, none⟩), .slice x.p r.heard.length x.c, .int .i64 r.losses] :: hearRep hb s .fin :: own 3 x.p r.heard.length x.c (hcells x.l) :: pack (hinner x.l) :: F) fun v H' => v = .tuple #[] ∧ ∃ x1 : RX, heards x1.l = (r.note s).heard ∧
    H' = row b 0 [.int .i64 (r.note s).base, .int .i64 (r.note s).size, .int .i64 (r.note s).cur, .int .i64 (r.note s).nxt, .int .i64 (r.note s).lap, .int .i64 (r.note s).left, .pointer (some ⟨hb, 0, none⟩), .slice x1.p (r.note s).heard.length x1.c, .int .i64 (r.note s).losses] :: own 3 x1.p (r.note s).heard.length x1.c (hcells x1.l) :: pack (hinner x1.l) :: F := by
  intro w hw
  refine (Spec.sees (by repeat (first | exact Sees.refl | (apply Sees.cons; (focus ((repeat (first | exact Z0 | apply Sel.there)); done))) | apply Sees.skip)) (note_raw ω b hb r.base r.size r.cur r.nxt r.lap r.left r.losses s (by omega) x.p r.heard.length x.c (hcells x.l) hn (pack (hinner x.l) :: F)) w hw).mono ?_
  rintro _ w' ⟨v, rfl, H', ⟨p1, c1, p', c', l', rfl, rfl, h⟩, hw'⟩
  rcases h with ⟨h, rfl⟩ | ⟨h, rfl⟩
  · have e : (r.note s).heard = r.heard ++ [⟨s.cur, s.mt, s.data⟩] := if_pos h
    have el : (r.note s).heard.length = r.heard.length + 1 := by rw [e]; simp
    refine ⟨_, rfl, _, ⟨rfl, ⟨p', c', hb, x.l ++ [(⟨s.cur, s.mt, s.data⟩, p1, c1)]⟩, by rw [e, ← hl]; simp [heards], rfl⟩, ?_⟩
    rw [el]
    simp only [hcells_append, hinner_append]
    refine hw'.sees (Sees.cons (by repeat (first | exact Z0 | apply Sel.there)) (Sees.cons (by repeat (first | exact Z0 | apply Sel.there)) ?_))
    refine .of fun m h => ?_
    have h2 := h.swap
    rw [stars_pack] at h2 ⊢
    simpa [hinner] using h2
  · have e : (r.note s).heard = r.heard := if_neg (by simp [h])
    refine ⟨_, rfl, _, ⟨rfl, ⟨x.p, x.c, hb, x.l⟩, by rw [e]; exact hl, rfl⟩, ?_⟩
    rw [e]
    exact hw'.sees (by repeat (first | exact Sees.refl | (apply Sees.cons; (focus ((repeat (first | exact Z0 | apply Sel.there)); done))) | apply Sees.skip))
theorem settle_more {r goal : RM} {n : Nat} (h : settle n r = goal) (hm : nowMore r.now = true) : goal = r := by
  cases n with
  | zero => exact h.symm
  | succ n => rw [← h]; simp [settle, hm]
theorem settle_stop {r goal : RM} {n : Nat} (h : settle n r = goal) (hn : r.left.toNat < n) (hm : nowMore r.now = false) (hl : r.left < 1) (hi : r.idle.left = r.left) : goal = r.idle := by
  cases n with
  | zero => omega
  | succ n => rw [← h]; simp [settle, hm, hi, hl]
theorem settle_on {r goal : RM} {n : Nat} (h : settle n r = goal) (hn : r.left.toNat < n) (hm : nowMore r.now = false) (hl : ¬ r.left < 1) (hi : r.idle.left = r.left) : ∃ m, settle m r.idle.begin = goal ∧ (r.left - 1).toNat < m := by
  cases n with
  | zero => omega
  | succ n => exact ⟨n, by rw [← h]; simp [settle, hm, hi, hl], by omega⟩
theorem settle_spec (ω : World) (b : Nat) (r0 : RM) (x0 : RX) (n0 : Nat) (goal : RM) (B : Nat) (hg : settle n0 r0 = goal) (hn0 : r0.left.toNat < n0) (hok0 : ROk r0 B) (hl0 : heards x0.l = r0.heard) (F : List HP)  : Spec ω Tryz.prog 31 #[.pointer (some ⟨b, 0, none⟩)] (row b 0 [.int .i64 r0.base, .int .i64 r0.size, .int .i64 r0.cur, .int .i64 r0.nxt, .int .i64 r0.lap, .int .i64 r0.left, .pointer (nowA x0.hb r0.now), .slice x0.p r0.heard.length x0.c, .int .i64 r0.losses] :: nowRep x0.hb r0.now :: own 3 x0.p r0.heard.length x0.c (hcells x0.l) :: pack (hinner x0.l) :: F) fun v' H' => v' = .tuple #[] ∧ H' = relayRep b goal :: F := by
  refine spec_of_body Tryz.func31 rfl Tryz.ntmps31 rfl ?_
  refine ct_block ?_
  refine ct_loop (α := { q : RM × RX × Nat // settle q.2.2 q.1 = goal ∧ q.1.left.toNat < q.2.2 ∧ ROk q.1 B ∧ heards q.2.1.l = q.1.heard }) (fun q => [(0, .pointer (some ⟨b, 0, none⟩))]) (fun q => row b 0 [.int .i64 q.1.1.base, .int .i64 q.1.1.size, .int .i64 q.1.1.cur, .int .i64 q.1.1.nxt, .int .i64 q.1.1.lap, .int .i64 q.1.1.left, .pointer (nowA q.1.2.1.hb q.1.1.now), .slice q.1.2.1.p q.1.1.heard.length q.1.2.1.c, .int .i64 q.1.1.losses] :: nowRep q.1.2.1.hb q.1.1.now :: own 3 q.1.2.1.p q.1.1.heard.length q.1.2.1.c (hcells q.1.2.1.l) :: pack (hinner q.1.2.1.l) :: F) (fun q => q.1.1.left.toNat) ⟨(r0, x0, n0), hg, hn0, hok0, hl0⟩ (Knows.cons rfl (Knows.nil)) (by repeat (first | exact Sees.refl | (apply Sees.cons; (focus ((repeat (first | exact Z0 | apply Sel.there)); done))) | apply Sees.skip)) ?_
  intro ⟨⟨r, x, n⟩, hse, hn, hok, hl⟩
  dsimp only at hse hn hok hl ⊢
  have hleft := hok.hl
  refine ct_block ?_
  refine ct_seq ?_
  refine Cr ?_
  refine Rp rfl (pv_move rfl) ?_
  refine Rp rfl (pv_nilCheck rfl) ?_
  refine Rp rfl (pv_fieldAddr (k := 6) rfl Tryz.runUnderlying98 rfl Tryz.sizeOf96 rfl rfl) ?_
  refine Rq rfl (oq_load rfl rfl Tryz.isAgg96 (by repeat (first | exact Z0 | apply Sel.there)) (by rfl) (by rfl)) ?_
  refine Ro rfl (ot_call rfl Tryz.call33 (vs := [_]) rfl (by repeat (first | exact Sees.refl | (apply Sees.cons; (focus ((repeat (first | exact Z0 | apply Sel.there)); done))) | apply Sees.skip)) (hnextO_spec _ _ _ _)) ?_
  rintro _ _ ⟨rfl, rfl⟩
  refine Rp rfl (pv_move rfl) ?_
  refine Rp rfl (pv_extract rfl rfl) ?_
  refine Rp rfl (pv_extract rfl rfl) ?_
  refine Ro rfl (ot_alloc rfl Tryz.zeroValue36 (rfl : _ = [_, _, _, _, _, _])) ?_
  rintro _ _ ⟨b2, rfl, rfl⟩
  refine rl_op0 rfl rfl (ot_store rfl rfl rfl Tryz.sizeOf36 (by repeat (first | exact Z0 | apply Sel.there)) (rfl : _ = [_, _, _, _, _, _]) rfl (by rfl) (by rfl) (by first | rfl | assumption) (by exact (rfl : _ = _ :: _ :: _ :: _ :: _ :: _ :: _))) ?_
  rintro _ _ rfl
  refine Rp rfl (pv_assign rfl) ?_
  refine Kn2 0 3 rfl ?_
  refine Cr ?_
  refine Rp rfl (pv_move rfl) ?_
  refine Kn2 0 12 rfl ?_
  first | refine ct_cond_d rfl (fun h12 => ?_) (fun h12 => ?_) | refine ct_cond_n rfl (fun h12 => ?_) (fun h12 => ?_) | refine ct_cond_b rfl (fun h12 => ?_) (fun h12 => ?_) | refine ct_cond rfl (fun h12 => ?_) (fun h12 => ?_)
  · skip
    refine ct_ret ?_
    refine xt_ret_then ?_
    refine xt_ret_block ?_
    refine xt_ret_then ?_
    refine xt_ret_block ?_
    exact fin_ret (RVs.nil) Tryz.results31 (⟨rfl, rfl⟩) (by rw [settle_more hse h12]; exact Sees.ex x (Sees.cons (by repeat (first | exact Z0 | apply Sel.there)) (Sees.cons (by repeat (first | exact Z0 | apply Sel.there)) (Sees.cons (by repeat (first | exact Z0 | apply Sel.there)) (Sees.cons (by repeat (first | exact Z0 | apply Sel.there)) (Sees.fact hl (by repeat (first | exact Sees.refl | (apply Sees.cons; (focus ((repeat (first | exact Z0 | apply Sel.there)); done))) | apply Sees.skip))))))))
  · skip
    refine ct_skip ?_
    refine Kx1 0 rfl ?_
    refine ct_seq ?_
    refine Cr ?_
    refine Rp rfl (pv_move rfl) ?_
    refine Rp rfl (pv_nilCheck rfl) ?_
    refine Rp rfl (pv_fieldAddr (k := 6) rfl Tryz.runUnderlying98 rfl Tryz.sizeOf96 rfl rfl) ?_
    refine Rq rfl (oq_load rfl rfl Tryz.isAgg96 (by repeat (first | exact Z0 | apply Sel.there)) (by rfl) (by rfl)) ?_
    refine Rp rfl (pv_neq rfl rfl Tryz.runUnderlying96 rfl) ?_
    refine Kn2 0 17 rfl ?_
    first | refine ct_cond_d rfl (fun h17 => ?_) (fun h17 => ?_) | refine ct_cond_n rfl (fun h17 => ?_) (fun h17 => ?_) | refine ct_cond_b rfl (fun h17 => ?_) (fun h17 => ?_) | refine ct_cond rfl (fun h17 => ?_) (fun h17 => ?_)
    · obtain ⟨s, e17⟩ := now_fin h12 h17
      rw [e17]
      refine ct_region ?_
      refine Rp rfl (pv_move rfl) ?_
      refine Ro rfl (ot_call rfl Tryz.call58 (vs := [_]) rfl (by repeat (first | exact Sees.refl | (apply Sees.cons; (focus ((repeat (first | exact Z0 | apply Sel.there)); done))) | apply Sees.skip)) (note_spec _ _ _ r x s (by have := hok.hn _ _ e17; have h3 := this.2.2; have h4 := hok.hB; simp only [HPh.room] at h3; omega) (by have := hok.hh; omega) hl _)) ?_
      rintro _ _ ⟨rfl, x1, hl1, rfl⟩
      refine Kn1 0 rfl ?_
      refine ct_seq ?_
      refine Cr ?_
      refine Rp rfl (pv_move rfl) ?_
      refine Rp rfl (pv_nilCheck rfl) ?_
      refine Rp rfl (pv_fieldAddr (k := 6) rfl Tryz.runUnderlying98 rfl Tryz.sizeOf96 rfl rfl) ?_
      refine rl_op0 rfl rfl (ot_store rfl rfl rfl Tryz.sizeOf96 (by repeat (first | exact Z0 | apply Sel.there)) (rfl : _ = [_]) rfl (by rfl) (by rfl) (by first | rfl | assumption) (by exact (rfl : _ = _ :: _ :: _ :: _ :: _ :: _ :: _ :: _))) ?_
      rintro _ _ rfl
      refine Kn1 0 rfl ?_
      refine Cr ?_
      refine Rp rfl (pv_move rfl) ?_
      refine Rp rfl (pv_nilCheck rfl) ?_
      refine Rp rfl (pv_fieldAddr (k := 5) rfl Tryz.runUnderlying98 rfl Tryz.sizeOf3 rfl rfl) ?_
      refine Rq rfl (oq_load rfl rfl Tryz.isAgg3 (by repeat (first | exact Z0 | apply Sel.there)) (by rfl) (by rfl)) ?_
      refine Rp rfl (pv_bin rfl rfl rfl) ?_
      refine Kn2 0 27 rfl ?_
      first | refine ct_cond_d rfl (fun h27 => ?_) (fun h27 => ?_) | refine ct_cond_n rfl (fun h27 => ?_) (fun h27 => ?_) | refine ct_cond_b rfl (fun h27 => ?_) (fun h27 => ?_) | refine ct_cond rfl (fun h27 => ?_) (fun h27 => ?_)
      · skip
        refine ct_ret ?_
        refine xt_ret_then ?_
        refine xt_ret_block ?_
        refine xt_ret_then ?_
        refine xt_ret_block ?_
        exact fin_ret (RVs.nil) Tryz.results31 (⟨rfl, rfl⟩) (by rw [settle_stop hse hn h12 h27 (by unfold RM.idle; rw [e17]; rfl), show r.idle = r.note s from by unfold RM.idle; rw [e17]]; exact Sees.ex x1 (Sees.cons (by repeat (first | exact Z0 | apply Sel.there)) (Sees.fact trivial (Sees.cons (by repeat (first | exact Z0 | apply Sel.there)) (Sees.cons (by repeat (first | exact Z0 | apply Sel.there)) (Sees.fact hl1 (by repeat (first | exact Sees.refl | (apply Sees.cons; (focus ((repeat (first | exact Z0 | apply Sel.there)); done))) | apply Sees.skip))))))))
      · skip
        refine ct_skip ?_
        refine Kx1 0 rfl ?_
        refine Cr ?_
        refine Rp rfl (pv_move rfl) ?_
        refine Rp rfl (pv_nilCheck rfl) ?_
        refine Rp rfl (pv_fieldAddr (k := 5) rfl Tryz.runUnderlying98 rfl Tryz.sizeOf3 rfl rfl) ?_
        refine Rq rfl (oq_load rfl rfl Tryz.isAgg3 (by repeat (first | exact Z0 | apply Sel.there)) (by rfl) (by rfl)) ?_
        refine Rp rfl (pv_sub rfl rfl (by first | exact ⟨by omega, by omega⟩ | (have e : (r.note s).left = r.left := rfl; exact ⟨by omega, by omega⟩))) ?_
        refine Rp rfl (pv_nilCheck rfl) ?_
        refine Rp rfl (pv_fieldAddr (k := 5) rfl Tryz.runUnderlying98 rfl Tryz.sizeOf3 rfl rfl) ?_
        refine rl_op0 rfl rfl (ot_store rfl rfl rfl Tryz.sizeOf3 (by repeat (first | exact Z0 | apply Sel.there)) (rfl : _ = [_]) rfl (by rfl) (by rfl) (by first | rfl | assumption) (by exact (rfl : _ = _ :: _ :: _ :: _ :: _ :: _ :: _))) ?_
        rintro _ _ rfl
        refine Kn1 0 rfl ?_
        refine ct_planH [.q 0, .q 1, .q 2, .q 3, .q 4, .q 5, .q 6, .q 7, .q 8, .e 9, .q 10, .q 11, .b 12] mixed (by decide +kernel) ?_
        refine pw_q rfl rfl rfl rfl (oq_pv (pv_move rfl)) ?_
        refine pw_q rfl rfl rfl rfl (oq_pv (pv_move rfl)) ?_
        refine pw_q rfl rfl rfl rfl (oq_pv (pv_nilCheck rfl)) ?_
        refine pw_q rfl rfl rfl rfl (oq_pv (pv_fieldAddr (k := 0) rfl Tryz.runUnderlying98 rfl Tryz.sizeOf23 rfl rfl)) ?_
        refine pw_q rfl rfl rfl rfl (oq_loadAgg (us := [_, _]) rfl rfl Tryz.isAgg23 Tryz.sizeOf23 (by repeat (first | exact Z0 | apply Sel.there)) (by rfl) (by rfl) (by rfl)) ?_
        refine pw_q rfl rfl rfl rfl (oq_pv (pv_move rfl)) ?_
        refine pw_q rfl rfl rfl rfl (oq_pv (pv_nilCheck rfl)) ?_
        refine pw_q rfl rfl rfl rfl (oq_pv (pv_fieldAddr (k := 2) rfl Tryz.runUnderlying98 rfl Tryz.sizeOf25 rfl rfl)) ?_
        refine pw_q rfl rfl rfl rfl (oq_loadAgg (us := [_, _, _]) rfl rfl Tryz.isAgg25 Tryz.sizeOf25 (by repeat (first | exact Z0 | apply Sel.there)) (by rfl) (by rfl) (by rfl)) ?_
        refine pw_e rfl rfl rfl rfl (ot_call rfl Tryz.call59 (vs := [_, _]) rfl (by repeat (first | exact Sees.refl | (apply Sees.cons; (focus ((repeat (first | exact Z0 | apply Sel.there)); done))) | apply Sees.skip)) (hnew_spec _ _ _ _ _ _ (by exact hok.hb) (by exact hok.hs) _)) ?_
        rintro _ _ ⟨hb, rfl, rfl⟩
        refine ⟨[_], .refl, ?_⟩
        refine pw_q rfl rfl rfl rfl (oq_pv (pv_nilCheck rfl)) ?_
        refine pw_q rfl rfl rfl rfl (oq_pv (pv_fieldAddr (k := 6) rfl Tryz.runUnderlying98 rfl Tryz.sizeOf96 rfl rfl)) ?_
        refine pw_b0 rfl rfl rfl (ot_store rfl rfl rfl Tryz.sizeOf96 (by repeat (first | exact Z0 | apply Sel.there)) (rfl : _ = [_]) rfl (by rfl) (by rfl) (by first | rfl | assumption) (by exact (rfl : _ = _ :: _ :: _ :: _ :: _ :: _ :: _ :: _))) ?_
        rintro _ _ rfl
        refine pw_done ?_
        refine xt_normal_block ?_
        obtain ⟨m, hm1, hm2⟩ := settle_on hse hn h12 h27 (by unfold RM.idle; rw [e17]; rfl)
        rw [show r.idle = r.note s from by unfold RM.idle; rw [e17]] at hm1
        exact xt_round (α := { q : RM × RX × Nat // settle q.2.2 q.1 = goal ∧ q.1.left.toNat < q.2.2 ∧ ROk q.1 B ∧ heards q.2.1.l = q.1.heard }) (E' := fun q => [(0, .pointer (some ⟨b, 0, none⟩))]) (H' := fun q => row b 0 [.int .i64 q.1.1.base, .int .i64 q.1.1.size, .int .i64 q.1.1.cur, .int .i64 q.1.1.nxt, .int .i64 q.1.1.lap, .int .i64 q.1.1.left, .pointer (nowA q.1.2.1.hb q.1.1.now), .slice q.1.2.1.p q.1.1.heard.length q.1.2.1.c, .int .i64 q.1.1.losses] :: nowRep q.1.2.1.hb q.1.1.now :: own 3 q.1.2.1.p q.1.1.heard.length q.1.2.1.c (hcells q.1.2.1.l) :: pack (hinner q.1.2.1.l) :: F) (μ := fun q => q.1.1.left.toNat) (p := ⟨(r, x, n), hse, hn, hok, hl⟩) (⟨((r.note s).begin, { x1 with hb := hb }, m), hm1, hm2, (hok.note e17).begin rfl h27, hl1⟩) (by show (r.left - 1).toNat < r.left.toNat; first | omega | (have e : (r.note s).left = r.left := rfl; omega)) (Knows.cons rfl (Knows.nil)) (by repeat (first | exact Sees.refl | (apply Sees.cons; (focus ((repeat (first | exact Z0 | apply Sel.there)); done))) | apply Sees.skip))
    · have e17 := now_none h17
      rw [e17]
      refine ct_skip ?_
      refine Kx1 0 rfl ?_
      refine ct_seq ?_
      refine Cr ?_
      refine Rp rfl (pv_move rfl) ?_
      refine Rp rfl (pv_nilCheck rfl) ?_
      refine Rp rfl (pv_fieldAddr (k := 6) rfl Tryz.runUnderlying98 rfl Tryz.sizeOf96 rfl rfl) ?_
      refine rl_op0 rfl rfl (ot_store rfl rfl rfl Tryz.sizeOf96 (by repeat (first | exact Z0 | apply Sel.there)) (rfl : _ = [_]) rfl (by rfl) (by rfl) (by first | rfl | assumption) (by exact (rfl : _ = _ :: _ :: _ :: _ :: _ :: _ :: _ :: _))) ?_
      rintro _ _ rfl
      refine Kn1 0 rfl ?_
      refine Cr ?_
      refine Rp rfl (pv_move rfl) ?_
      refine Rp rfl (pv_nilCheck rfl) ?_
      refine Rp rfl (pv_fieldAddr (k := 5) rfl Tryz.runUnderlying98 rfl Tryz.sizeOf3 rfl rfl) ?_
      refine Rq rfl (oq_load rfl rfl Tryz.isAgg3 (by repeat (first | exact Z0 | apply Sel.there)) (by rfl) (by rfl)) ?_
      refine Rp rfl (pv_bin rfl rfl rfl) ?_
      refine Kn2 0 27 rfl ?_
      first | refine ct_cond_d rfl (fun h27 => ?_) (fun h27 => ?_) | refine ct_cond_n rfl (fun h27 => ?_) (fun h27 => ?_) | refine ct_cond_b rfl (fun h27 => ?_) (fun h27 => ?_) | refine ct_cond rfl (fun h27 => ?_) (fun h27 => ?_)
      · skip
        refine ct_ret ?_
        refine xt_ret_then ?_
        refine xt_ret_block ?_
        refine xt_ret_then ?_
        refine xt_ret_block ?_
        exact fin_ret (RVs.nil) Tryz.results31 (⟨rfl, rfl⟩) (by rw [settle_stop hse hn h12 h27 (by unfold RM.idle; rw [e17]), show r.idle = r from by unfold RM.idle; rw [e17]]; refine Sees.ex x ?_; unfold relayPieces; rw [e17]; exact (Sees.cons (by repeat (first | exact Z0 | apply Sel.there)) (Sees.fact trivial (Sees.cons (by repeat (first | exact Z0 | apply Sel.there)) (Sees.cons (by repeat (first | exact Z0 | apply Sel.there)) (Sees.fact hl (by repeat (first | exact Sees.refl | (apply Sees.cons; (focus ((repeat (first | exact Z0 | apply Sel.there)); done))) | apply Sees.skip))))))))
      · skip
        refine ct_skip ?_
        refine Kx1 0 rfl ?_
        refine Cr ?_
        refine Rp rfl (pv_move rfl) ?_
        refine Rp rfl (pv_nilCheck rfl) ?_
        refine Rp rfl (pv_fieldAddr (k := 5) rfl Tryz.runUnderlying98 rfl Tryz.sizeOf3 rfl rfl) ?_
        refine Rq rfl (oq_load rfl rfl Tryz.isAgg3 (by repeat (first | exact Z0 | apply Sel.there)) (by rfl) (by rfl)) ?_
        refine Rp rfl (pv_sub rfl rfl (by first | exact ⟨by omega, by omega⟩ | (have e : (r.note s).left = r.left := rfl; exact ⟨by omega, by omega⟩))) ?_
        refine Rp rfl (pv_nilCheck rfl) ?_
        refine Rp rfl (pv_fieldAddr (k := 5) rfl Tryz.runUnderlying98 rfl Tryz.sizeOf3 rfl rfl) ?_
        refine rl_op0 rfl rfl (ot_store rfl rfl rfl Tryz.sizeOf3 (by repeat (first | exact Z0 | apply Sel.there)) (rfl : _ = [_]) rfl (by rfl) (by rfl) (by first | rfl | assumption) (by exact (rfl : _ = _ :: _ :: _ :: _ :: _ :: _ :: _))) ?_
        rintro _ _ rfl
        refine Kn1 0 rfl ?_
        refine ct_planH [.q 0, .q 1, .q 2, .q 3, .q 4, .q 5, .q 6, .q 7, .q 8, .e 9, .q 10, .q 11, .b 12] mixed (by decide +kernel) ?_
        refine pw_q rfl rfl rfl rfl (oq_pv (pv_move rfl)) ?_
        refine pw_q rfl rfl rfl rfl (oq_pv (pv_move rfl)) ?_
        refine pw_q rfl rfl rfl rfl (oq_pv (pv_nilCheck rfl)) ?_
        refine pw_q rfl rfl rfl rfl (oq_pv (pv_fieldAddr (k := 0) rfl Tryz.runUnderlying98 rfl Tryz.sizeOf23 rfl rfl)) ?_
        refine pw_q rfl rfl rfl rfl (oq_loadAgg (us := [_, _]) rfl rfl Tryz.isAgg23 Tryz.sizeOf23 (by repeat (first | exact Z0 | apply Sel.there)) (by rfl) (by rfl) (by rfl)) ?_
        refine pw_q rfl rfl rfl rfl (oq_pv (pv_move rfl)) ?_
        refine pw_q rfl rfl rfl rfl (oq_pv (pv_nilCheck rfl)) ?_
        refine pw_q rfl rfl rfl rfl (oq_pv (pv_fieldAddr (k := 2) rfl Tryz.runUnderlying98 rfl Tryz.sizeOf25 rfl rfl)) ?_
        refine pw_q rfl rfl rfl rfl (oq_loadAgg (us := [_, _, _]) rfl rfl Tryz.isAgg25 Tryz.sizeOf25 (by repeat (first | exact Z0 | apply Sel.there)) (by rfl) (by rfl) (by rfl)) ?_
        refine pw_e rfl rfl rfl rfl (ot_call rfl Tryz.call59 (vs := [_, _]) rfl (by repeat (first | exact Sees.refl | (apply Sees.cons; (focus ((repeat (first | exact Z0 | apply Sel.there)); done))) | apply Sees.skip)) (hnew_spec _ _ _ _ _ _ (by exact hok.hb) (by exact hok.hs) _)) ?_
        rintro _ _ ⟨hb, rfl, rfl⟩
        refine ⟨[_], .refl, ?_⟩
        refine pw_q rfl rfl rfl rfl (oq_pv (pv_nilCheck rfl)) ?_
        refine pw_q rfl rfl rfl rfl (oq_pv (pv_fieldAddr (k := 6) rfl Tryz.runUnderlying98 rfl Tryz.sizeOf96 rfl rfl)) ?_
        refine pw_b0 rfl rfl rfl (ot_store rfl rfl rfl Tryz.sizeOf96 (by repeat (first | exact Z0 | apply Sel.there)) (rfl : _ = [_]) rfl (by rfl) (by rfl) (by first | rfl | assumption) (by exact (rfl : _ = _ :: _ :: _ :: _ :: _ :: _ :: _ :: _))) ?_
        rintro _ _ rfl
        refine pw_done ?_
        refine xt_normal_block ?_
        obtain ⟨m, hm1, hm2⟩ := settle_on hse hn h12 h27 (by unfold RM.idle; rw [e17])
        rw [show r.idle = r from by unfold RM.idle; rw [e17]] at hm1
        exact xt_round (α := { q : RM × RX × Nat // settle q.2.2 q.1 = goal ∧ q.1.left.toNat < q.2.2 ∧ ROk q.1 B ∧ heards q.2.1.l = q.1.heard }) (E' := fun q => [(0, .pointer (some ⟨b, 0, none⟩))]) (H' := fun q => row b 0 [.int .i64 q.1.1.base, .int .i64 q.1.1.size, .int .i64 q.1.1.cur, .int .i64 q.1.1.nxt, .int .i64 q.1.1.lap, .int .i64 q.1.1.left, .pointer (nowA q.1.2.1.hb q.1.1.now), .slice q.1.2.1.p q.1.1.heard.length q.1.2.1.c, .int .i64 q.1.1.losses] :: nowRep q.1.2.1.hb q.1.1.now :: own 3 q.1.2.1.p q.1.1.heard.length q.1.2.1.c (hcells q.1.2.1.l) :: pack (hinner q.1.2.1.l) :: F) (μ := fun q => q.1.1.left.toNat) (p := ⟨(r, x, n), hse, hn, hok, hl⟩) (⟨(r.begin, { x with hb := hb }, m), hm1, hm2, hok.begin e17 h27, hl⟩) (by show (r.left - 1).toNat < r.left.toNat; first | omega | (have e : (r.note s).left = r.left := rfl; omega)) (Knows.cons rfl (Knows.nil)) (by repeat (first | exact Sees.refl | (apply Sees.cons; (focus ((repeat (first | exact Z0 | apply Sel.there)); done))) | apply Sees.skip))
theorem Sees.packNil {H M : List HP} (s : Sees H M) : Sees H (pack [] :: M) := .of fun m h => by rw [stars_pack]; exact s.out m h
def rnew (base size cur nxt lap times : Int) : RM := settle 65 ⟨base, size, cur, nxt, lap, if 64 < times then 64 else times, none, [], 0⟩
theorem rnew_ok {base size cur nxt lap times : Int} (hb : inK .i64 base) (hs : inK .i64 size) : ROk (rnew base size cur nxt lap times) 0 ∧ ((rnew base size cur nxt lap times).now = none ∨ nowMore (rnew base size cur nxt lap times).now = true) := by
  unfold rnew
  refine settle_ok _ _ (by dsimp only; split <;> omega) ⟨hb, hs, ?_, ?_, fun h hh => (by cases hh), fun s ph e => (by cases e), by decide⟩
  · dsimp only; split <;> omega
  · simp only [nowN, List.length_nil]; split <;> omega
theorem rtake_ok {r : RM} {a : Ans} {B : Nat} (h : ROk r B) (hs : r.now = none ∨ nowMore r.now = true) (ha : inK .u64 a.v) (hB : B + a.data.length ≤ 1099511627776) : ROk (rtake r a) (B + a.data.length) ∧ ((rtake r a).now = none ∨ nowMore (rtake r a).now = true) := by
  unfold rtake
  rcases e : r.now with _ | ⟨s, ph⟩
  · exact ⟨⟨h.hb, h.hs, h.hl, h.hh, fun x hx => Nat.le_trans (h.hd x hx) (Nat.le_add_right _ _), fun s ph e' => (by rw [e] at e'; cases e'), hB⟩, .inl e⟩
  · have hp : ph.ends = false := by rw [e] at hs; rcases hs with hs | hs; cases hs; simpa [nowMore] using hs
    exact settle_ok _ _ (Nat.lt_succ_self _) (h.told e hp ha hB)
theorem rnew_raw (ω : World) (base size cur nxt lap times : Int) (hb0 : inK .i64 base) (hs0 : inK .i64 size) (F : List HP)  : Spec ω Tryz.prog 8 #[.agg #[.int .i64 base, .int .i64 size], .agg #[.int .i64 cur, .int .i64 nxt, .int .i64 lap], .int .i64 times] (F) fun v' H' => ∃ b, v' = .pointer (some ⟨b, 0, none⟩) ∧ H' = relayRep b (rnew base size cur nxt lap times) :: F := by
  refine spec_of_body Tryz.func8 rfl Tryz.ntmps8 rfl ?_
  refine Cr ?_
  refine Ro rfl (ot_box rfl rfl (rfl : _ = [_, _])) ?_
  rintro _ _ ⟨b3, rfl, rfl⟩
  refine Ro rfl (ot_box rfl rfl (rfl : _ = [_, _, _])) ?_
  rintro _ _ ⟨b4, rfl, rfl⟩
  refine Rp rfl (pv_assign rfl) ?_
  refine Kn3 2 3 4 rfl ?_
  refine Cr ?_
  refine Rq rfl (oq_loadAgg (us := [_, _]) rfl rfl Tryz.isAgg23 Tryz.sizeOf23 (by repeat (first | exact Z0 | apply Sel.there)) (by rfl) (by rfl) (by rfl)) ?_
  refine Rq rfl (oq_loadAgg (us := [_, _, _]) rfl rfl Tryz.isAgg25 Tryz.sizeOf25 (by repeat (first | exact Z0 | apply Sel.there)) (by rfl) (by rfl) (by rfl)) ?_
  refine Rp rfl (pv_move rfl) ?_
  refine Rp rfl (pv_min rfl rfl) ?_
  refine Rp rfl (pv_build (ps := [(0, _), (1, _), (2, _)]) (cs := [_, _, _, _, _, _, _, _, _]) rfl Tryz.zeroValue98 Tryz.runUnderlying98 (.cons Tryz.sizeOf23 (.cons Tryz.sizeOf25 (.cons Tryz.sizeOf3 (.cons Tryz.sizeOf96 (.cons Tryz.sizeOf39 (.cons Tryz.sizeOf3 (.nil))))))) rfl) ?_
  refine Ro rfl (ot_box rfl rfl (rfl : _ = [_, _, _, _, _, _, _, _, _])) ?_
  rintro _ _ ⟨b13, rfl, rfl⟩
  refine Rp rfl (pv_assign rfl) ?_
  refine Kn1 7 rfl ?_
  refine Cr ?_
  refine Rp rfl (pv_move rfl) ?_
  refine Ro rfl (ot_call rfl Tryz.call31 (vs := [_]) rfl (Sees.cons (by repeat (first | exact Z0 | apply Sel.there)) (Sees.fact trivial (Sees.nilOwn (Sees.packNil (by repeat (first | exact Sees.refl | (apply Sees.cons; (focus ((repeat (first | exact Z0 | apply Sel.there)); done))) | apply Sees.skip)))))) (settle_spec _ _ ⟨base, size, cur, nxt, lap, if 64 < times then 64 else times, none, [], 0⟩ {} 65 _ 0 rfl (by dsimp only; split <;> omega) ⟨hb0, hs0, by dsimp only; split <;> omega, by simp only [nowN, List.length_nil]; split <;> omega, fun h hh => (by cases hh), fun s ph e => (by cases e), by decide⟩ rfl _)) ?_
  rintro _ _ ⟨rfl, rfl⟩
  refine Kn1 7 rfl ?_
  refine Cr ?_
  refine Rp rfl (pv_move rfl) ?_
  refine Rp rfl (pv_assign rfl) ?_
  refine Kn1 6 rfl ?_
  refine ct_ret ?_
  exact fin_ret (RVs.tmp rfl (RVs.nil)) Tryz.results8 (⟨_, rfl, rfl⟩) (by repeat (first | exact Sees.refl | (apply Sees.cons; (focus ((repeat (first | exact Z0 | apply Sel.there)); done))) | apply Sees.skip))
theorem rnext_raw (ω : World) (b : Nat) (r : RM) (x : RX) (F : List HP)  : Spec ω Tryz.prog 10 #[.pointer (some ⟨b, 0, none⟩)] (row b 0 [.int .i64 r.base, .int .i64 r.size, .int .i64 r.cur, .int .i64 r.nxt, .int .i64 r.lap, .int .i64 r.left, .pointer (nowA x.hb r.now), .slice x.p r.heard.length x.c, .int .i64 r.losses] :: nowRep x.hb r.now :: own 3 x.p r.heard.length x.c (hcells x.l) :: pack (hinner x.l) :: F) fun v' H' => v' = .tuple #[.agg (nowAcc r.now).cells, .bool (nowMore r.now)] ∧ H' = row b 0 [.int .i64 r.base, .int .i64 r.size, .int .i64 r.cur, .int .i64 r.nxt, .int .i64 r.lap, .int .i64 r.left, .pointer (nowA x.hb r.now), .slice x.p r.heard.length x.c, .int .i64 r.losses] :: nowRep x.hb r.now :: own 3 x.p r.heard.length x.c (hcells x.l) :: pack (hinner x.l) :: F := by
  refine spec_of_body Tryz.func10 rfl Tryz.ntmps10 rfl ?_
  refine Cr ?_
  refine Ro rfl (ot_alloc rfl Tryz.zeroValue36 (rfl : _ = [_, _, _, _, _, _])) ?_
  rintro _ _ ⟨b2, rfl, rfl⟩
  refine Rp rfl (pv_assign rfl) ?_
  refine Kn2 0 2 rfl ?_
  refine ct_seq ?_
  refine Cr ?_
  refine Rp rfl (pv_move rfl) ?_
  refine Rp rfl (pv_eql rfl rfl Tryz.runUnderlying32 rfl) ?_
  refine Kn3 0 2 5 rfl ?_
  refine ct_false rfl ?_
  refine ct_skip ?_
  refine Kx2 0 2 rfl ?_
  refine Cr ?_
  refine Rp rfl (pv_move rfl) ?_
  refine Rp rfl (pv_nilCheck rfl) ?_
  refine Rp rfl (pv_fieldAddr (k := 6) rfl Tryz.runUnderlying98 rfl Tryz.sizeOf96 rfl rfl) ?_
  refine Rq rfl (oq_load rfl rfl Tryz.isAgg96 (by repeat (first | exact Z0 | apply Sel.there)) (by rfl) (by rfl)) ?_
  refine Ro rfl (ot_call rfl Tryz.call33 (vs := [_]) rfl (by repeat (first | exact Sees.refl | (apply Sees.cons; (focus ((repeat (first | exact Z0 | apply Sel.there)); done))) | apply Sees.skip)) (hnextO_spec _ _ _ _)) ?_
  rintro _ _ ⟨rfl, rfl⟩
  refine Rp rfl (pv_extract rfl rfl) ?_
  refine Rp rfl (pv_extract rfl rfl) ?_
  refine rl_op0 rfl rfl (ot_store rfl rfl rfl Tryz.sizeOf36 (by repeat (first | exact Z0 | apply Sel.there)) (rfl : _ = [_, _, _, _, _, _]) rfl (by rfl) (by rfl) (by first | rfl | assumption) (by exact (rfl : _ = _ :: _ :: _ :: _ :: _ :: _ :: _))) ?_
  rintro _ _ rfl
  refine Rp rfl (pv_assign rfl) ?_
  refine Kn2 2 3 rfl ?_
  refine ct_ret ?_
  exact fin_ret (RVs.agg (us := [_, _, _, _, _, _]) rfl Tryz.isAgg36 Tryz.sizeOf36 (by repeat (first | exact Z0 | apply Sel.there)) (by rfl) (by rfl) (by rfl) (RVs.tmp rfl (RVs.nil))) Tryz.results10 (⟨rfl, rfl⟩) (by repeat (first | exact Sees.refl | (apply Sees.cons; (focus ((repeat (first | exact Z0 | apply Sel.there)); done))) | apply Sees.skip))
theorem rtake_raw (ω : World) (b : Nat) (r : RM) (x : RX) (a : Ans) (ha : inK .u64 a.v) (X : HP) (ap : Option Addr) (ac : Nat) (hX : Rd ω X 1 ap a.data.length (byteC a.data)) (B : Nat) (hok : ROk r B) (hset : r.now = none ∨ nowMore r.now = true) (hB : B + a.data.length ≤ 1099511627776) (hl : heards x.l = r.heard) (F : List HP)  : Spec ω Tryz.prog 16 #[.pointer (some ⟨b, 0, none⟩), .agg #[.int .u64 a.v, .bool a.d, .slice ap a.data.length ac]] (row b 0 [.int .i64 r.base, .int .i64 r.size, .int .i64 r.cur, .int .i64 r.nxt, .int .i64 r.lap, .int .i64 r.left, .pointer (nowA x.hb r.now), .slice x.p r.heard.length x.c, .int .i64 r.losses] :: nowRep x.hb r.now :: own 3 x.p r.heard.length x.c (hcells x.l) :: pack (hinner x.l) :: X :: F) fun v' H' => v' = .tuple #[] ∧ H' = relayRep b (rtake r a) :: X :: F := by
  refine spec_of_body Tryz.func16 rfl Tryz.ntmps16 rfl ?_
  refine Cr ?_
  refine Ro rfl (ot_box rfl rfl (rfl : _ = [_, _, _])) ?_
  rintro _ _ ⟨b3, rfl, rfl⟩
  refine Kn2 0 3 rfl ?_
  refine Cr ?_
  refine Rp rfl (pv_move rfl) ?_
  refine Rp rfl (pv_neq rfl rfl Tryz.runUnderlying32 rfl) ?_
  refine Rp rfl (pv_move rfl) ?_
  refine Ru rfl (pv_move rfl) ?_
  refine Ru rfl (pv_nilCheck rfl) ?_
  refine Ru rfl (pv_fieldAddr (k := 6) rfl Tryz.runUnderlying98 rfl Tryz.sizeOf96 rfl rfl) ?_
  refine Rv rfl (oq_load rfl rfl Tryz.isAgg96 (by repeat (first | exact Z0 | apply Sel.there)) (by rfl) (by rfl)) ?_
  refine Ru rfl (pv_neq rfl rfl Tryz.runUnderlying96 rfl) ?_
  refine Rp rfl (pv_pick1 rfl rfl) ?_
  refine Kn3 0 3 12 rfl ?_
  first | refine ct_cond_d rfl (fun h12 => ?_) (fun h12 => ?_) | refine ct_cond_n rfl (fun h12 => ?_) (fun h12 => ?_) | refine ct_cond_b rfl (fun h12 => ?_) (fun h12 => ?_) | refine ct_cond rfl (fun h12 => ?_) (fun h12 => ?_)
  · obtain ⟨s, ph, e12⟩ := now_some h12
    rw [e12]
    have hph : ph.ends = false := by rw [e12] at hset; rcases hset with h | h; cases h; simpa [nowMore] using h
    have hnn := hok.hn _ _ e12
    refine ct_seq ?_
    refine ct_planH [.q 0, .q 1, .q 2, .q 3, .q 4, .b 5] mixed (by decide +kernel) ?_
    refine pw_q rfl rfl rfl rfl (oq_pv (pv_move rfl)) ?_
    refine pw_q rfl rfl rfl rfl (oq_pv (pv_nilCheck rfl)) ?_
    refine pw_q rfl rfl rfl rfl (oq_pv (pv_fieldAddr (k := 6) rfl Tryz.runUnderlying98 rfl Tryz.sizeOf96 rfl rfl)) ?_
    refine pw_q rfl rfl rfl rfl (oq_load rfl rfl Tryz.isAgg96 (by repeat (first | exact Z0 | apply Sel.there)) (by rfl) (by rfl)) ?_
    refine pw_q rfl rfl rfl rfl (oq_loadAgg (us := [_, _, _]) rfl rfl Tryz.isAgg31 Tryz.sizeOf31 (by repeat (first | exact Z0 | apply Sel.there)) (by rfl) (by rfl) (by rfl)) ?_
    refine pw_b rfl rfl rfl rfl (ot_call rfl Tryz.call36 (vs := [_, _]) rfl (by repeat (first | exact Sees.refl | (apply Sees.cons; (focus ((repeat (first | exact Z0 | apply Sel.there)); done))) | apply Sees.skip)) (hTake_spec _ _ s ph hnn.1 hph a ha X ap ac hX (by have := hnn.2.2; have := hok.hB; omega) _)) ?_
    rintro _ _ ⟨rfl, rfl⟩
    refine pw_done ?_
    refine Kx1 0 rfl ?_
    refine ct_region ?_
    refine Rp rfl (pv_move rfl) ?_
    refine Ro rfl (ot_call rfl Tryz.call31 (vs := [_]) rfl (by repeat (first | exact Sees.refl | (apply Sees.cons; (focus ((repeat (first | exact Z0 | apply Sel.there)); done))) | apply Sees.skip)) (settle_spec _ _ { r with now := some (hstep s ph a) } x (r.left.toNat + 1) _ (B + a.data.length) rfl (Nat.lt_succ_self _) (hok.told e12 hph ha hB) hl _)) ?_
    rintro _ _ ⟨rfl, rfl⟩
    refine rl_nil ?_
    exact fin_end (RVs.nil) Tryz.results16 (⟨rfl, rfl⟩) (by rw [show rtake r a = settle (r.left.toNat + 1) { r with now := some (hstep s ph a) } from by unfold rtake; rw [e12]]; exact (by repeat (first | exact Sees.refl | (apply Sees.cons; (focus ((repeat (first | exact Z0 | apply Sel.there)); done))) | apply Sees.skip)))
  · have e12 := now_none h12
    rw [e12]
    refine ct_skip ?_
    exact fin_end (RVs.nil) Tryz.results16 (⟨rfl, rfl⟩) (by rw [show rtake r a = r from by unfold rtake; rw [e12]]; refine Sees.ex x ?_; unfold relayPieces; rw [e12]; exact Sees.cons (by repeat (first | exact Z0 | apply Sel.there)) (Sees.fact trivial (Sees.cons (by repeat (first | exact Z0 | apply Sel.there)) (Sees.cons (by repeat (first | exact Z0 | apply Sel.there)) (Sees.fact hl (by repeat (first | exact Sees.refl | (apply Sees.cons; (focus ((repeat (first | exact Z0 | apply Sel.there)); done))) | apply Sees.skip)))))))
theorem rstate_raw (ω : World) (b : Nat) (r : RM) (nw sl : Value) (F : List HP)  : Spec ω Tryz.prog 14 #[.pointer (some ⟨b, 0, none⟩)] (row b 0 [.int .i64 r.base, .int .i64 r.size, .int .i64 r.cur, .int .i64 r.nxt, .int .i64 r.lap, .int .i64 r.left, nw, sl, .int .i64 r.losses] :: F) fun v' H' => v' = .agg #[.int .i64 r.cur, .int .i64 r.nxt, .int .i64 r.lap] ∧ H' = row b 0 [.int .i64 r.base, .int .i64 r.size, .int .i64 r.cur, .int .i64 r.nxt, .int .i64 r.lap, .int .i64 r.left, nw, sl, .int .i64 r.losses] :: F := by
  refine spec_of_body Tryz.func14 rfl Tryz.ntmps14 rfl ?_
  refine Cr ?_
  refine Ro rfl (ot_alloc rfl Tryz.zeroValue25 (rfl : _ = [_, _, _])) ?_
  rintro _ _ ⟨b2, rfl, rfl⟩
  refine Kn2 0 2 rfl ?_
  refine ct_seq ?_
  refine Cr ?_
  refine Rp rfl (pv_move rfl) ?_
  refine Rp rfl (pv_eql rfl rfl Tryz.runUnderlying32 rfl) ?_
  refine Kn3 0 2 4 rfl ?_
  refine ct_false rfl ?_
  refine ct_skip ?_
  refine Kx2 0 2 rfl ?_
  refine Cr ?_
  refine Rp rfl (pv_move rfl) ?_
  refine Rp rfl (pv_nilCheck rfl) ?_
  refine Rp rfl (pv_fieldAddr (k := 2) rfl Tryz.runUnderlying98 rfl Tryz.sizeOf25 rfl rfl) ?_
  refine Rq rfl (oq_loadAgg (us := [_, _, _]) rfl rfl Tryz.isAgg25 Tryz.sizeOf25 (by repeat (first | exact Z0 | apply Sel.there)) (by rfl) (by rfl) (by rfl)) ?_
  refine rl_op0 rfl rfl (ot_store rfl rfl rfl Tryz.sizeOf25 (by repeat (first | exact Z0 | apply Sel.there)) (rfl : _ = [_, _, _]) rfl (by rfl) (by rfl) (by first | rfl | assumption) (by exact (rfl : _ = _ :: _ :: _ :: _))) ?_
  rintro _ _ rfl
  refine Kn1 2 rfl ?_
  refine ct_ret ?_
  exact fin_ret (RVs.agg (us := [_, _, _]) rfl Tryz.isAgg25 Tryz.sizeOf25 (by repeat (first | exact Z0 | apply Sel.there)) (by rfl) (by rfl) (by rfl) (RVs.nil)) Tryz.results14 (⟨rfl, rfl⟩) (by repeat (first | exact Sees.refl | (apply Sees.cons; (focus ((repeat (first | exact Z0 | apply Sel.there)); done))) | apply Sees.skip))
theorem rlosses_raw (ω : World) (b : Nat) (r : RM) (nw sl : Value) (F : List HP)  : Spec ω Tryz.prog 15 #[.pointer (some ⟨b, 0, none⟩)] (row b 0 [.int .i64 r.base, .int .i64 r.size, .int .i64 r.cur, .int .i64 r.nxt, .int .i64 r.lap, .int .i64 r.left, nw, sl, .int .i64 r.losses] :: F) fun v' H' => v' = .int .i64 r.losses ∧ H' = row b 0 [.int .i64 r.base, .int .i64 r.size, .int .i64 r.cur, .int .i64 r.nxt, .int .i64 r.lap, .int .i64 r.left, nw, sl, .int .i64 r.losses] :: F := by
  refine spec_of_body Tryz.func15 rfl Tryz.ntmps15 rfl ?_
  refine Cr ?_
  refine Rp rfl (pv_assign rfl) ?_
  refine Kn1 0 rfl ?_
  refine ct_seq ?_
  refine Cr ?_
  refine Rp rfl (pv_move rfl) ?_
  refine Rp rfl (pv_eql rfl rfl Tryz.runUnderlying32 rfl) ?_
  refine Kn2 0 4 rfl ?_
  refine ct_false rfl ?_
  refine ct_skip ?_
  refine Kx1 0 rfl ?_
  refine Cr ?_
  refine Rp rfl (pv_move rfl) ?_
  refine Rp rfl (pv_nilCheck rfl) ?_
  refine Rp rfl (pv_fieldAddr (k := 8) rfl Tryz.runUnderlying98 rfl Tryz.sizeOf3 rfl rfl) ?_
  refine Rq rfl (oq_load rfl rfl Tryz.isAgg3 (by repeat (first | exact Z0 | apply Sel.there)) (by rfl) (by rfl)) ?_
  refine Rp rfl (pv_assign rfl) ?_
  refine Kn1 2 rfl ?_
  refine ct_ret ?_
  exact fin_ret (RVs.tmp rfl (RVs.nil)) Tryz.results15 (⟨rfl, rfl⟩) (by repeat (first | exact Sees.refl | (apply Sees.cons; (focus ((repeat (first | exact Z0 | apply Sel.there)); done))) | apply Sees.skip))
theorem rnext_spec (ω : World) (b : Nat) (r : RM) (F : List HP) : Spec ω Tryz.prog 10 #[.pointer (some ⟨b, 0, none⟩)] (relayRep b r :: F) fun v' H' => v' = .tuple #[.agg (nowAcc r.now).cells, .bool (nowMore r.now)] ∧ H' = relayRep b r :: F := by
  refine Spec.fold (Spec.ex fun x => ?_)
  refine (Spec.sees (by repeat (first | exact Sees.refl | (apply Sees.cons; (focus ((repeat (first | exact Z0 | apply Sel.there)); done))) | apply Sees.skip)) (rnext_raw ω b r x (fact (heards x.l = r.heard) :: F))).mono ?_
  rintro _ _ ⟨rfl, rfl⟩
  exact ⟨rfl, Sees.ex x (by repeat (first | exact Sees.refl | (apply Sees.cons; (focus ((repeat (first | exact Z0 | apply Sel.there)); done))) | apply Sees.skip))⟩
theorem rstate_spec (ω : World) (b : Nat) (r : RM) (F : List HP) : Spec ω Tryz.prog 14 #[.pointer (some ⟨b, 0, none⟩)] (relayRep b r :: F) fun v' H' => v' = .agg #[.int .i64 r.cur, .int .i64 r.nxt, .int .i64 r.lap] ∧ H' = relayRep b r :: F := by
  refine Spec.fold (Spec.ex fun x => ?_)
  refine (Spec.sees (by repeat (first | exact Sees.refl | (apply Sees.cons; (focus ((repeat (first | exact Z0 | apply Sel.there)); done))) | apply Sees.skip)) (rstate_raw ω b r (.pointer (nowA x.hb r.now)) (.slice x.p r.heard.length x.c) (nowRep x.hb r.now :: own 3 x.p r.heard.length x.c (hcells x.l) :: pack (hinner x.l) :: fact (heards x.l = r.heard) :: F))).mono ?_
  rintro _ _ ⟨rfl, rfl⟩
  exact ⟨rfl, Sees.ex x (by repeat (first | exact Sees.refl | (apply Sees.cons; (focus ((repeat (first | exact Z0 | apply Sel.there)); done))) | apply Sees.skip))⟩
theorem rlosses_spec (ω : World) (b : Nat) (r : RM) (F : List HP) : Spec ω Tryz.prog 15 #[.pointer (some ⟨b, 0, none⟩)] (relayRep b r :: F) fun v' H' => v' = .int .i64 r.losses ∧ H' = relayRep b r :: F := by
  refine Spec.fold (Spec.ex fun x => ?_)
  refine (Spec.sees (by repeat (first | exact Sees.refl | (apply Sees.cons; (focus ((repeat (first | exact Z0 | apply Sel.there)); done))) | apply Sees.skip)) (rlosses_raw ω b r (.pointer (nowA x.hb r.now)) (.slice x.p r.heard.length x.c) (nowRep x.hb r.now :: own 3 x.p r.heard.length x.c (hcells x.l) :: pack (hinner x.l) :: fact (heards x.l = r.heard) :: F))).mono ?_
  rintro _ _ ⟨rfl, rfl⟩
  exact ⟨rfl, Sees.ex x (by repeat (first | exact Sees.refl | (apply Sees.cons; (focus ((repeat (first | exact Z0 | apply Sel.there)); done))) | apply Sees.skip))⟩
theorem Spec.fact {ω : World} {P : Program} {f : FuncId} {args : Array Value} {p : Prop} {H L : List HP} {R : Value → List HP → Prop} (s : Sel H (fact p) L) (h : p → Spec ω P f args H R) : Spec ω P f args H R := fun w hw => h (holds_fact.1 (hw.sel s)).1 w hw
theorem rtake_spec (ω : World) (b : Nat) (r : RM) (a : Ans) (ha : inK .u64 a.v) (X : HP) (ap : Option Addr) (ac : Nat) (hX : Rd ω X 1 ap a.data.length (byteC a.data)) (B : Nat) (hok : ROk r B) (hset : r.now = none ∨ nowMore r.now = true) (hB : B + a.data.length ≤ 1099511627776) (F : List HP) :
    Spec ω Tryz.prog 16 #[.pointer (some ⟨b, 0, none⟩), .agg #[.int .u64 a.v, .bool a.d, .slice ap a.data.length ac]] (relayRep b r :: X :: F) fun v' H' => v' = .tuple #[] ∧ H' = relayRep b (rtake r a) :: X :: F := by
  refine Spec.ex fun x => Spec.fact (p := heards x.l = r.heard) (by repeat (first | exact Z0 | apply Sel.there)) fun hl => ?_
  exact Spec.sees (by repeat (first | exact Sees.refl | (apply Sees.cons; (focus ((repeat (first | exact Z0 | apply Sel.there)); done))) | apply Sees.skip)) (rtake_raw ω b r x a ha X ap ac hX B hok hset hB hl F)
end Go.Proofs.YtnjljfjncfbinaaGreat
