/- One that sends messages, one behind the other: its contracts. -/
import Derived.Test.YtnjljfjncfbinaaGreatSq
import Derived.Test.YtnjljfjncfbinaaGreatMs
import Derived.Test.YtnjljfjncfbinaaGreatFp
set_option linter.all false
namespace Go.Proofs.YtnjljfjncfbinaaGreat
open Go Go.Proofs
set_option maxRecDepth 100000
set_option linter.unusedVariables false
attribute [local irreducible] RL CT XT OQ OT PW PG PV Upon wpL

abbrev Msg := Int × List UInt8
abbrev ML := List (Msg × Option Addr × Nat)
def mscells : ML → List Value
  | [] => []
  | x :: l => .int .i32 x.1.1 :: .slice x.2.1 x.1.2.length x.2.2 :: mscells l
def msinner (l : ML) : List HP := l.map fun x => own 1 x.2.1 x.1.2.length x.2.2 (byteC x.1.2)
def msgs (l : ML) : List Msg := l.map fun x => x.1
def i64s (l : List Int) : List Value := l.map fun x => .int .i64 x
theorem i64s_snoc (l : List Int) (x : Int) : i64s (l ++ [x]) = i64s l ++ [.int .i64 x] := by simp [i64s]
theorem len_snoc {α : Type} (l : List α) (x : α) : (l ++ [x]).length = l.length + 1 := by simp
theorem mscells_append (a b : ML) : mscells (a ++ b) = mscells a ++ mscells b := by induction a with | nil => rfl | cons x a ih => simp [mscells, ih]
theorem mscells_length (a : ML) : (mscells a).length = a.length * 2 := by induction a with | nil => rfl | cons x a ih => simp only [mscells, List.length_cons, ih]; omega
theorem plain_mscells (a : ML) : plainCells (mscells a) = true := by induction a with | nil => rfl | cons x a ih => simp [mscells, plainCells] at *; exact ih
theorem mscells_get : ∀ {l : ML} {i : Nat} {x : Msg × Option Addr × Nat}, l[i]? = some x → ((mscells l).drop (i * 2)).take 2 = [.int .i32 x.1.1, .slice x.2.1 x.1.2.length x.2.2] := by
  intro l
  induction l with
  | nil => intro i x h; simp at h
  | cons y l ih =>
    intro i x h
    cases i with
    | zero => simp at h; subst h; simp [mscells]
    | succ i =>
      rw [show (i + 1) * 2 = i * 2 + 2 from by omega]
      exact ih (by simpa using h)
theorem sndNext_gen (ω : World) (b : Nat) (s : SndS) (ph : SndPh) (F : List HP) : Spec ω Tryz.prog 69 #[.pointer (some ⟨b, 0, none⟩)] (sndRep b s ph :: F) fun v' H' =>
    ∃ (a : AccD) (more : Bool) (X : HP) (p : Option Addr) (m c : Nat), v' = .tuple #[accV a p m c, .bool more] ∧ (∀ μ, X μ → sndRep b s ph μ) ∧ sndWant ph = (if more = true then some a else none) ∧ H' = X :: F := by
  refine (sndNext_spec ω b s ph F).seesPost ?_
  rintro v H' ⟨ac, more, X, p, m, c, rfl, rfl, hrd, hi, hs, hW⟩
  exact ⟨_, ⟨ac, more, X, p, _, c, rfl, hi, hW, rfl⟩, hs⟩
theorem sndWant_none {ph : SndPh} (h : sndWant ph = none) : ph = .fin := by cases ph <;> first | rfl | cases h
def sndAt (s : SndS) : Int := if s.e = 0 then IntKind.i64.wrap s.tail else 0
theorem sndNew_eq (ω : World) (base size typ : Int) (l : List UInt8) (hb : inK .i64 base) (hs : inK .i64 size) (hl : l.length ≤ 131072) (bp : Option Addr) (bc : Nat) (X : HP) (hX : Rd ω X 1 bp l.length (byteC l)) (F : List HP) : Spec ω Tryz.prog 71 #[.agg #[.int .i64 base, .int .i64 size], .int .i32 typ, .slice bp l.length bc] (X :: F) fun v' H' => ∃ b, v' = .pointer (some ⟨b, 0, none⟩) ∧ H' = sndRep b (sndNew base size typ l).1 (sndNew base size typ l).2 :: X :: F := by
  refine (sndNew_spec ω base size typ l hb hs hl bp bc X hX F).seesPost ?_
  rintro v H' ⟨b, rfl, h⟩
  exact ⟨_, ⟨b, rfl, rfl⟩, h⟩
structure CsS where
  base : Int
  size : Int
  left : List Msg
  now : Option (SndS × SndPh)
  places : List Int
  done : List Int
structure CsX where
  lp : Option Addr
  lc : Nat
  l : ML
  nb : Nat
  pp : Option Addr
  pc : Nat
  dp : Option Addr
  dc : Nat
def csMore : Option (SndS × SndPh) → Bool
  | none => false
  | some (_, ph) => (sndWant ph).isSome
def csN : Option (SndS × SndPh) → Nat
  | none => 0
  | some _ => 1
def csNowA (nb : Nat) : Option (SndS × SndPh) → Option Addr
  | none => none
  | some _ => some ⟨nb, 0, none⟩
def csNowRep (nb : Nat) : Option (SndS × SndPh) → HP
  | none => fact True
  | some (s, ph) => sndRep nb s ph
def CsS.idle (c : CsS) : CsS := match c.now with
  | none => c
  | some (s, _) => { c with now := none, done := c.done ++ [s.e], places := if s.e = 0 then c.places ++ [sndAt s] else c.places }
def CsS.begin (c : CsS) (m : Msg) (l : List Msg) : CsS := { c with now := some (sndNew c.base c.size m.1 m.2), left := l }
def csettle : Nat → CsS → CsS
  | 0, c => c
  | n + 1, c => bif csMore c.now then c else match c.left with
    | [] => c.idle
    | m :: l => csettle n (c.idle.begin m l)
structure CsOk (c : CsS) : Prop where
  hb : inK .i64 c.base
  hs : inK .i64 c.size
  hl : ∀ m, m ∈ c.left → m.2.length ≤ 131072
  hn : ∀ s ph, c.now = some (s, ph) → SndOk s
  hc : c.left.length + c.done.length + csN c.now ≤ 64
  hp : c.places.length ≤ c.done.length
theorem CsOk.idle {c : CsS} (h : CsOk c) : CsOk c.idle := by
  obtain ⟨base, size, left, now, places, done⟩ := c
  have hc := h.hc
  have hp := h.hp
  rcases now with _ | ⟨s, ph⟩
  · exact h
  · dsimp only [csN] at hc hp
    refine ⟨h.hb, h.hs, h.hl, fun s ph e => (by cases e), ?_, ?_⟩
    · simp only [CsS.idle, csN, List.length_append, List.length_cons, List.length_nil]; omega
    · simp only [CsS.idle, List.length_append, List.length_cons, List.length_nil]; split <;> simp <;> omega
theorem CsOk.begin {c : CsS} {m : Msg} {l : List Msg} (h : CsOk c) (hn : c.now = none) (hl : c.left = m :: l) : CsOk (c.begin m l) := by
  obtain ⟨base, size, left, now, places, done⟩ := c
  dsimp only at hn hl
  subst hn; subst hl
  have hc := h.hc
  refine ⟨h.hb, h.hs, fun x hx => h.hl x (List.mem_cons_of_mem _ hx), ?_, ?_, h.hp⟩
  · intro s ph e
    simp only [CsS.begin, Option.some.injEq] at e
    have h1 := h.hb
    have h2 := h.hs
    have h3 := h.hl m (List.mem_cons_self ..)
    unfold sndNew at e
    repeat' split at e
    all_goals cases e; exact ⟨h1, h2, h3⟩
  · simp only [CsS.begin, csN, List.length_cons] at hc ⊢; omega
theorem csettle_more {c goal : CsS} {n : Nat} (h : csettle n c = goal) (hm : csMore c.now = true) : goal = c := by
  cases n with
  | zero => exact h.symm
  | succ n => simp only [csettle, hm, cond_true] at h; exact h.symm
theorem csettle_stop {c goal : CsS} {n : Nat} (h : csettle n c = goal) (hn : c.left.length < n) (hm : csMore c.now = false) (hl : c.left = []) : goal = c.idle := by
  cases n with
  | zero => omega
  | succ n => simp only [csettle, hm, cond_false, hl] at h; exact h.symm
theorem csettle_on {c goal : CsS} {n : Nat} {m : Msg} {l : List Msg} (h : csettle n c = goal) (hn : c.left.length < n) (hm : csMore c.now = false) (hl : c.left = m :: l) : ∃ k, n = k + 1 ∧ csettle k (c.idle.begin m l) = goal := by
  cases n with
  | zero => omega
  | succ n => simp only [csettle, hm, cond_false, hl] at h; exact ⟨n, rfl, h⟩
theorem csettle_ok : ∀ (n : Nat) (c : CsS), CsOk c → CsOk (csettle n c) := by
  intro n
  induction n with
  | zero => exact fun _ h => h
  | succ n ih =>
    intro c h
    simp only [csettle]
    cases csMore c.now with
    | true => exact h
    | false =>
      simp only [cond_false]
      split
      · exact h.idle
      · rename_i m l hl
        refine ih _ (h.idle.begin ?_ ?_)
        · unfold CsS.idle; split
          · assumption
          · rfl
        · rw [← hl]; unfold CsS.idle; split <;> rfl
def casterPieces (b : Nat) (c : CsS) (x : CsX) : List HP := [row b 0 [.int .i64 c.base, .int .i64 c.size, .slice x.lp c.left.length x.lc, .pointer (csNowA x.nb c.now), .slice x.pp c.places.length x.pc, .slice x.dp c.done.length x.dc],
  own 2 x.lp c.left.length x.lc (mscells x.l), pack (msinner x.l), csNowRep x.nb c.now, own 1 x.pp c.places.length x.pc (i64s c.places), own 1 x.dp c.done.length x.dc (i64s c.done), fact (msgs x.l = c.left)]
def casterRep (b : Nat) (c : CsS) : HP := ex (casterPieces b c)
theorem Sees.ownCut {H L M : List HP} {es n c l n' : Nat} {p : Option Addr} {xs ys : List Value} (s : Sel H (own es p n c xs) L) (hl : l ≤ n) (en : n - l = n') (ex : xs.drop (l * es) = ys) (r : Sees L M) : Sees H (own es (cutp p l c es) n' (c - l) ys :: M) := by
  subst en; subst ex
  refine .of fun m h => ?_
  have h1 := s.out m h
  have key : Stars (own es (cutp p l c es) (n - l) (c - l) (xs.drop (l * es)) :: L) m := by
    rcases p with _ | ⟨b, off, sp⟩
    · obtain ⟨m1, m2, hd, k1, k2, ho, hL⟩ := h1
      refine ⟨m1, m2, hd, k1, k2, ?_, hL⟩
      unfold Go.Proofs.YtnjljfjncfbinaaGreat.own at ho ⊢
      obtain ⟨hx, ho⟩ := ho
      rcases ho with ⟨_, h0, h0'⟩ | ⟨b, off, sp, e, _⟩
      · subst h0; subst h0'
        exact ⟨by simp [hx], .inl ⟨by unfold cutp; split <;> rfl, by omega, by omega⟩⟩
      · cases e
    · obtain ⟨m1, m2, hd, k1, k2, ho, hL⟩ := h1
      refine ⟨m1, m2, hd, k1, k2, ?_, hL⟩
      unfold Go.Proofs.YtnjljfjncfbinaaGreat.own at ho ⊢
      obtain ⟨hx, ho⟩ := ho
      rcases ho with ⟨h0, _⟩ | ⟨b', off', sp', e, hn, hsp, hr⟩
      · cases h0
      · cases e
        refine ⟨by rw [List.length_drop, hx, Nat.sub_mul], .inr ?_⟩
        have hr1 : row b (off + l * es) (xs.drop (l * es) ++ sp') m1 := by
          unfold row at hr ⊢
          intro i v hv
          have hll : l * es ≤ xs.length := by rw [hx]; exact Nat.mul_le_mul_right _ hl
          have := hr (l * es + i) v (by
            rw [← hv, ← List.take_append_drop (l * es) xs, List.append_assoc, List.getElem?_append_right (by simp; omega)]
            simp [Nat.min_eq_left hll])
          rw [← Nat.add_assoc] at this
          exact this
        by_cases hc : c = l
        · subst hc
          have : n = c := by omega
          subst this
          refine ⟨b, off, [], by unfold cutp; rw [if_pos rfl], by omega, by simp, ?_⟩
          have e0 : xs.drop (n * es) = [] := by rw [List.drop_eq_nil_iff]; omega
          rw [e0]
          unfold row
          intro i v hv; simp at hv
        · exact ⟨b, off + l * es, sp', cutp_some hc, by omega, by rw [hsp, show c - l - (n - l) = c - n from by omega], hr1⟩
  exact key |> fun h => h.skip r.out
theorem openCons {H L A : List HP} {c : HP} {m : Hl} (s : Sel H (pack (c :: A)) L) (h : Stars H m) : Stars (c :: pack A :: L) m := by
  have h1 := s.out m h
  rw [stars_pack] at h1
  exact h1.skip fun m h => stars_pack.2 h

theorem sndResult_raw (ω : World) (b : Nat) (s : SndS) (fp : Option Addr) (fc : Nat) (F : List HP) : Spec ω Tryz.prog 70 #[.pointer (some ⟨b, 0, none⟩)] (row b 0 [.int .i64 0, .int .i64 0, .int .i64 0, .int .u64 0, .int .u64 0, .slice none 0 0, .nilFunc, .int .i64 s.rBase, .int .i64 s.rSize, .int .i32 s.typ, .slice fp s.b.length fc, .int .u64 s.tail, .int .i64 s.e] :: F) fun v' H' => v' = .tuple #[.int .i64 (sndAt s), .int .i64 s.e] ∧ H' = row b 0 [.int .i64 0, .int .i64 0, .int .i64 0, .int .u64 0, .int .u64 0, .slice none 0 0, .nilFunc, .int .i64 s.rBase, .int .i64 s.rSize, .int .i32 s.typ, .slice fp s.b.length fc, .int .u64 s.tail, .int .i64 s.e] :: F := by
  refine spec_of_body Tryz.func70 rfl Tryz.ntmps70 rfl ?_
  refine Cr ?_
  refine Rp rfl (pv_assign rfl) ?_
  refine Rp rfl (pv_assign rfl) ?_
  refine Kn1 0 rfl ?_
  refine ct_seq ?_
  refine ct_block ?_
  refine Cr ?_
  refine Rp rfl (pv_move rfl) ?_
  refine Rp rfl (pv_eql rfl rfl Tryz.runUnderlying120 rfl) ?_
  refine Rp rfl (pv_assign rfl) ?_
  refine Kn2 0 4 rfl ?_
  refine ct_false rfl ?_
  refine Cr ?_
  refine Rp rfl (pv_move rfl) ?_
  refine Rp rfl (pv_nilCheck rfl) ?_
  refine Rp rfl (pv_fieldAddr (k := 12) rfl Tryz.runUnderlying211 rfl Tryz.sizeOf54 rfl rfl) ?_
  refine Rq rfl (oq_load rfl rfl Tryz.isAgg54 Z0 (by rfl) (by rfl)) ?_
  refine Rp rfl (pv_bin rfl rfl rfl) ?_
  refine Rp rfl (pv_assign rfl) ?_
  refine Kn2 0 7 rfl ?_
  refine ct_cond_n rfl (fun hz1 => ?_) (fun hz1 => ?_)
  · skip
    refine ct_seq ?_
    refine ct_planH [.q 0, .q 1, .q 2, .q 3, .q 4, .q 5] mixed (by decide +kernel) ?_
    refine pw_q rfl rfl rfl rfl (oq_pv (pv_move rfl)) ?_
    refine pw_q rfl rfl rfl rfl (oq_pv (pv_nilCheck rfl)) ?_
    refine pw_q rfl rfl rfl rfl (oq_pv (pv_fieldAddr (k := 12) rfl Tryz.runUnderlying211 rfl Tryz.sizeOf54 rfl rfl)) ?_
    refine pw_q rfl rfl rfl rfl (oq_load rfl rfl Tryz.isAgg54 Z0 (by rfl) (by rfl)) ?_
    refine pw_q rfl rfl rfl rfl (oq_pv (pv_assign rfl)) ?_
    refine pw_q rfl rfl rfl rfl (oq_pv (pv_assign rfl)) ?_
    refine pw_done ?_
    refine Kx2 2 3 rfl ?_
    refine ct_ret ?_
    refine xt_ret_block ?_
    refine xt_ret_then ?_
    exact fin_ret (RVs.tmp rfl (RVs.tmp rfl (RVs.nil))) Tryz.results70 ⟨by simp [sndAt, hz1]; rfl, rfl⟩ (Sees.cons Z0 (Sees.refl))
  · skip
    refine ct_skip ?_
    refine xt_normal_block ?_
    refine Kx1 0 rfl ?_
    refine Cr ?_
    refine Rp rfl (pv_move rfl) ?_
    refine Rp rfl (pv_nilCheck rfl) ?_
    refine Rp rfl (pv_fieldAddr (k := 11) rfl Tryz.runUnderlying211 rfl Tryz.sizeOf28 rfl rfl) ?_
    refine Rq rfl (oq_load rfl rfl Tryz.isAgg28 Z0 (by rfl) (by rfl)) ?_
    refine Rp rfl (pv_convert rfl Tryz.runUnderlying28 Tryz.runUnderlying2) ?_
    refine Rp rfl (pv_assign rfl) ?_
    refine Rp rfl (pv_assign rfl) ?_
    refine Kn2 2 3 rfl ?_
    refine ct_ret ?_
    exact fin_ret (RVs.tmp rfl (RVs.tmp rfl (RVs.nil))) Tryz.results70 ⟨by simp [sndAt, hz1]; rfl, rfl⟩ (Sees.cons Z0 (Sees.refl))
theorem sndResult_spec (ω : World) (b : Nat) (s : SndS) (F : List HP) : Spec ω Tryz.prog 70 #[.pointer (some ⟨b, 0, none⟩)] (sndRep b s .fin :: F) fun v' H' => v' = .tuple #[.int .i64 (sndAt s), .int .i64 s.e] ∧ H' = sndRep b s .fin :: F := by
  refine Spec.ex fun x => ?_
  refine Spec.eqH (H1 := row b 0 [.int .i64 0, .int .i64 0, .int .i64 0, .int .u64 0, .int .u64 0, .slice none 0 0, .nilFunc, .int .i64 s.rBase, .int .i64 s.rSize, .int .i32 s.typ, .slice x.fp1 s.b.length x.fc1, .int .u64 s.tail, .int .i64 s.e] :: own 1 x.fp1 s.b.length x.fc1 (byteC s.b) :: F) rfl ?_
  refine (sndResult_raw ω b s x.fp1 x.fc1 (own 1 x.fp1 s.b.length x.fc1 (byteC s.b) :: F)).seesPost ?_
  rintro v H' ⟨rfl, rfl⟩
  exact ⟨_, ⟨rfl, rfl⟩, Sees.ex x Sees.refl⟩
theorem csettle_spec (ω : World) (b : Nat) (c0 : CsS) (x0 : CsX) (n0 : Nat) (goal : CsS) (hg0 : csettle n0 c0 = goal) (hn0 : c0.left.length < n0) (hok0 : CsOk c0) (hl0 : msgs x0.l = c0.left) (F : List HP) : Spec ω Tryz.prog 37 #[.pointer (some ⟨b, 0, none⟩)] (row b 0 [.int .i64 c0.base, .int .i64 c0.size, .slice x0.lp c0.left.length x0.lc, .pointer (csNowA x0.nb c0.now), .slice x0.pp c0.places.length x0.pc, .slice x0.dp c0.done.length x0.dc] :: own 2 x0.lp c0.left.length x0.lc (mscells x0.l) :: pack (msinner x0.l) :: csNowRep x0.nb c0.now :: own 1 x0.pp c0.places.length x0.pc (i64s c0.places) :: own 1 x0.dp c0.done.length x0.dc (i64s c0.done) :: F) fun v' H' => v' = .tuple #[] ∧ Sees H' (casterRep b goal :: F) := by
  refine spec_of_body Tryz.func37 rfl Tryz.ntmps37 rfl ?_
  refine ct_block ?_
  refine ct_loop (α := { q : CsS × CsX × Nat // csettle q.2.2 q.1 = goal ∧ q.1.left.length < q.2.2 ∧ CsOk q.1 ∧ msgs q.2.1.l = q.1.left }) (fun q => [(0, .pointer (some ⟨b, 0, none⟩))]) (fun q => row b 0 [.int .i64 q.1.1.base, .int .i64 q.1.1.size, .slice q.1.2.1.lp q.1.1.left.length q.1.2.1.lc, .pointer (csNowA q.1.2.1.nb q.1.1.now), .slice q.1.2.1.pp q.1.1.places.length q.1.2.1.pc, .slice q.1.2.1.dp q.1.1.done.length q.1.2.1.dc] :: own 2 q.1.2.1.lp q.1.1.left.length q.1.2.1.lc (mscells q.1.2.1.l) :: pack (msinner q.1.2.1.l) :: csNowRep q.1.2.1.nb q.1.1.now :: own 1 q.1.2.1.pp q.1.1.places.length q.1.2.1.pc (i64s q.1.1.places) :: own 1 q.1.2.1.dp q.1.1.done.length q.1.2.1.dc (i64s q.1.1.done) :: F) (fun q => q.1.2.2) ⟨(c0, x0, n0), hg0, hn0, hok0, hl0⟩ (Knows.cons rfl (Knows.nil)) (Sees.refl) ?_
  intro ⟨⟨c, x, n⟩, hg, hn, hok, hl⟩
  obtain ⟨base, size, left, now, places, done⟩ := c
  obtain ⟨lp, lc, l, nb, pp, pc, dp, dc⟩ := x
  dsimp only at hg hn hl ⊢
  subst hl
  have hb := hok.hb
  have hs := hok.hs
  have hp := hok.hp
  have hc := hok.hc
  dsimp only at hb hs hp hc
  rcases now with _ | ⟨s, ph⟩
  · skip
    dsimp only [csNowA, csNowRep, csN] at hc ⊢
    refine ct_block ?_
    refine ct_seq ?_
    refine Cr ?_
    refine Rp rfl (pv_move rfl) ?_
    refine Rp rfl (pv_nilCheck rfl) ?_
    refine Rp rfl (pv_fieldAddr (k := 3) rfl Tryz.runUnderlying123 rfl Tryz.sizeOf120 rfl rfl) ?_
    refine Rq rfl (oq_load rfl rfl Tryz.isAgg120 Z0 (by rfl) (by rfl)) ?_
    refine rl_call rfl rfl (by decide) Tryz.call69 (vs := [_]) rfl Tryz.func69 rfl Tryz.ntmps69 rfl rfl ?_
    refine Cr ?_
    refine Ro rfl (ot_alloc rfl Tryz.zeroValue36 (rfl : _ = [_, _, _, _, _, _])) ?_
    rintro _ _ ⟨b1, rfl, rfl⟩
    refine Rp rfl (pv_assign rfl) ?_
    refine Kn2 0 2 rfl ?_
    refine ct_seq ?_
    refine Cr ?_
    refine Rp rfl (pv_move rfl) ?_
    refine Rp rfl (pv_eql rfl rfl Tryz.runUnderlying120 rfl) ?_
    refine Kn3 0 2 5 rfl ?_
    refine ct_true rfl ?_
    refine Cr ?_
    refine Rp rfl (pv_build (ps := []) (cs := [_, _, _, _, _, _]) rfl Tryz.zeroValue36 Tryz.runUnderlying36 (.cons Tryz.sizeOf3 (.cons Tryz.sizeOf3 (.cons Tryz.sizeOf3 (.cons Tryz.sizeOf28 (.cons Tryz.sizeOf28 (.cons Tryz.sizeOf29 (.nil))))))) rfl) ?_
    refine rl_op0 rfl rfl (ot_store rfl rfl rfl Tryz.sizeOf36 Z0 (rfl : _ = [_, _, _, _, _, _]) rfl (by rfl) (by rfl) (by first | rfl | assumption) (by exact (rfl : _ = [_, _, _, _, _, _]))) ?_
    rintro _ _ rfl
    refine Rp rfl (pv_assign rfl) ?_
    refine Kn2 2 3 rfl ?_
    refine ct_ret ?_
    refine xt_ret_then ?_
    refine fin_ret (RVs.agg (us := [_, _, _, _, _, _]) rfl Tryz.isAgg36 Tryz.sizeOf36 Z0 (by rfl) (by rfl) (by rfl) (RVs.tmp rfl (RVs.nil))) Tryz.results69 ?_ Sees.refl
    refine Rp rfl (pv_move rfl) ?_
    refine Rp rfl (pv_extract rfl rfl) ?_
    refine Rp rfl (pv_extract rfl rfl) ?_
    refine Ro rfl (ot_alloc rfl Tryz.zeroValue36 (rfl : _ = [_, _, _, _, _, _])) ?_
    rintro _ _ ⟨b2, rfl, rfl⟩
    refine rl_op0 rfl rfl (ot_store rfl rfl rfl Tryz.sizeOf36 Z0 (rfl : _ = [_, _, _, _, _, _]) rfl (by rfl) (by rfl) (by first | rfl | assumption) (by exact (rfl : _ = [_, _, _, _, _, _]))) ?_
    rintro _ _ rfl
    refine Rp rfl (pv_assign rfl) ?_
    refine Kn2 0 3 rfl ?_
    refine Cr ?_
    refine Rp rfl (pv_move rfl) ?_
    refine Kn2 0 14 rfl ?_
    refine ct_false rfl ?_
    refine ct_skip ?_
    refine Kx1 0 rfl ?_
    refine ct_seq ?_
    refine Cr ?_
    refine Rp rfl (pv_move rfl) ?_
    refine Rp rfl (pv_nilCheck rfl) ?_
    refine Rp rfl (pv_fieldAddr (k := 3) rfl Tryz.runUnderlying123 rfl Tryz.sizeOf120 rfl rfl) ?_
    refine Rq rfl (oq_load rfl rfl Tryz.isAgg120 Z2 (by rfl) (by rfl)) ?_
    refine Rp rfl (pv_neq rfl rfl Tryz.runUnderlying120 rfl) ?_
    refine Kn2 0 19 rfl ?_
    refine ct_false rfl ?_
    refine ct_skip ?_
    refine Kx1 0 rfl ?_
    refine ct_seq ?_
    refine Cr ?_
    refine Rp rfl (pv_move rfl) ?_
    refine Rp rfl (pv_nilCheck rfl) ?_
    refine Rp rfl (pv_fieldAddr (k := 3) rfl Tryz.runUnderlying123 rfl Tryz.sizeOf120 rfl rfl) ?_
    refine rl_op0 rfl rfl (ot_store rfl rfl rfl Tryz.sizeOf120 Z2 (rfl : _ = [_]) rfl (by rfl) (by rfl) (by first | rfl | assumption) (by exact (rfl : _ = [_, _, _, _, _, _]))) ?_
    rintro _ _ rfl
    refine Kn1 0 rfl ?_
    refine Cr ?_
    refine Rp rfl (pv_move rfl) ?_
    refine Rp rfl (pv_nilCheck rfl) ?_
    refine Rp rfl (pv_fieldAddr (k := 2) rfl Tryz.runUnderlying123 rfl Tryz.sizeOf51 rfl rfl) ?_
    refine Rq rfl (oq_load rfl rfl Tryz.isAgg51 Z0 (by rfl) (by rfl)) ?_
    refine Rp rfl (pv_len_slice rfl rfl Tryz.runUnderlying51) ?_
    refine Rp rfl (pv_bin rfl rfl rfl) ?_
    refine Kn2 0 58 rfl ?_
    refine ct_cond_d rfl (fun hz3 => ?_) (fun hz3 => ?_)
    · skip
      have hl0 : msgs l = [] := List.eq_nil_of_length_eq_zero (by omega)
      refine ct_ret ?_
      refine xt_ret_then ?_
      refine xt_ret_block ?_
      refine xt_ret_then ?_
      refine xt_ret_block ?_
      have egoal := csettle_stop hg hn rfl hl0
      have hb9 : CsS.idle (⟨base, size, msgs l, none, places, done⟩ : CsS) = ⟨base, size, msgs l, none, places, done⟩ := by rfl
      rw [hb9] at egoal
      subst egoal
      refine fin_ret (RVs.nil) Tryz.results37 ⟨rfl, ?_⟩ Sees.refl
      refine Sees.ex ⟨lp, lc, l, 0, pp, pc, dp, dc⟩ ?_
      dsimp only [casterPieces, csNowA, csNowRep, List.cons_append, List.nil_append]
      exact Sees.cons Z0 (Sees.cons Z2 (Sees.cons Z2 (Sees.fact trivial (Sees.cons Z3 (Sees.cons Z3 (Sees.fact rfl (Sees.skip (Sees.skip (Sees.skip (Sees.refl))))))))))
    · skip
      obtain ⟨⟨⟨ty, d⟩, mp, mc⟩, r, rfl⟩ : ∃ y r, l = y :: r := by rcases l with _ | ⟨y, r⟩; (exact absurd rfl hz3); exact ⟨y, r, rfl⟩
      have hd : d.length ≤ 131072 := hok.hl (ty, d) (List.mem_cons_self ..)
      refine ct_own Z3 (fun _ ho2 ho3 => ?_)
      obtain ⟨lb, lo, rfl⟩ : ∃ b o, lp = some ⟨b, o, none⟩ := by rcases ho3 with ho3 | ho3; (exfalso; have := ho3.2.1; simp [msgs] at this); exact ho3
      replace ho2 : (msgs r).length + 1 ≤ lc := ho2
      refine ct_imp (fun μ h => openCons Z4 h) ?_
      refine ct_skip ?_
      refine Kx1 0 rfl ?_
      refine ct_seq ?_
      refine ct_planH [.q 0, .q 1, .q 2, .q 3, .q 4, .q 5, .q 6, .q 7, .q 8, .q 9, .q 10, .q 11, .q 12, .q 13, .q 14, .q 15, .q 16, .q 17, .q 18, .e 19, .q 20, .q 21, .b 22] mixed (by decide +kernel) ?_
      refine pw_q rfl rfl rfl rfl (oq_pv (pv_move rfl)) ?_
      refine pw_q rfl rfl rfl rfl (oq_pv (pv_move rfl)) ?_
      refine pw_q rfl rfl rfl rfl (oq_pv (pv_nilCheck rfl)) ?_
      refine pw_q rfl rfl rfl rfl (oq_pv (pv_fieldAddr (k := 0) rfl Tryz.runUnderlying123 rfl Tryz.sizeOf23 rfl rfl)) ?_
      refine pw_q rfl rfl rfl rfl (oq_loadAgg (us := [_, _]) rfl rfl Tryz.isAgg23 Tryz.sizeOf23 Z2 (by rfl) (by rfl) (by rfl)) ?_
      refine pw_q rfl rfl rfl rfl (oq_pv (pv_move rfl)) ?_
      refine pw_q rfl rfl rfl rfl (oq_pv (pv_nilCheck rfl)) ?_
      refine pw_q rfl rfl rfl rfl (oq_pv (pv_fieldAddr (k := 2) rfl Tryz.runUnderlying123 rfl Tryz.sizeOf51 rfl rfl)) ?_
      refine pw_q rfl rfl rfl rfl (oq_load rfl rfl Tryz.isAgg51 Z2 (by rfl) (by rfl)) ?_
      refine pw_q rfl rfl rfl rfl (oq_pv (pv_indexAddrN (j := 0) rfl rfl Tryz.runUnderlying51 Tryz.sizeOf74 rfl (Nat.succ_pos _))) ?_
      refine pw_q rfl rfl rfl rfl (oq_pv (pv_fieldAddr (k := lo + 0 * 2 + 0) rfl Tryz.runUnderlying74 rfl Tryz.sizeOf21 rfl rfl)) ?_
      refine pw_q rfl rfl rfl rfl (oq_loadOwn rfl rfl Tryz.isAgg21 Z5 (j := 0) rfl rfl) ?_
      refine pw_q rfl rfl rfl rfl (oq_pv (pv_move rfl)) ?_
      refine pw_q rfl rfl rfl rfl (oq_pv (pv_nilCheck rfl)) ?_
      refine pw_q rfl rfl rfl rfl (oq_pv (pv_fieldAddr (k := 2) rfl Tryz.runUnderlying123 rfl Tryz.sizeOf51 rfl rfl)) ?_
      refine pw_q rfl rfl rfl rfl (oq_load rfl rfl Tryz.isAgg51 Z2 (by rfl) (by rfl)) ?_
      refine pw_q rfl rfl rfl rfl (oq_pv (pv_indexAddrN (j := 0) rfl rfl Tryz.runUnderlying51 Tryz.sizeOf74 rfl (Nat.succ_pos _))) ?_
      refine pw_q rfl rfl rfl rfl (oq_pv (pv_fieldAddr (k := lo + 0 * 2 + 1) rfl Tryz.runUnderlying74 rfl Tryz.sizeOf29 rfl rfl)) ?_
      refine pw_q rfl rfl rfl rfl (oq_loadOwn rfl rfl Tryz.isAgg29 Z5 (j := 1) rfl rfl) ?_
      refine pw_e rfl rfl rfl rfl (ot_call rfl Tryz.call71 (vs := [_, _, _]) rfl (Sees.cons Z0 (Sees.refl)) (sndNew_eq _ base size ty d hb hs hd mp mc _ rd_own _)) ?_
      rintro _ _ ⟨nb4, rfl, rfl⟩
      refine ⟨[_], Sees.cons Z0 (Sees.cons Z0 (Sees.cons Z0 (Sees.cons Z0 (Sees.cons Z0 (Sees.cons Z0 (Sees.cons Z0 (Sees.cons Z0 (Sees.cons Z0 (Sees.cons Z0 (Sees.refl)))))))))), ?_⟩
      refine pw_q rfl rfl rfl rfl (oq_pv (pv_nilCheck rfl)) ?_
      refine pw_q rfl rfl rfl rfl (oq_pv (pv_fieldAddr (k := 3) rfl Tryz.runUnderlying123 rfl Tryz.sizeOf120 rfl rfl)) ?_
      refine pw_b0 rfl rfl rfl (ot_store rfl rfl rfl Tryz.sizeOf120 Z3 (rfl : _ = [_]) rfl (by rfl) (by rfl) (by first | rfl | assumption) (by exact (rfl : _ = [_, _, _, _, _, _]))) ?_
      rintro _ _ rfl
      refine pw_done ?_
      refine Kx1 0 rfl ?_
      refine ct_region ?_
      refine Rp rfl (pv_move rfl) ?_
      refine Rp rfl (pv_move rfl) ?_
      refine Rp rfl (pv_nilCheck rfl) ?_
      refine Rp rfl (pv_fieldAddr (k := 2) rfl Tryz.runUnderlying123 rfl Tryz.sizeOf51 rfl rfl) ?_
      refine Rq rfl (oq_load rfl rfl Tryz.isAgg51 Z0 (by rfl) (by rfl)) ?_
      refine Rp rfl (pv_slice (l := 1) (h := (msgs r).length + 1) (m := lc) rfl ⟨_, _, rfl, rfl⟩ rfl rfl Tryz.runUnderlying51 Tryz.sizeOf74 (Nat.le_add_left 1 _) ho2 (Nat.le_refl _) (by simp)) ?_
      refine Rp rfl (pv_nilCheck rfl) ?_
      refine Rp rfl (pv_fieldAddr (k := 2) rfl Tryz.runUnderlying123 rfl Tryz.sizeOf51 rfl rfl) ?_
      refine rl_op0 rfl rfl (ot_store rfl rfl rfl Tryz.sizeOf51 Z0 (rfl : _ = [_]) rfl (by rfl) (by rfl) (by first | rfl | assumption) (by exact (rfl : _ = [_, _, _, _, _, _]))) ?_
      rintro _ _ rfl
      refine rl_nil ?_
      refine xt_normal_block ?_
      obtain ⟨k, rfl, hg9⟩ := csettle_on (m := (ty, d)) (l := msgs r) hg hn rfl rfl
      have hb9 : CsS.idle (⟨base, size, msgs (((ty, d), mp, mc) :: r), none, places, done⟩ : CsS) = ⟨base, size, msgs (((ty, d), mp, mc) :: r), none, places, done⟩ := by rfl
      have hk9 := hok.idle
      rw [hb9] at hk9 hg9
      have hk8 := hk9.begin (m := (ty, d)) (l := msgs r) rfl rfl
      exact xt_round (α := { q : CsS × CsX × Nat // csettle q.2.2 q.1 = goal ∧ q.1.left.length < q.2.2 ∧ CsOk q.1 ∧ msgs q.2.1.l = q.1.left }) (E' := fun q => [(0, .pointer (some ⟨b, 0, none⟩))]) (H' := fun q => row b 0 [.int .i64 q.1.1.base, .int .i64 q.1.1.size, .slice q.1.2.1.lp q.1.1.left.length q.1.2.1.lc, .pointer (csNowA q.1.2.1.nb q.1.1.now), .slice q.1.2.1.pp q.1.1.places.length q.1.2.1.pc, .slice q.1.2.1.dp q.1.1.done.length q.1.2.1.dc] :: own 2 q.1.2.1.lp q.1.1.left.length q.1.2.1.lc (mscells q.1.2.1.l) :: pack (msinner q.1.2.1.l) :: csNowRep q.1.2.1.nb q.1.1.now :: own 1 q.1.2.1.pp q.1.1.places.length q.1.2.1.pc (i64s q.1.1.places) :: own 1 q.1.2.1.dp q.1.1.done.length q.1.2.1.dc (i64s q.1.1.done) :: F) (μ := fun q => q.1.2.2) (p := ⟨(_, ⟨(some ⟨lb, lo, none⟩), lc, ((ty, d), mp, mc) :: r, nb, pp, pc, dp, dc⟩, _), hg, hn, hok, rfl⟩) (⟨(⟨base, size, msgs r, some (sndNew base size ty d), places, done⟩, ⟨cutp (some ⟨lb, lo, none⟩) 1 lc 2, lc - 1, r, nb4, pp, pc, dp, dc⟩, k), hg9, Nat.lt_of_succ_lt_succ hn, hk8, rfl⟩) (Nat.lt_succ_self _) (Knows.cons rfl (Knows.nil)) (by dsimp only [csNowA, csNowRep]; exact Sees.cons Z0 (Sees.ownCut Z5 (Nat.le_add_left 1 _) rfl rfl (Sees.cons Z2 (Sees.cons Z0 (Sees.cons Z4 (Sees.cons Z4 (Sees.skip (Sees.skip (Sees.skip (Sees.skip (Sees.refl)))))))))))
  · skip
    dsimp only [csNowA, csNowRep, csN] at hc ⊢
    have hc0 : (msgs l).length + done.length + 1 ≤ 64 := hc
    refine ct_block ?_
    refine ct_seq ?_
    refine Cr ?_
    refine Rp rfl (pv_move rfl) ?_
    refine Rp rfl (pv_nilCheck rfl) ?_
    refine Rp rfl (pv_fieldAddr (k := 3) rfl Tryz.runUnderlying123 rfl Tryz.sizeOf120 rfl rfl) ?_
    refine Rq rfl (oq_load rfl rfl Tryz.isAgg120 Z0 (by rfl) (by rfl)) ?_
    refine Ro rfl (ot_call rfl Tryz.call69 (vs := [_]) rfl (Sees.cons Z3 (Sees.refl)) (sndNext_gen _ nb s ph _)) ?_
    rintro _ _ ⟨a, more, Xm, pm, mm, cm, rfl, hrep, hW, rfl⟩
    refine Rp rfl (pv_move rfl) ?_
    refine Rp rfl (pv_extract rfl rfl) ?_
    refine Rp rfl (pv_extract rfl rfl) ?_
    refine Ro rfl (ot_alloc rfl Tryz.zeroValue36 (rfl : _ = [_, _, _, _, _, _])) ?_
    rintro _ _ ⟨b5, rfl, rfl⟩
    refine rl_op0 rfl rfl (ot_store rfl rfl rfl Tryz.sizeOf36 Z0 (rfl : _ = [_, _, _, _, _, _]) rfl (by rfl) (by rfl) (by first | rfl | assumption) (by exact (rfl : _ = [_, _, _, _, _, _]))) ?_
    rintro _ _ rfl
    refine Rp rfl (pv_assign rfl) ?_
    refine Kn2 0 3 rfl ?_
    refine Cr ?_
    refine Rp rfl (pv_move rfl) ?_
    refine Kn2 0 14 rfl ?_
    refine ct_cond rfl (fun hz6 => ?_) (fun hz6 => ?_)
    · skip
      subst hz6
      have hm : csMore (some (s, ph)) = true := by show (sndWant ph).isSome = true; rw [hW]; rfl
      refine ct_ret ?_
      refine xt_ret_then ?_
      refine xt_ret_block ?_
      refine xt_ret_then ?_
      refine xt_ret_block ?_
      have egoal := csettle_more hg hm
      subst egoal
      refine fin_ret (RVs.nil) Tryz.results37 ⟨rfl, ?_⟩ Sees.refl
      refine Sees.ex ⟨lp, lc, l, nb, pp, pc, dp, dc⟩ ?_
      dsimp only [casterPieces, csNowA, csNowRep, List.cons_append, List.nil_append]
      exact Sees.cons Z2 (Sees.cons Z2 (Sees.cons Z2 (Sees.consI Z1 hrep (Sees.cons Z1 (Sees.cons Z1 (Sees.fact rfl (Sees.skip (Sees.refl))))))))
    · skip
      subst hz6
      have hph : ph = .fin := sndWant_none hW
      subst hph
      refine ct_imp (Sees.consI Z1 hrep .refl).out ?_
      refine ct_skip ?_
      refine Kx1 0 rfl ?_
      refine ct_seq ?_
      refine Cr ?_
      refine Rp rfl (pv_move rfl) ?_
      refine Rp rfl (pv_nilCheck rfl) ?_
      refine Rp rfl (pv_fieldAddr (k := 3) rfl Tryz.runUnderlying123 rfl Tryz.sizeOf120 rfl rfl) ?_
      refine Rq rfl (oq_load rfl rfl Tryz.isAgg120 Z2 (by rfl) (by rfl)) ?_
      refine Rp rfl (pv_neq rfl rfl Tryz.runUnderlying120 rfl) ?_
      refine Kn2 0 19 rfl ?_
      refine ct_true rfl ?_
      refine Cr ?_
      refine Rp rfl (pv_move rfl) ?_
      refine Rp rfl (pv_nilCheck rfl) ?_
      refine Rp rfl (pv_fieldAddr (k := 3) rfl Tryz.runUnderlying123 rfl Tryz.sizeOf120 rfl rfl) ?_
      refine Rq rfl (oq_load rfl rfl Tryz.isAgg120 Z2 (by rfl) (by rfl)) ?_
      refine Ro rfl (ot_call rfl Tryz.call70 (vs := [_]) rfl (Sees.cons Z0 (Sees.refl)) (sndResult_spec _ nb s _)) ?_
      rintro _ _ ⟨rfl, rfl⟩
      refine Rp rfl (pv_move rfl) ?_
      refine Rp rfl (pv_extract rfl rfl) ?_
      refine Rp rfl (pv_extract rfl rfl) ?_
      refine Rp rfl (pv_assign rfl) ?_
      refine Rp rfl (pv_assign rfl) ?_
      refine Kn3 0 4 5 rfl ?_
      refine Cr ?_
      refine Rp rfl (pv_move rfl) ?_
      refine Rp rfl (pv_move rfl) ?_
      refine Rp rfl (pv_nilCheck rfl) ?_
      refine Rp rfl (pv_fieldAddr (k := 5) rfl Tryz.runUnderlying123 rfl Tryz.sizeOf121 rfl rfl) ?_
      refine Rq rfl (oq_load rfl rfl Tryz.isAgg121 Z2 (by rfl) (by rfl)) ?_
      refine Rp rfl (pv_move rfl) ?_
      refine Ro rfl (ot_buildSlice1 rfl rfl Tryz.runUnderlying121 Tryz.sizeOf54 Tryz.zeroValue54 rfl rfl (rfl : _ = [_]) rfl) ?_
      rintro _ _ ⟨b7, rfl, rfl⟩
      refine Ro rfl (ot_append (by_ := 8) rfl rfl rfl Tryz.runUnderlying121 Tryz.runUnderlying121 Tryz.sizeOf54 Tryz.typeInfo54 rfl Tryz.zeroValue54 rfl (by decide) Z7 Z0 (rd_own) (by rfl) (by omega)) ?_
      rintro _ _ ⟨p8, c9, rfl, rfl⟩
      refine Rp rfl (pv_nilCheck rfl) ?_
      refine Rp rfl (pv_fieldAddr (k := 5) rfl Tryz.runUnderlying123 rfl Tryz.sizeOf121 rfl rfl) ?_
      refine rl_op0 rfl rfl (ot_store rfl rfl rfl Tryz.sizeOf121 Z4 (rfl : _ = [_]) rfl (by rfl) (by rfl) (by first | rfl | assumption) (by exact (rfl : _ = [_, _, _, _, _, _]))) ?_
      rintro _ _ rfl
      refine Kn3 0 4 5 rfl ?_
      refine Cr ?_
      refine Rp rfl (pv_move rfl) ?_
      refine Rp rfl (pv_bin rfl rfl rfl) ?_
      refine Kn3 0 4 39 rfl ?_
      refine ct_cond_d rfl (fun hz10 => ?_) (fun hz10 => ?_)
      · skip
        refine ct_region ?_
        refine Rp rfl (pv_move rfl) ?_
        refine Rp rfl (pv_move rfl) ?_
        refine Rp rfl (pv_nilCheck rfl) ?_
        refine Rp rfl (pv_fieldAddr (k := 4) rfl Tryz.runUnderlying123 rfl Tryz.sizeOf71 rfl rfl) ?_
        refine Rq rfl (oq_load rfl rfl Tryz.isAgg71 Z0 (by rfl) (by rfl)) ?_
        refine Rp rfl (pv_move rfl) ?_
        refine Ro rfl (ot_buildSlice1 rfl rfl Tryz.runUnderlying71 Tryz.sizeOf2 Tryz.zeroValue2 rfl rfl (rfl : _ = [_]) rfl) ?_
        rintro _ _ ⟨b11, rfl, rfl⟩
        refine Ro rfl (ot_append (by_ := 8) rfl rfl rfl Tryz.runUnderlying71 Tryz.runUnderlying71 Tryz.sizeOf2 Tryz.typeInfo2 rfl Tryz.zeroValue2 rfl (by decide) Z8 Z0 (rd_own) (by rfl) (by omega)) ?_
        rintro _ _ ⟨p12, c13, rfl, rfl⟩
        refine Rp rfl (pv_nilCheck rfl) ?_
        refine Rp rfl (pv_fieldAddr (k := 4) rfl Tryz.runUnderlying123 rfl Tryz.sizeOf71 rfl rfl) ?_
        refine rl_op0 rfl rfl (ot_store rfl rfl rfl Tryz.sizeOf71 Z2 (rfl : _ = [_]) rfl (by rfl) (by rfl) (by first | rfl | assumption) (by exact (rfl : _ = [_, _, _, _, _, _]))) ?_
        rintro _ _ rfl
        refine Kn1 0 rfl ?_
        refine ct_seq ?_
        refine Cr ?_
        refine Rp rfl (pv_move rfl) ?_
        refine Rp rfl (pv_nilCheck rfl) ?_
        refine Rp rfl (pv_fieldAddr (k := 3) rfl Tryz.runUnderlying123 rfl Tryz.sizeOf120 rfl rfl) ?_
        refine rl_op0 rfl rfl (ot_store rfl rfl rfl Tryz.sizeOf120 Z0 (rfl : _ = [_]) rfl (by rfl) (by rfl) (by first | rfl | assumption) (by exact (rfl : _ = [_, _, _, _, _, _]))) ?_
        rintro _ _ rfl
        refine Kn1 0 rfl ?_
        refine Cr ?_
        refine Rp rfl (pv_move rfl) ?_
        refine Rp rfl (pv_nilCheck rfl) ?_
        refine Rp rfl (pv_fieldAddr (k := 2) rfl Tryz.runUnderlying123 rfl Tryz.sizeOf51 rfl rfl) ?_
        refine Rq rfl (oq_load rfl rfl Tryz.isAgg51 Z0 (by rfl) (by rfl)) ?_
        refine Rp rfl (pv_len_slice rfl rfl Tryz.runUnderlying51) ?_
        refine Rp rfl (pv_bin rfl rfl rfl) ?_
        refine Kn2 0 58 rfl ?_
        refine ct_cond_d rfl (fun hz14 => ?_) (fun hz14 => ?_)
        · skip
          have hl0 : msgs l = [] := List.eq_nil_of_length_eq_zero (by omega)
          refine ct_ret ?_
          refine xt_ret_then ?_
          refine xt_ret_block ?_
          refine xt_ret_then ?_
          refine xt_ret_block ?_
          have egoal := csettle_stop hg hn rfl hl0
          have hb9 : CsS.idle (⟨base, size, msgs l, some (s, .fin), places, done⟩ : CsS) = ⟨base, size, msgs l, none, places ++ [sndAt s], done ++ [s.e]⟩ := by simp [CsS.idle, hz10]
          rw [hb9] at egoal
          subst egoal
          refine fin_ret (RVs.nil) Tryz.results37 ⟨rfl, ?_⟩ Sees.refl
          refine Sees.ex ⟨lp, lc, l, 0, p12, c13, p8, c9⟩ ?_
          dsimp only [casterPieces, csNowA, csNowRep, List.cons_append, List.nil_append]
          rw [len_snoc done, i64s_snoc done, len_snoc places, i64s_snoc places]
          exact Sees.cons Z0 (Sees.cons Z6 (Sees.cons Z6 (Sees.fact trivial (Sees.cons Z0 (Sees.cons Z1 (Sees.fact rfl (Sees.skip (Sees.skip (Sees.skip (Sees.skip (Sees.refl)))))))))))
        · skip
          obtain ⟨⟨⟨ty, d⟩, mp, mc⟩, r, rfl⟩ : ∃ y r, l = y :: r := by rcases l with _ | ⟨y, r⟩; (exact absurd rfl hz14); exact ⟨y, r, rfl⟩
          have hd : d.length ≤ 131072 := hok.hl (ty, d) (List.mem_cons_self ..)
          refine ct_own Z7 (fun _ ho2 ho3 => ?_)
          obtain ⟨lb, lo, rfl⟩ : ∃ b o, lp = some ⟨b, o, none⟩ := by rcases ho3 with ho3 | ho3; (exfalso; have := ho3.2.1; simp [msgs] at this); exact ho3
          replace ho2 : (msgs r).length + 1 ≤ lc := ho2
          refine ct_imp (fun μ h => openCons Z8 h) ?_
          refine ct_skip ?_
          refine Kx1 0 rfl ?_
          refine ct_seq ?_
          refine ct_planH [.q 0, .q 1, .q 2, .q 3, .q 4, .q 5, .q 6, .q 7, .q 8, .q 9, .q 10, .q 11, .q 12, .q 13, .q 14, .q 15, .q 16, .q 17, .q 18, .e 19, .q 20, .q 21, .b 22] mixed (by decide +kernel) ?_
          refine pw_q rfl rfl rfl rfl (oq_pv (pv_move rfl)) ?_
          refine pw_q rfl rfl rfl rfl (oq_pv (pv_move rfl)) ?_
          refine pw_q rfl rfl rfl rfl (oq_pv (pv_nilCheck rfl)) ?_
          refine pw_q rfl rfl rfl rfl (oq_pv (pv_fieldAddr (k := 0) rfl Tryz.runUnderlying123 rfl Tryz.sizeOf23 rfl rfl)) ?_
          refine pw_q rfl rfl rfl rfl (oq_loadAgg (us := [_, _]) rfl rfl Tryz.isAgg23 Tryz.sizeOf23 Z2 (by rfl) (by rfl) (by rfl)) ?_
          refine pw_q rfl rfl rfl rfl (oq_pv (pv_move rfl)) ?_
          refine pw_q rfl rfl rfl rfl (oq_pv (pv_nilCheck rfl)) ?_
          refine pw_q rfl rfl rfl rfl (oq_pv (pv_fieldAddr (k := 2) rfl Tryz.runUnderlying123 rfl Tryz.sizeOf51 rfl rfl)) ?_
          refine pw_q rfl rfl rfl rfl (oq_load rfl rfl Tryz.isAgg51 Z2 (by rfl) (by rfl)) ?_
          refine pw_q rfl rfl rfl rfl (oq_pv (pv_indexAddrN (j := 0) rfl rfl Tryz.runUnderlying51 Tryz.sizeOf74 rfl (Nat.succ_pos _))) ?_
          refine pw_q rfl rfl rfl rfl (oq_pv (pv_fieldAddr (k := lo + 0 * 2 + 0) rfl Tryz.runUnderlying74 rfl Tryz.sizeOf21 rfl rfl)) ?_
          refine pw_q rfl rfl rfl rfl (oq_loadOwn rfl rfl Tryz.isAgg21 Z9 (j := 0) rfl rfl) ?_
          refine pw_q rfl rfl rfl rfl (oq_pv (pv_move rfl)) ?_
          refine pw_q rfl rfl rfl rfl (oq_pv (pv_nilCheck rfl)) ?_
          refine pw_q rfl rfl rfl rfl (oq_pv (pv_fieldAddr (k := 2) rfl Tryz.runUnderlying123 rfl Tryz.sizeOf51 rfl rfl)) ?_
          refine pw_q rfl rfl rfl rfl (oq_load rfl rfl Tryz.isAgg51 Z2 (by rfl) (by rfl)) ?_
          refine pw_q rfl rfl rfl rfl (oq_pv (pv_indexAddrN (j := 0) rfl rfl Tryz.runUnderlying51 Tryz.sizeOf74 rfl (Nat.succ_pos _))) ?_
          refine pw_q rfl rfl rfl rfl (oq_pv (pv_fieldAddr (k := lo + 0 * 2 + 1) rfl Tryz.runUnderlying74 rfl Tryz.sizeOf29 rfl rfl)) ?_
          refine pw_q rfl rfl rfl rfl (oq_loadOwn rfl rfl Tryz.isAgg29 Z9 (j := 1) rfl rfl) ?_
          refine pw_e rfl rfl rfl rfl (ot_call rfl Tryz.call71 (vs := [_, _, _]) rfl (Sees.cons Z0 (Sees.refl)) (sndNew_eq _ base size ty d hb hs hd mp mc _ rd_own _)) ?_
          rintro _ _ ⟨nb15, rfl, rfl⟩
          refine ⟨[_], Sees.cons Z0 (Sees.cons Z0 (Sees.cons Z0 (Sees.cons Z0 (Sees.cons Z0 (Sees.cons Z0 (Sees.cons Z0 (Sees.cons Z0 (Sees.cons Z0 (Sees.cons Z0 (Sees.cons Z0 (Sees.refl))))))))))), ?_⟩
          refine pw_q rfl rfl rfl rfl (oq_pv (pv_nilCheck rfl)) ?_
          refine pw_q rfl rfl rfl rfl (oq_pv (pv_fieldAddr (k := 3) rfl Tryz.runUnderlying123 rfl Tryz.sizeOf120 rfl rfl)) ?_
          refine pw_b0 rfl rfl rfl (ot_store rfl rfl rfl Tryz.sizeOf120 Z3 (rfl : _ = [_]) rfl (by rfl) (by rfl) (by first | rfl | assumption) (by exact (rfl : _ = [_, _, _, _, _, _]))) ?_
          rintro _ _ rfl
          refine pw_done ?_
          refine Kx1 0 rfl ?_
          refine ct_region ?_
          refine Rp rfl (pv_move rfl) ?_
          refine Rp rfl (pv_move rfl) ?_
          refine Rp rfl (pv_nilCheck rfl) ?_
          refine Rp rfl (pv_fieldAddr (k := 2) rfl Tryz.runUnderlying123 rfl Tryz.sizeOf51 rfl rfl) ?_
          refine Rq rfl (oq_load rfl rfl Tryz.isAgg51 Z0 (by rfl) (by rfl)) ?_
          refine Rp rfl (pv_slice (l := 1) (h := (msgs r).length + 1) (m := lc) rfl ⟨_, _, rfl, rfl⟩ rfl rfl Tryz.runUnderlying51 Tryz.sizeOf74 (Nat.le_add_left 1 _) ho2 (Nat.le_refl _) (by simp)) ?_
          refine Rp rfl (pv_nilCheck rfl) ?_
          refine Rp rfl (pv_fieldAddr (k := 2) rfl Tryz.runUnderlying123 rfl Tryz.sizeOf51 rfl rfl) ?_
          refine rl_op0 rfl rfl (ot_store rfl rfl rfl Tryz.sizeOf51 Z0 (rfl : _ = [_]) rfl (by rfl) (by rfl) (by first | rfl | assumption) (by exact (rfl : _ = [_, _, _, _, _, _]))) ?_
          rintro _ _ rfl
          refine rl_nil ?_
          refine xt_normal_block ?_
          obtain ⟨k, rfl, hg9⟩ := csettle_on (m := (ty, d)) (l := msgs r) hg hn rfl rfl
          have hb9 : CsS.idle (⟨base, size, msgs (((ty, d), mp, mc) :: r), some (s, .fin), places, done⟩ : CsS) = ⟨base, size, msgs (((ty, d), mp, mc) :: r), none, places ++ [sndAt s], done ++ [s.e]⟩ := by simp [CsS.idle, hz10]
          have hk9 := hok.idle
          rw [hb9] at hk9 hg9
          have hk8 := hk9.begin (m := (ty, d)) (l := msgs r) rfl rfl
          exact xt_round (α := { q : CsS × CsX × Nat // csettle q.2.2 q.1 = goal ∧ q.1.left.length < q.2.2 ∧ CsOk q.1 ∧ msgs q.2.1.l = q.1.left }) (E' := fun q => [(0, .pointer (some ⟨b, 0, none⟩))]) (H' := fun q => row b 0 [.int .i64 q.1.1.base, .int .i64 q.1.1.size, .slice q.1.2.1.lp q.1.1.left.length q.1.2.1.lc, .pointer (csNowA q.1.2.1.nb q.1.1.now), .slice q.1.2.1.pp q.1.1.places.length q.1.2.1.pc, .slice q.1.2.1.dp q.1.1.done.length q.1.2.1.dc] :: own 2 q.1.2.1.lp q.1.1.left.length q.1.2.1.lc (mscells q.1.2.1.l) :: pack (msinner q.1.2.1.l) :: csNowRep q.1.2.1.nb q.1.1.now :: own 1 q.1.2.1.pp q.1.1.places.length q.1.2.1.pc (i64s q.1.1.places) :: own 1 q.1.2.1.dp q.1.1.done.length q.1.2.1.dc (i64s q.1.1.done) :: F) (μ := fun q => q.1.2.2) (p := ⟨(_, ⟨(some ⟨lb, lo, none⟩), lc, ((ty, d), mp, mc) :: r, nb, pp, pc, dp, dc⟩, _), hg, hn, hok, rfl⟩) (⟨(⟨base, size, msgs r, some (sndNew base size ty d), places ++ [sndAt s], done ++ [s.e]⟩, ⟨cutp (some ⟨lb, lo, none⟩) 1 lc 2, lc - 1, r, nb15, p12, c13, p8, c9⟩, k), hg9, Nat.lt_of_succ_lt_succ hn, hk8, rfl⟩) (Nat.lt_succ_self _) (Knows.cons rfl (Knows.nil)) (by dsimp only [csNowA, csNowRep]; rw [len_snoc done, i64s_snoc done, len_snoc places, i64s_snoc places]; exact Sees.cons Z0 (Sees.ownCut Z9 (Nat.le_add_left 1 _) rfl rfl (Sees.cons Z2 (Sees.cons Z0 (Sees.cons Z1 (Sees.cons Z2 (Sees.skip (Sees.skip (Sees.skip (Sees.skip (Sees.skip (Sees.refl))))))))))))
      · skip
        refine ct_skip ?_
        refine Kx1 0 rfl ?_
        refine ct_seq ?_
        refine Cr ?_
        refine Rp rfl (pv_move rfl) ?_
        refine Rp rfl (pv_nilCheck rfl) ?_
        refine Rp rfl (pv_fieldAddr (k := 3) rfl Tryz.runUnderlying123 rfl Tryz.sizeOf120 rfl rfl) ?_
        refine rl_op0 rfl rfl (ot_store rfl rfl rfl Tryz.sizeOf120 Z0 (rfl : _ = [_]) rfl (by rfl) (by rfl) (by first | rfl | assumption) (by exact (rfl : _ = [_, _, _, _, _, _]))) ?_
        rintro _ _ rfl
        refine Kn1 0 rfl ?_
        refine Cr ?_
        refine Rp rfl (pv_move rfl) ?_
        refine Rp rfl (pv_nilCheck rfl) ?_
        refine Rp rfl (pv_fieldAddr (k := 2) rfl Tryz.runUnderlying123 rfl Tryz.sizeOf51 rfl rfl) ?_
        refine Rq rfl (oq_load rfl rfl Tryz.isAgg51 Z0 (by rfl) (by rfl)) ?_
        refine Rp rfl (pv_len_slice rfl rfl Tryz.runUnderlying51) ?_
        refine Rp rfl (pv_bin rfl rfl rfl) ?_
        refine Kn2 0 58 rfl ?_
        refine ct_cond_d rfl (fun hz16 => ?_) (fun hz16 => ?_)
        · skip
          have hl0 : msgs l = [] := List.eq_nil_of_length_eq_zero (by omega)
          refine ct_ret ?_
          refine xt_ret_then ?_
          refine xt_ret_block ?_
          refine xt_ret_then ?_
          refine xt_ret_block ?_
          have egoal := csettle_stop hg hn rfl hl0
          have hb9 : CsS.idle (⟨base, size, msgs l, some (s, .fin), places, done⟩ : CsS) = ⟨base, size, msgs l, none, places, done ++ [s.e]⟩ := by simp [CsS.idle, hz10]
          rw [hb9] at egoal
          subst egoal
          refine fin_ret (RVs.nil) Tryz.results37 ⟨rfl, ?_⟩ Sees.refl
          refine Sees.ex ⟨lp, lc, l, 0, pp, pc, p8, c9⟩ ?_
          dsimp only [casterPieces, csNowA, csNowRep, List.cons_append, List.nil_append]
          rw [len_snoc done, i64s_snoc done]
          exact Sees.cons Z0 (Sees.cons Z4 (Sees.cons Z4 (Sees.fact trivial (Sees.cons Z4 (Sees.cons Z0 (Sees.fact rfl (Sees.skip (Sees.skip (Sees.skip (Sees.refl))))))))))
        · skip
          obtain ⟨⟨⟨ty, d⟩, mp, mc⟩, r, rfl⟩ : ∃ y r, l = y :: r := by rcases l with _ | ⟨y, r⟩; (exact absurd rfl hz16); exact ⟨y, r, rfl⟩
          have hd : d.length ≤ 131072 := hok.hl (ty, d) (List.mem_cons_self ..)
          refine ct_own Z5 (fun _ ho2 ho3 => ?_)
          obtain ⟨lb, lo, rfl⟩ : ∃ b o, lp = some ⟨b, o, none⟩ := by rcases ho3 with ho3 | ho3; (exfalso; have := ho3.2.1; simp [msgs] at this); exact ho3
          replace ho2 : (msgs r).length + 1 ≤ lc := ho2
          refine ct_imp (fun μ h => openCons Z6 h) ?_
          refine ct_skip ?_
          refine Kx1 0 rfl ?_
          refine ct_seq ?_
          refine ct_planH [.q 0, .q 1, .q 2, .q 3, .q 4, .q 5, .q 6, .q 7, .q 8, .q 9, .q 10, .q 11, .q 12, .q 13, .q 14, .q 15, .q 16, .q 17, .q 18, .e 19, .q 20, .q 21, .b 22] mixed (by decide +kernel) ?_
          refine pw_q rfl rfl rfl rfl (oq_pv (pv_move rfl)) ?_
          refine pw_q rfl rfl rfl rfl (oq_pv (pv_move rfl)) ?_
          refine pw_q rfl rfl rfl rfl (oq_pv (pv_nilCheck rfl)) ?_
          refine pw_q rfl rfl rfl rfl (oq_pv (pv_fieldAddr (k := 0) rfl Tryz.runUnderlying123 rfl Tryz.sizeOf23 rfl rfl)) ?_
          refine pw_q rfl rfl rfl rfl (oq_loadAgg (us := [_, _]) rfl rfl Tryz.isAgg23 Tryz.sizeOf23 Z2 (by rfl) (by rfl) (by rfl)) ?_
          refine pw_q rfl rfl rfl rfl (oq_pv (pv_move rfl)) ?_
          refine pw_q rfl rfl rfl rfl (oq_pv (pv_nilCheck rfl)) ?_
          refine pw_q rfl rfl rfl rfl (oq_pv (pv_fieldAddr (k := 2) rfl Tryz.runUnderlying123 rfl Tryz.sizeOf51 rfl rfl)) ?_
          refine pw_q rfl rfl rfl rfl (oq_load rfl rfl Tryz.isAgg51 Z2 (by rfl) (by rfl)) ?_
          refine pw_q rfl rfl rfl rfl (oq_pv (pv_indexAddrN (j := 0) rfl rfl Tryz.runUnderlying51 Tryz.sizeOf74 rfl (Nat.succ_pos _))) ?_
          refine pw_q rfl rfl rfl rfl (oq_pv (pv_fieldAddr (k := lo + 0 * 2 + 0) rfl Tryz.runUnderlying74 rfl Tryz.sizeOf21 rfl rfl)) ?_
          refine pw_q rfl rfl rfl rfl (oq_loadOwn rfl rfl Tryz.isAgg21 Z7 (j := 0) rfl rfl) ?_
          refine pw_q rfl rfl rfl rfl (oq_pv (pv_move rfl)) ?_
          refine pw_q rfl rfl rfl rfl (oq_pv (pv_nilCheck rfl)) ?_
          refine pw_q rfl rfl rfl rfl (oq_pv (pv_fieldAddr (k := 2) rfl Tryz.runUnderlying123 rfl Tryz.sizeOf51 rfl rfl)) ?_
          refine pw_q rfl rfl rfl rfl (oq_load rfl rfl Tryz.isAgg51 Z2 (by rfl) (by rfl)) ?_
          refine pw_q rfl rfl rfl rfl (oq_pv (pv_indexAddrN (j := 0) rfl rfl Tryz.runUnderlying51 Tryz.sizeOf74 rfl (Nat.succ_pos _))) ?_
          refine pw_q rfl rfl rfl rfl (oq_pv (pv_fieldAddr (k := lo + 0 * 2 + 1) rfl Tryz.runUnderlying74 rfl Tryz.sizeOf29 rfl rfl)) ?_
          refine pw_q rfl rfl rfl rfl (oq_loadOwn rfl rfl Tryz.isAgg29 Z7 (j := 1) rfl rfl) ?_
          refine pw_e rfl rfl rfl rfl (ot_call rfl Tryz.call71 (vs := [_, _, _]) rfl (Sees.cons Z0 (Sees.refl)) (sndNew_eq _ base size ty d hb hs hd mp mc _ rd_own _)) ?_
          rintro _ _ ⟨nb17, rfl, rfl⟩
          refine ⟨[_], Sees.cons Z0 (Sees.cons Z0 (Sees.cons Z0 (Sees.cons Z0 (Sees.cons Z0 (Sees.cons Z0 (Sees.cons Z0 (Sees.cons Z0 (Sees.cons Z0 (Sees.cons Z0 (Sees.refl)))))))))), ?_⟩
          refine pw_q rfl rfl rfl rfl (oq_pv (pv_nilCheck rfl)) ?_
          refine pw_q rfl rfl rfl rfl (oq_pv (pv_fieldAddr (k := 3) rfl Tryz.runUnderlying123 rfl Tryz.sizeOf120 rfl rfl)) ?_
          refine pw_b0 rfl rfl rfl (ot_store rfl rfl rfl Tryz.sizeOf120 Z3 (rfl : _ = [_]) rfl (by rfl) (by rfl) (by first | rfl | assumption) (by exact (rfl : _ = [_, _, _, _, _, _]))) ?_
          rintro _ _ rfl
          refine pw_done ?_
          refine Kx1 0 rfl ?_
          refine ct_region ?_
          refine Rp rfl (pv_move rfl) ?_
          refine Rp rfl (pv_move rfl) ?_
          refine Rp rfl (pv_nilCheck rfl) ?_
          refine Rp rfl (pv_fieldAddr (k := 2) rfl Tryz.runUnderlying123 rfl Tryz.sizeOf51 rfl rfl) ?_
          refine Rq rfl (oq_load rfl rfl Tryz.isAgg51 Z0 (by rfl) (by rfl)) ?_
          refine Rp rfl (pv_slice (l := 1) (h := (msgs r).length + 1) (m := lc) rfl ⟨_, _, rfl, rfl⟩ rfl rfl Tryz.runUnderlying51 Tryz.sizeOf74 (Nat.le_add_left 1 _) ho2 (Nat.le_refl _) (by simp)) ?_
          refine Rp rfl (pv_nilCheck rfl) ?_
          refine Rp rfl (pv_fieldAddr (k := 2) rfl Tryz.runUnderlying123 rfl Tryz.sizeOf51 rfl rfl) ?_
          refine rl_op0 rfl rfl (ot_store rfl rfl rfl Tryz.sizeOf51 Z0 (rfl : _ = [_]) rfl (by rfl) (by rfl) (by first | rfl | assumption) (by exact (rfl : _ = [_, _, _, _, _, _]))) ?_
          rintro _ _ rfl
          refine rl_nil ?_
          refine xt_normal_block ?_
          obtain ⟨k, rfl, hg9⟩ := csettle_on (m := (ty, d)) (l := msgs r) hg hn rfl rfl
          have hb9 : CsS.idle (⟨base, size, msgs (((ty, d), mp, mc) :: r), some (s, .fin), places, done⟩ : CsS) = ⟨base, size, msgs (((ty, d), mp, mc) :: r), none, places, done ++ [s.e]⟩ := by simp [CsS.idle, hz10]
          have hk9 := hok.idle
          rw [hb9] at hk9 hg9
          have hk8 := hk9.begin (m := (ty, d)) (l := msgs r) rfl rfl
          exact xt_round (α := { q : CsS × CsX × Nat // csettle q.2.2 q.1 = goal ∧ q.1.left.length < q.2.2 ∧ CsOk q.1 ∧ msgs q.2.1.l = q.1.left }) (E' := fun q => [(0, .pointer (some ⟨b, 0, none⟩))]) (H' := fun q => row b 0 [.int .i64 q.1.1.base, .int .i64 q.1.1.size, .slice q.1.2.1.lp q.1.1.left.length q.1.2.1.lc, .pointer (csNowA q.1.2.1.nb q.1.1.now), .slice q.1.2.1.pp q.1.1.places.length q.1.2.1.pc, .slice q.1.2.1.dp q.1.1.done.length q.1.2.1.dc] :: own 2 q.1.2.1.lp q.1.1.left.length q.1.2.1.lc (mscells q.1.2.1.l) :: pack (msinner q.1.2.1.l) :: csNowRep q.1.2.1.nb q.1.1.now :: own 1 q.1.2.1.pp q.1.1.places.length q.1.2.1.pc (i64s q.1.1.places) :: own 1 q.1.2.1.dp q.1.1.done.length q.1.2.1.dc (i64s q.1.1.done) :: F) (μ := fun q => q.1.2.2) (p := ⟨(_, ⟨(some ⟨lb, lo, none⟩), lc, ((ty, d), mp, mc) :: r, nb, pp, pc, dp, dc⟩, _), hg, hn, hok, rfl⟩) (⟨(⟨base, size, msgs r, some (sndNew base size ty d), places, done ++ [s.e]⟩, ⟨cutp (some ⟨lb, lo, none⟩) 1 lc 2, lc - 1, r, nb17, pp, pc, p8, c9⟩, k), hg9, Nat.lt_of_succ_lt_succ hn, hk8, rfl⟩) (Nat.lt_succ_self _) (Knows.cons rfl (Knows.nil)) (by dsimp only [csNowA, csNowRep]; rw [len_snoc done, i64s_snoc done]; exact Sees.cons Z0 (Sees.ownCut Z7 (Nat.le_add_left 1 _) rfl rfl (Sees.cons Z2 (Sees.cons Z0 (Sees.cons Z5 (Sees.cons Z1 (Sees.skip (Sees.skip (Sees.skip (Sees.skip (Sees.refl)))))))))))
end Go.Proofs.YtnjljfjncfbinaaGreat
