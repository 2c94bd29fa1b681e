/- Machines that share a buffer: what is asked of them. -/
import Derived.Test.YtnjljfjncfbinaaGreatFo
set_option linter.all false
namespace Go.Proofs.YtnjljfjncfbinaaGreat
open Go Go.Proofs
set_option maxRecDepth 100000
set_option linter.unusedVariables false

attribute [local irreducible] RL CT XT OQ OT PW PG PV Upon wpL
theorem Spec.seesPost {ω : World} {P : Program} {f : FuncId} {args : Array Value} {H : List HP} {R R' : Value → List HP → Prop} (h : Spec ω P f args H R) (hr : ∀ v H', R v H' → ∃ M, R' v M ∧ Sees H' M) : Spec ω P f args H R' :=
  fun w hw => (h w hw).mono fun _ _ ⟨v, he, H', a, b⟩ => let ⟨M, h1, h2⟩ := hr v H' a; ⟨v, he, M, h1, b.sees h2⟩
theorem Sees.consI {L L' M : List HP} {X Y : HP} (s : Sel L X L') (hi : ∀ μ, X μ → Y μ) (r : Sees L' M) : Sees L (Y :: M) :=
  .of fun m h => ((s.out m h).first hi).skip r.out
/-- A kind of machine. -/
structure MK where
  S : Type
  tid : TypeId
  fN : FuncId
  fT : FuncId
  rep : Nat → S → HP
  want : S → Option AccD
  take : S → Ans → S
  inv : Nat → S → Prop
def ansV (y : Ans) (p : Option Addr) (c : Nat) : Value := .agg #[.int .u64 y.v, .bool y.d, .slice p y.data.length c]
structure MKok (K : MK) : Prop where
  mN : MethF Tryz.prog K.tid "Next" K.fN
  mT : MethF Tryz.prog K.tid "Take" K.fT
  cN : ∀ args w, (callFunc K.fN args).run Tryz.prog w = .ok (.enter K.fN args) w
  cT : ∀ args w, (callFunc K.fT args).run Tryz.prog w = .ok (.enter K.fT args) w
  next : ∀ (ω : World) (b : Nat) (s : K.S) (F : List HP), Spec ω Tryz.prog K.fN #[.pointer (some ⟨b, 0, none⟩)] (K.rep b s :: F) (NextPost ω (K.rep b s) (K.want s) F)
  take : ∀ (ω : World) (b : Nat) (s : K.S) (n : Nat) (y : Ans), K.inv (n + 1) s → K.want s ≠ none → inK .u64 y.v → y.data.length ≤ 8 → ∀ (X : HP) (p : Option Addr) (c : Nat), Rd ω X 1 p y.data.length (byteC y.data) → ∀ F : List HP,
    Spec ω Tryz.prog K.fT #[.pointer (some ⟨b, 0, none⟩), ansV y p c] (K.rep b s :: X :: F) fun v H => v = .tuple #[] ∧ Sees H (K.rep b (K.take s y) :: X :: F)
  inv_mono : ∀ (n : Nat) (s : K.S), K.inv (n + 1) s → K.inv n s
  inv_take : ∀ (n : Nat) (s : K.S) (y : Ans), K.inv (n + 1) s → K.want s ≠ none → inK .u64 y.v → y.data.length ≤ 8 → K.inv n (K.take s y)
theorem MKok.next_some {K : MK} (hk : MKok K) (ω : World) (b : Nat) (s : K.S) (a : AccD) (hw : K.want s = some a) (F : List HP) : Spec ω Tryz.prog K.fN #[.pointer (some ⟨b, 0, none⟩)] (K.rep b s :: F) fun v' H' =>
    ∃ X p c, v' = .tuple #[accV a p a.data.length c, .bool true] ∧ Rd ω X 1 p a.data.length (byteC a.data) ∧ (∀ μ, X μ → K.rep b s μ) ∧ H' = X :: F := by
  refine (hk.next ω b s F).seesPost ?_
  rintro v H' ⟨ac, more, X, p, m, c, rfl, rfl, hrd, hi, hs, hW⟩
  rw [hw] at hW
  cases more with
  | false => cases hW
  | true => cases hW; exact ⟨_, ⟨X, p, c, rfl, hrd, hi, rfl⟩, hs⟩
theorem MKok.next_none {K : MK} (hk : MKok K) (ω : World) (b : Nat) (s : K.S) (hw : K.want s = none) (F : List HP) : Spec ω Tryz.prog K.fN #[.pointer (some ⟨b, 0, none⟩)] (K.rep b s :: F) fun v' H' =>
    ∃ (a : AccD) (p : Option Addr) (m c : Nat) (X : HP), v' = .tuple #[accV a p m c, .bool false] ∧ (∀ μ, X μ → K.rep b s μ) ∧ H' = X :: F := by
  refine (hk.next ω b s F).seesPost ?_
  rintro v H' ⟨ac, more, X, p, m, c, rfl, rfl, hrd, hi, hs, hW⟩
  rw [hw] at hW
  cases more with
  | true => cases hW
  | false => exact ⟨_, ⟨ac, p, _, c, X, rfl, hi, rfl⟩, hs⟩
theorem MKok.take_eq {K : MK} (hk : MKok K) (ω : World) (b : Nat) (s : K.S) (n : Nat) (y : Ans) (h1 : K.inv (n + 1) s) (h2 : K.want s ≠ none) (h3 : inK .u64 y.v) (h4 : y.data.length ≤ 8) (X : HP) (p : Option Addr) (c : Nat) (hX : Rd ω X 1 p y.data.length (byteC y.data)) (F : List HP) :
    Spec ω Tryz.prog K.fT #[.pointer (some ⟨b, 0, none⟩), ansV y p c] (K.rep b s :: X :: F) fun v H => v = .tuple #[] ∧ H = K.rep b (K.take s y) :: X :: F :=
  (hk.take ω b s n y h1 h2 h3 h4 X p c hX F).seesPost fun _ _ ⟨e, s⟩ => ⟨_, ⟨e, rfl⟩, s⟩
theorem bdo_eq (ω : World) (bb : Nat) (m m' : List Int) (a : AccD) (y : Ans) (hy : mdo m a = some (m', y)) (p : Option Addr) (c : Nat) (X : HP) (hX : Rd ω X 1 p a.data.length (byteC a.data)) (F : List HP) :
    Spec ω Tryz.prog 113 #[.pointer (some ⟨bb, 0, none⟩), accV a p a.data.length c] (bufRep bb m :: X :: F) fun v' H' =>
      ∃ q d, v' = .tuple #[ansV y q d, .int .i64 0] ∧ H' = bufRep bb m' :: own 1 q y.data.length d (byteC y.data) :: X :: F := by
  refine (bdo_spec ω bb m m' a y hy p _ c rfl X hX F).seesPost ?_
  rintro v H' ⟨_, q, d, rfl, hs⟩
  exact ⟨_, ⟨q, d, rfl, rfl⟩, hs⟩
/-- A machine, whether it is dead. -/
structure MS where
  K : MK
  mb : Nat
  s : K.S
  dead : Bool
def aptrs (abs : List Nat) : List Value := abs.map fun a => .pointer (some ⟨a, 0, none⟩)
@[simp] theorem aptrs_length (l : List Nat) : (aptrs l).length = l.length := by simp [aptrs]
def arow (a : Nat) (x : MS) : HP := row a 0 [.iface x.K.tid (.pointer (some ⟨x.mb, 0, none⟩)), .bool x.dead]
def arows (abs : List Nat) (l : List MS) : List HP := List.zipWith arow abs l
def mrep (x : MS) : HP := x.K.rep x.mb x.s
def mreps (l : List MS) : List HP := l.map mrep
def mvals (l : List MS) : List Value := l.map fun x => .iface x.K.tid (.pointer (some ⟨x.mb, 0, none⟩))
theorem arows_split {a1 a2 : List Nat} {ab : Nat} {pre r : List MS} {x : MS} (h : a1.length = pre.length) : arows (a1 ++ ab :: a2) (pre ++ x :: r) = arows a1 pre ++ arow ab x :: arows a2 r := by
  unfold arows; rw [List.zipWith_append h]; rfl
theorem mreps_split {pre r : List MS} {x : MS} : mreps (pre ++ x :: r) = mreps pre ++ mrep x :: mreps r := by simp [mreps]
theorem openPack {H L A B P : List HP} {c : HP} {m : Hl} (s : Sel H (pack P) L) (e : P = A ++ c :: B) (h : Stars H m) : Stars (c :: pack A :: pack B :: L) m := by
  subst e
  have h1 := s.out m h
  rw [stars_pack, List.append_assoc] at h1
  have h2 : Stars ((c :: B) ++ L ++ A) m := stars_comm (B := (c :: B) ++ L) (by simpa using h1)
  have h3 : Stars (c :: (B ++ (L ++ A))) m := by simpa using h2
  refine h3.skip fun m h => ?_
  have h4 : Stars (A ++ (B ++ L)) m := stars_comm (A := B ++ L) (by simpa using h)
  rw [stars_pack]
  obtain ⟨m1, m2, hd, k1, k2, ha, hb⟩ := Stars.append.1 h4
  exact Stars.append.2 ⟨m1, m2, hd, k1, k2, ha, stars_pack.2 hb⟩
theorem Sees.closePack {H L1 L2 L3 A B P M : List HP} {X c : HP} (sc : Sel H X L1) (hi : ∀ μ, X μ → c μ) (sa : Sel L1 (pack A) L2) (sb : Sel L2 (pack B) L3) (e : P = A ++ c :: B) (r : Sees L3 M) : Sees H (pack P :: M) := by
  subst e
  refine .of fun m h => ?_
  have h1 := (sc.out m h).first hi
  have h2 : Stars (c :: pack A :: pack B :: M) m := h1.skip fun m h => (sa.out m h).skip fun m h => (sb.out m h).skip r.out
  have h3 : Stars (pack A :: c :: pack B :: M) m := h2.swap
  rw [stars_pack] at h3
  obtain ⟨m1, m2, hd, k1, k2, ha, hb⟩ := Stars.append.1 h3
  rw [stars_pack, List.append_assoc]
  exact Stars.append.2 ⟨m1, m2, hd, k1, k2, ha, hb.skip fun m h => stars_pack.1 h⟩
/-- An access that may be; by bytes that are few. -/
def mdoc (m : List Int) (a : AccD) : Option (List Int × Ans) := if a.data.length ≤ 8 then mdo m a else none
theorem mdoc_some {m m' : List Int} {a : AccD} {y : Ans} (h : mdoc m a = some (m', y)) : a.data.length ≤ 8 ∧ mdo m a = some (m', y) := by
  unfold mdoc at h; split at h
  · exact ⟨by assumption, h⟩
  · cases h
theorem mget_in (m : List Int) (at_ n : Int) : inK .u64 (mget m at_ n) := inK_wrap _ _
theorem mdo_ans {m m' : List Int} {a : AccD} {y : Ans} (h : mdo m a = some (m', y)) : inK .u64 y.v ∧ y.data.length ≤ 8 := by
  have z : inK .u64 (0 : Int) := ⟨Int.le_refl 0, by omega⟩
  unfold mdo at h
  cases hin : inB m.length a.at_ a.n with
  | false => rw [hin] at h; cases h
  | true =>
    rw [hin] at h
    simp only [cond_true] at h
    split at h
    · cases hc : ((a.n == 8 || a.n == 4) && a.at_.tmod a.n == 0) with
      | false => rw [hc] at h; cases h
      | true => rw [hc] at h; cases h; exact ⟨mget_in _ _ _, by simp⟩
    · cases hc : ((a.n == 8 || a.n == 4) && a.at_.tmod a.n == 0) with
      | false => rw [hc] at h; cases h
      | true => rw [hc] at h; cases h; exact ⟨z, by simp⟩
    · cases hc : (a.n == 8 && a.at_.tmod a.n == 0) with
      | false => rw [hc] at h; cases h
      | true => rw [hc] at h; cases h; exact ⟨inK_wrap _ _, by simp⟩
    · cases hc : ((a.n == 8 || a.n == 4) && a.at_.tmod a.n == 0) with
      | false => rw [hc] at h; cases h
      | true =>
        rw [hc] at h
        simp only [cond_true] at h
        cases he : (mget m a.at_ a.n == iand .u64 a.v (msk a.n)) with
        | true => rw [he] at h; cases h; exact ⟨mget_in _ _ _, by simp⟩
        | false => rw [he] at h; cases h; exact ⟨mget_in _ _ _, by simp⟩
    · cases hc : (decide (0 ≤ a.n) && decide (a.n ≤ 8)) with
      | false => rw [hc] at h; cases h
      | true =>
        rw [hc] at h; cases h
        simp only [Bool.and_eq_true, decide_eq_true_eq] at hc
        exact ⟨z, by rw [mrd_length]; omega⟩
    · cases hc : (a.n == (a.data.length : Int) && decide (a.n ≤ 8)) with
      | false => rw [hc] at h; cases h
      | true => rw [hc] at h; cases h; exact ⟨z, by simp⟩
    · cases h
/-- One round of those that live. -/
def rnd (most : Nat) : List MS → List MS → List Int → Nat → Bool → Option (List Int × List MS × Nat × Bool × Bool)
  | pre, [], m, n, g => some (m, pre, n, g, false)
  | pre, x :: r, m, n, g => match x.K.want x.s with
    | none => rnd most (pre ++ [x]) r m n g
    | some a => bif x.dead then rnd most (pre ++ [x]) r m n g else
      bif Nat.ble most n then some (m, pre ++ x :: r, n, g, true) else
      match mdoc m a with
      | none => none
      | some (m', y) => rnd most (pre ++ [⟨x.K, x.mb, x.K.take x.s y, false⟩]) r m' (n + 1) true
def robin (most : Nat) : Nat → List MS → List Int → Nat → Option (List Int × List MS × Nat)
  | 0, _, _, _ => none
  | f + 1, l, m, n => match rnd most [] l m n false with
    | none => none
    | some (m', l', n', _, true) => some (m', l', n')
    | some (m', l', n', true, false) => robin most f l' m' n'
    | some (m', l', n', false, false) => some (m', l', n')
theorem Spec.ownSome {ω : World} {P : Program} {f : FuncId} {args : Array Value} {H L : List HP} {R : Value → List HP → Prop} {es n c : Nat} {p : Option Addr} {xs : List Value} (s : Sel H (Go.Proofs.YtnjljfjncfbinaaGreat.own es p n c xs) L) (hn : 0 < n) (h : ∀ b o, p = some ⟨b, o, none⟩ → Spec ω P f args H R) : Spec ω P f args H R := by
  intro w hw
  obtain ⟨_, _, h' | ⟨b, o, e⟩⟩ := (hw.sel s).own_facts
  · omega
  · exact h b o e w hw
end Go.Proofs.YtnjljfjncfbinaaGreat
