/- A buffer's accesses, in one. -/
import Derived.Test.YtnjljfjncfbinaaGreatSq
import Derived.Test.YtnjljfjncfbinaaGreatMb
set_option linter.all false
namespace Go.Proofs.YtnjljfjncfbinaaGreat
open Go Go.Proofs
set_option maxRecDepth 100000
set_option linter.unusedVariables false

attribute [local irreducible] RL CT XT OQ OT PW PG PV Upon wpL
structure BufX where
  wb : Nat
  cnt : Int
/-- A buffer. -/
def bufRep (bb : Nat) (m : List Int) : HP := ex fun x : BufX => [row bb 0 [.slice (some ⟨x.wb, 0, none⟩) m.length m.length, .int .i64 x.cnt], row x.wb 0 (wcells m), fact (m.length ≤ 16384)]
def inB (len : Nat) (at_ n : Int) : Bool := decide (0 ≤ at_) && decide (at_ + n ≤ 8 * (len : Int))
/-- What an access does to a buffer, and tells; none: it may not be. -/
def mdo (m : List Int) (a : AccD) : Option (List Int × Ans) :=
  bif inB m.length a.at_ a.n then
    match a.k with
    | 1 => bif (a.n == 8 || a.n == 4) && a.at_.tmod a.n == 0 then some (m, ⟨mget m a.at_ a.n, false, []⟩) else none
    | 2 => bif (a.n == 8 || a.n == 4) && a.at_.tmod a.n == 0 then some (mput m a.at_ a.n a.v, ⟨0, false, []⟩) else none
    | 3 => bif a.n == 8 && a.at_.tmod a.n == 0 then some (wput m (bix a.at_) (IntKind.u64.wrap (wat m (bix a.at_) + a.v)), ⟨IntKind.u64.wrap (IntKind.u64.wrap (wat m (bix a.at_) + a.v) - a.v), false, []⟩) else none
    | 4 => bif (a.n == 8 || a.n == 4) && a.at_.tmod a.n == 0 then
        (bif mget m a.at_ a.n == iand .u64 a.v (msk a.n) then some (mput m a.at_ a.n a.w, ⟨mget m a.at_ a.n, true, []⟩) else some (m, ⟨mget m a.at_ a.n, false, []⟩)) else none
    | 5 => bif decide (0 ≤ a.n) && decide (a.n ≤ 8) then some (m, ⟨0, false, mrd m a.at_ a.n.toNat⟩) else none
    | 6 => bif a.n == (a.data.length : Int) && decide (a.n ≤ 8) then some (mwr m a.at_ 0 a.data, ⟨0, false, []⟩) else none
    | _ => none
  else none
theorem wput_lengthE {m : List Int} {j : Nat} {v : Int} : (wput m j v).length = m.length := wput_length m j v
/-- What 'Do' leaves. -/
def DoPost (bb : Nat) (m' : List Int) (y : Ans) (L : List HP) (v' : Value) (H' : List HP) : Prop :=
  ∃ p c, v' = .tuple #[.agg #[.int .u64 y.v, .bool y.d, .slice p y.data.length c], .int .i64 0] ∧ Sees H' (bufRep bb m' :: own 1 p y.data.length c (byteC y.data) :: L)
theorem bufRep_of {bb wb : Nat} {m m' : List Int} {cnt : Int} {H L : List HP} (hl : m'.length = m.length) (hm : m.length ≤ 16384) (s : Sees H (row bb 0 [.slice (some ⟨wb, 0, none⟩) m.length m.length, .int .i64 cnt] :: row wb 0 (wcells m') :: L)) : Sees H (bufRep bb m' :: L) := by
  refine Sees.ex ⟨wb, cnt⟩ ?_
  rw [hl]
  exact .of fun μ h => by
    have h := s.out μ h
    exact h.skip fun _ h => h.skip fun _ h => (Sees.fact hm .refl).out _ h
theorem bdo_spec (ω : World) (bb : Nat) (m m' : List Int) (a : AccD) (y : Ans) (hy : mdo m a = some (m', y)) (p : Option Addr) (mm c : Nat) (hmm : mm = a.data.length) (X : HP) (hX : Rd ω X 1 p mm (byteC a.data)) (F : List HP) :
    Spec ω Tryz.prog 113 #[.pointer (some ⟨bb, 0, none⟩), accV a p mm c] (bufRep bb m :: X :: F) fun v' H' => m'.length = m.length ∧ DoPost bb m' y (X :: F) v' H' := by
  refine Spec.ex fun x => Spec.fact (p := m.length ≤ 16384) Z2 fun hm => ?_
  refine Spec.sees (H1 := row bb 0 [.slice (some ⟨x.wb, 0, none⟩) m.length m.length, .int .i64 x.cnt] :: row x.wb 0 (wcells m) :: X :: F) (Sees.cons .here (Sees.cons .here (Sees.skip .refl))) ?_
  subst hmm
  obtain ⟨k, at_, n, v, w, data⟩ := a
  unfold mdo at hy
  dsimp only at hy hX ⊢
  cases hin : inB m.length at_ n with
  | false => rw [hin] at hy; cases hy
  | true =>
  rw [hin] at hy
  simp only [inB, Bool.and_eq_true, decide_eq_true_eq] at hin
  obtain ⟨h0, h1⟩ := hin
  simp only [cond_true] at hy
  have fin0 : ∀ {m2 : List Int} {vv : Int} {d : Bool}, m2.length = m.length → ∀ v' H', (∃ cnt', v' = .tuple #[.agg #[.int .u64 vv, .bool d, .slice none 0 0], .int .i64 0] ∧ H' = row bb 0 [.slice (some ⟨x.wb, 0, none⟩) m.length m.length, .int .i64 cnt'] :: row x.wb 0 (wcells m2) :: X :: F) →
      m2.length = m.length ∧ DoPost bb m2 ⟨vv, d, []⟩ (X :: F) v' H' := by
    rintro m2 vv d hl v' H' ⟨cnt', rfl, rfl⟩
    exact ⟨hl, none, 0, rfl, bufRep_of hl hm (Sees.cons .here (Sees.cons .here (Sees.nilOwn .refl)))⟩
  split at hy
  · cases hc : ((n == 8 || n == 4) && at_.tmod n == 0) with
    | false => rw [hc] at hy; cases hy
    | true =>
      rw [hc] at hy
      simp only [Bool.and_eq_true, Bool.or_eq_true, beq_iff_eq] at hc
      simp only [cond_true, Option.some.injEq, Prod.mk.injEq] at hy
      obtain ⟨rfl, rfl⟩ := hy
      obtain ⟨rfl | rfl, h8⟩ := hc
      · exact (do_load8 ω bb x.wb m x.cnt at_ v w p data.length c hm h0 h8 h1 (X :: F)).mono (fin0 rfl)
      · exact (do_load4 ω bb x.wb m x.cnt at_ v w p data.length c hm h0 h8 h1 (X :: F)).mono (fin0 rfl)
  · cases hc : ((n == 8 || n == 4) && at_.tmod n == 0) with
    | false => rw [hc] at hy; cases hy
    | true =>
      rw [hc] at hy
      simp only [Bool.and_eq_true, Bool.or_eq_true, beq_iff_eq] at hc
      simp only [cond_true, Option.some.injEq, Prod.mk.injEq] at hy
      obtain ⟨rfl, rfl⟩ := hy
      obtain ⟨rfl | rfl, h8⟩ := hc
      · exact (do_store8 ω bb x.wb m x.cnt at_ v w p data.length c hm h0 h8 h1 (X :: F)).mono (fin0 (mput_length _ _ _ _))
      · exact (do_store4 ω bb x.wb m x.cnt at_ v w p data.length c hm h0 h8 h1 (X :: F)).mono (fin0 (mput_length _ _ _ _))
  · cases hc : (n == 8 && at_.tmod n == 0) with
    | false => rw [hc] at hy; cases hy
    | true =>
      rw [hc] at hy
      simp only [Bool.and_eq_true, beq_iff_eq] at hc
      simp only [cond_true, Option.some.injEq, Prod.mk.injEq] at hy
      obtain ⟨rfl, rfl⟩ := hy
      obtain ⟨rfl, h8⟩ := hc
      exact (do_add ω bb x.wb m x.cnt at_ v w p data.length c hm h0 h8 h1 (X :: F)).mono (fin0 (wput_length _ _ _))
  · cases hc : ((n == 8 || n == 4) && at_.tmod n == 0) with
    | false => rw [hc] at hy; cases hy
    | true =>
      rw [hc] at hy
      simp only [Bool.and_eq_true, Bool.or_eq_true, beq_iff_eq] at hc
      simp only [cond_true] at hy
      obtain ⟨rfl | rfl, h8⟩ := hc
      · cases he : (mget m at_ 8 == iand .u64 v (msk 8)) with
        | true =>
          rw [he] at hy; simp only [cond_true, Option.some.injEq, Prod.mk.injEq] at hy
          obtain ⟨rfl, rfl⟩ := hy
          exact (do_cas8_hit ω bb x.wb m x.cnt at_ v w p data.length c hm h0 h8 (by simpa [msk] using he) h1 (X :: F)).mono (fin0 (mput_length _ _ _ _))
        | false =>
          rw [he] at hy; simp only [cond_false, Option.some.injEq, Prod.mk.injEq] at hy
          obtain ⟨rfl, rfl⟩ := hy
          exact (do_cas8_miss ω bb x.wb m x.cnt at_ v w p data.length c hm h0 h8 (by simpa [msk] using he) h1 (X :: F)).mono (fin0 rfl)
      · cases he : (mget m at_ 4 == iand .u64 v (msk 4)) with
        | true =>
          rw [he] at hy; simp only [cond_true, Option.some.injEq, Prod.mk.injEq] at hy
          obtain ⟨rfl, rfl⟩ := hy
          exact (do_cas4_hit ω bb x.wb m x.cnt at_ v w p data.length c hm h0 h8 (by simpa [msk] using he) h1 (X :: F)).mono (fin0 (mput_length _ _ _ _))
        | false =>
          rw [he] at hy; simp only [cond_false, Option.some.injEq, Prod.mk.injEq] at hy
          obtain ⟨rfl, rfl⟩ := hy
          exact (do_cas4_miss ω bb x.wb m x.cnt at_ v w p data.length c hm h0 h8 (by simpa [msk] using he) h1 (X :: F)).mono (fin0 rfl)
  · cases hc : (decide (0 ≤ n) && decide (n ≤ 8)) with
    | false => rw [hc] at hy; cases hy
    | true =>
      rw [hc] at hy
      simp only [Bool.and_eq_true, decide_eq_true_eq] at hc
      simp only [cond_true, Option.some.injEq, Prod.mk.injEq] at hy
      obtain ⟨rfl, rfl⟩ := hy
      obtain ⟨k, rfl⟩ : ∃ k : Nat, n = k := ⟨n.toNat, by omega⟩
      refine (do_read ω bb x.wb m x.cnt at_ v w k p data.length c hm h0 (by omega) h1 (X :: F)).mono ?_
      rintro v' H' ⟨cnt', q, rfl, rfl⟩
      refine ⟨rfl, some ⟨q, 0, none⟩, k, by simp only [Int.toNat_natCast, mrd_length], ?_⟩
      refine bufRep_of (wb := x.wb) (cnt := cnt') rfl hm ?_
      simp only [Int.toNat_natCast, mrd_length]
      exact Sees.cons (.there .here) (Sees.cons (.there .here) (Sees.cons .here .refl))
  · cases hc : (n == (data.length : Int) && decide (n ≤ 8)) with
    | false => rw [hc] at hy; cases hy
    | true =>
      rw [hc] at hy
      simp only [Bool.and_eq_true, beq_iff_eq, decide_eq_true_eq] at hc
      simp only [cond_true, Option.some.injEq, Prod.mk.injEq] at hy
      obtain ⟨rfl, rfl⟩ := hy
      obtain ⟨rfl, h8⟩ := hc
      exact (do_write ω bb x.wb m x.cnt at_ v w data p c X hX hm h0 (by omega) h1 F).mono (fin0 (mwr_length _ _ _ _))
  · cases hy
end Go.Proofs.YtnjljfjncfbinaaGreat
