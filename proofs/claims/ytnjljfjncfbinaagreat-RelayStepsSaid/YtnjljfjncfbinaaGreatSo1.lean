/- One machine alone: how the rounds end. Plain, with no program in sight. -/
import Derived.Test.YtnjljfjncfbinaaGreatCa
import Derived.Test.YtnjljfjncfbinaaGreatSn
set_option linter.all false
namespace Go.Proofs.YtnjljfjncfbinaaGreat
open Go
set_option maxRecDepth 100000
def solo (K : MK) : Nat → K.S → List Int → Option (List Int × K.S × Nat)
  | 0, _, _ => none
  | f + 1, s, m => match K.want s with
    | none => some (m, s, 0)
    | some a => match mdoc m a with
      | none => none
      | some (m', y) => match solo K f (K.take s y) m' with
        | none => none
        | some (m2, s2, k) => some (m2, s2, k + 1)
theorem robin_solo {K : MK} {mb most : Nat} : ∀ (f : Nat) (s : K.S) (m : List Int) (n : Nat) (m' : List Int) (s' : K.S) (k : Nat), solo K f s m = some (m', s', k) → n + k ≤ most → robin most f [⟨K, mb, s, false⟩] m n = some (m', [⟨K, mb, s', false⟩], n + k) := by
  intro f
  induction f with
  | zero => intro s m n m' s' k h; cases h
  | succ f ih =>
    intro s m n m' s' k h hk
    simp only [solo] at h
    cases hw : K.want s with
    | none =>
      rw [hw] at h
      cases h
      simp [robin, rnd, hw]
    | some a =>
      rw [hw] at h
      dsimp only at h
      cases hm : mdoc m a with
      | none => rw [hm] at h; cases h
      | some z =>
        obtain ⟨m1, y⟩ := z
        rw [hm] at h
        dsimp only at h
        cases hs : solo K f (K.take s y) m1 with
        | none => rw [hs] at h; cases h
        | some z =>
          obtain ⟨m2, s2, k2⟩ := z
          rw [hs] at h
          cases h
          have hb : Nat.ble most n = false := by
            cases e : Nat.ble most n with
            | false => rfl
            | true => have := Nat.le_of_ble_eq_true e; omega
          have := ih _ _ (n + 1) _ _ _ hs (by omega)
          simp only [robin, rnd, hw, cond_false, hb, hm, List.nil_append]
          rw [this]
          simp; omega
/-- What the document fixes of a broadcast of two messages, and of one that hears it. -/
def fxC : CsS := csAll 0 64 [(1, [97]), (2, [])]
def fxM : List Int := match solo casterMK 60 fxC (List.replicate 12 0) with
  | some (m, _, _) => m
  | none => []
theorem fx1_run : (match solo casterMK 60 fxC (List.replicate 12 0) with | some (_, _, k) => Nat.ble k 99 | none => false) = true := by decide +kernel
theorem fx2_run : (match solo relayMK 200 (rnew 0 64 0 0 0 3) fxM with
    | some (_, r, k) => decide (r.heard.map (fun h => (h.at_, h.typ, h.data)) = [(0, 1, [97]), (16, 2, [])]) && decide (r.cur = 16) && decide (r.nxt = 24) && decide (r.lap = 0) && decide (r.losses = 0) && Nat.ble k 999
    | none => false) = true := by decide +kernel
theorem fx1 : ∃ s k, solo casterMK 60 fxC (List.replicate 12 0) = some (fxM, s, k) ∧ k ≤ 99 := by
  have h := fx1_run
  unfold fxM
  cases e : solo casterMK 60 fxC (List.replicate 12 0) with
  | none => rw [e] at h; cases h
  | some z => obtain ⟨m, s, k⟩ := z; rw [e] at h; exact ⟨s, k, rfl, Nat.le_of_ble_eq_true h⟩
structure FxR (r : RM) : Prop where
  hh : ∃ h0 h1 : HeardV, r.heard = [h0, h1] ∧ h0.at_ = 0 ∧ h1.at_ = 16 ∧ h1.typ = 2
  hc : r.cur = 16
  hn : r.nxt = 24
  hl : r.lap = 0
  ho : r.losses = 0
theorem fx2 : ∃ m r k, solo relayMK 200 (rnew 0 64 0 0 0 3) fxM = some (m, r, k) ∧ k ≤ 999 ∧ FxR r := by
  have h := fx2_run
  cases e : solo relayMK 200 (rnew 0 64 0 0 0 3) fxM with
  | none => rw [e] at h; cases h
  | some z =>
    obtain ⟨m, r, k⟩ := z
    rw [e] at h
    simp only [Bool.and_eq_true, decide_eq_true_eq] at h
    obtain ⟨⟨⟨⟨⟨h1, h2⟩, h3⟩, h4⟩, h5⟩, h6⟩ := h
    refine ⟨m, r, k, rfl, Nat.le_of_ble_eq_true h6, ?_, h2, h3, h4, h5⟩
    rcases hr : r.heard with _ | ⟨a, _ | ⟨b, _ | ⟨c, l⟩⟩⟩
    all_goals rw [hr] at h1
    · simp at h1
    · simp at h1
    · simp only [List.map_cons, List.map_nil, List.cons.injEq, Prod.mk.injEq, and_true] at h1
      exact ⟨a, b, rfl, h1.1.1, h1.2.1, h1.2.2.1⟩
    · simp at h1
end Go.Proofs.YtnjljfjncfbinaaGreat
