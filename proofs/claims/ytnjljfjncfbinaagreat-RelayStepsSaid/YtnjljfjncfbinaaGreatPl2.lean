/- The plain law: what the document's relay comes to, told a list, is what the program's relay comes to, told it one by one. -/
import Derived.Test.YtnjljfjncfbinaaGreatFl
set_option linter.all false
namespace Go.Proofs.YtnjljfjncfbinaaGreat
open Go Go.Proofs

def rfeed (r : RM) (l : List Ans) : RM := l.foldl rtake r
theorem settle_fuel : ∀ (m k : Nat) (r : RM), r.left.toNat < m → r.left.toNat < k → (r.now = none ∨ nowMore r.now = true ∨ ∃ s, r.now = some (s, .fin)) → settle m r = settle k r := by
  intro m
  induction m with
  | zero => intro k r h; omega
  | succ m ih =>
    intro k r hm hk hr
    obtain ⟨k, rfl⟩ : ∃ j, k = j + 1 := ⟨k - 1, by omega⟩
    simp only [settle]
    split
    · rfl
    · have hi : r.idle.left = r.left := by
        unfold RM.idle; split <;> rfl
      split
      · rfl
      · rename_i hl
        refine ih k _ ?_ ?_ ?_
        · show (r.idle.left - 1).toNat < m; omega
        · show (r.idle.left - 1).toNat < k; omega
        · simp only [RM.begin, Option.some.injEq]
          right
          unfold hnew
          split
          · left; rfl
          · right; exact ⟨_, rfl⟩
theorem settle_fin (m : Nat) (R : RM) (s : HS) : settle (m + 1) { R with now := some (s, .fin) } = settle (m + 1) (R.note s) := by
  simp only [settle]
  have h1 : nowMore (some (s, HPh.fin)) = false := rfl
  have h2 : nowMore (R.note s).now = false := rfl
  rw [h1, h2]
  have e1 : RM.idle { R with now := some (s, .fin) } = R.note s := rfl
  have e2 : RM.idle (R.note s) = R.note s := rfl
  rw [e1, e2]
  simp only [Bool.false_eq_true, if_false]
theorem settle_live {n : Nat} {r : RM} (h : nowMore r.now = true) : settle n r = r := by
  cases n with
  | zero => rfl
  | succ n => simp only [settle]; rw [if_pos h]
theorem feed_none {r : RM} (h : r.now = none) : ∀ l, rfeed r l = r := by
  intro l
  induction l with
  | nil => rfl
  | cons a l ih =>
    show rfeed (rtake r a) l = r
    rw [show rtake r a = r from by unfold rtake; rw [h]]
    exact ih
theorem ends_fin {ph : HPh} (h : ph.ends = true) : ph = .fin := by cases ph <;> first | rfl | cases h
theorem feed_go {R : RM} {want : Acc} {ends : Bool} : ∀ (l : List Ans) (k : Nat) (s : HS) (ph : HPh), ph.ends = false →
    ((hgo want ends l k s ph).2.2.ends = true → rfeed { R with now := some (s, ph) } l = rfeed (settle (R.left.toNat + 1) { R with now := some (hgo want ends l k s ph).2 }) (hgo want ends l k s ph).1.rest ∧ (hgo want ends l k s ph).1.ends = ends ∧ (hgo want ends l k s ph).1.want = want) ∧
    ((hgo want ends l k s ph).2.2.ends = false → rfeed { R with now := some (s, ph) } l = { R with now := some (hgo want ends l k s ph).2 } ∧ (hgo want ends l k s ph).1.ends = true ∧ (hgo want ends l k s ph).1.want = hwant (hgo want ends l k s ph).2.1 (hgo want ends l k s ph).2.2) := by
  intro l
  induction l with
  | nil =>
    intro k s ph hp
    simp only [hgo]
    rw [if_neg (by simp [hp])]
    refine ⟨fun h => ?_, fun _ => ⟨rfl, rfl, rfl⟩⟩
    simp [hp] at h
  | cons a l ih =>
    intro k s ph hp
    simp only [hgo]
    rw [if_neg (by simp [hp])]
    have hstepe : rfeed { R with now := some (s, ph) } (a :: l) = rfeed (settle (R.left.toNat + 1) { R with now := some (hstep s ph a) }) l := rfl
    rw [hstepe]
    cases hq : (hstep s ph a).2.ends with
    | false =>
      have hlive : settle (R.left.toNat + 1) { R with now := some (hstep s ph a) } = { R with now := some ((hstep s ph a).1, (hstep s ph a).2) } := settle_live (by show (!(hstep s ph a).2.ends) = true; rw [hq]; rfl)
      rw [hlive]
      exact ih (k + 1) _ _ hq
    | true =>
      have hf := ends_fin hq
      have hz : hgo want ends l (k + 1) (hstep s ph a).1 (hstep s ph a).2 = (⟨l, k + 1, want, ends⟩, (hstep s ph a).1, (hstep s ph a).2) := by
        rw [hf]; cases l <;> rfl
      rw [hz]
      refine ⟨fun _ => ⟨rfl, rfl, rfl⟩, fun h => ?_⟩
      dsimp only at h; rw [hq] at h; cases h
structure Fed (goal : TS × RM) (r : RM) (t : TS) : Prop where
  hf : rfeed r t.rest = goal.2
  he : goal.1.ends = nowMore goal.2.now
  hw : goal.1.want = (if goal.1.ends = true then nowAcc goal.2.now else t.want)
  hn : goal.1.ends = false → goal.2.now = none
theorem rloop_feed : ∀ (n : Nat) (r : RM) (t : TS), r.now = none → r.left.toNat < n → t.ends = false → Fed (rloop n r t) (settle n r) t := by
  intro n
  induction n with
  | zero => intro r t _ h; omega
  | succ n ih =>
    intro r t hnow hn hte
    have hidle : r.idle = r := by unfold RM.idle; rw [hnow]
    by_cases hl : r.left < 1
    · rw [rloop_stop hl]
      have hs : settle (n + 1) r = r := by
        simp only [settle]; rw [if_neg (by rw [hnow]; simp [nowMore]), hidle, if_pos hl]
      rw [hs]
      exact ⟨feed_none hnow _, by rw [hnow]; exact hte, by rw [if_neg (by simp [hte])], fun _ => hnow⟩
    · have hs : settle (n + 1) r = settle n r.begin := by
        simp only [settle]; rw [if_neg (by rw [hnow]; simp [nowMore]), hidle, if_neg hl]
      rw [hs]
      simp only [rloop]
      rw [if_neg hl]
      obtain ⟨m, hm⟩ : ∃ m, n = m + 1 := ⟨n - 1, by omega⟩
      cases hp : (hnew r.base r.size r.cur r.nxt r.lap).2.ends with
      | true =>
        have hf := ends_fin hp
        have hz : hrunT t (hnew r.base r.size r.cur r.nxt r.lap).1 (hnew r.base r.size r.cur r.nxt r.lap).2 = (t, (hnew r.base r.size r.cur r.nxt r.lap).1, .fin) := by rw [hf]; exact hrun_fin _ _
        rw [hz, if_pos (show HPh.ends .fin = true from rfl)]
        have e : settle n r.begin = settle n (r.begin.note (hnew r.base r.size r.cur r.nxt r.lap).1) := by
          have e1 : r.begin = { r.begin with now := some ((hnew r.base r.size r.cur r.nxt r.lap).1, .fin) } := by
            rw [← hf]; rfl
          rw [hm, e1, settle_fin]
          rfl
        rw [e]
        exact ih _ t rfl (by show (r.left - 1).toNat < n; omega) hte
      | false =>
        have hlive : settle n r.begin = { r.begin with now := some ((hnew r.base r.size r.cur r.nxt r.lap).1, (hnew r.base r.size r.cur r.nxt r.lap).2) } := settle_live (by show (!(hnew r.base r.size r.cur r.nxt r.lap).2.ends) = true; rw [hp]; rfl)
        rw [hlive]
        have hg := feed_go (R := r.begin) (want := t.want) (ends := t.ends) t.rest t.k (hnew r.base r.size r.cur r.nxt r.lap).1 _ hp
        have hd : hgo t.want t.ends t.rest t.k (hnew r.base r.size r.cur r.nxt r.lap).1 (hnew r.base r.size r.cur r.nxt r.lap).2 = hrunT t (hnew r.base r.size r.cur r.nxt r.lap).1 (hnew r.base r.size r.cur r.nxt r.lap).2 := rfl
        rw [hd] at hg
        generalize hrunT t (hnew r.base r.size r.cur r.nxt r.lap).1 (hnew r.base r.size r.cur r.nxt r.lap).2 = z at hg
        cases hz : z.2.2.ends with
        | true =>
          rw [if_pos rfl]
          obtain ⟨h1, h2, h3⟩ := hg.1 hz
          have hfz := ends_fin hz
          have e : settle (r.begin.left.toNat + 1) { r.begin with now := some z.2 } = settle n (r.begin.note z.2.1) := by
            have e1 : z.2 = (z.2.1, .fin) := by rw [← hfz]
            rw [e1, settle_fin]
            exact settle_fuel _ _ _ (by show (r.left - 1).toNat < (r.left - 1).toNat + 1; omega) (by show (r.left - 1).toNat < n; omega) (.inl rfl)
          have := ih (r.begin.note z.2.1) z.1 rfl (by show (r.left - 1).toNat < n; omega) (by rw [h2]; exact hte)
          exact ⟨by rw [h1, e]; exact this.hf, this.he, by rw [this.hw, h3], this.hn⟩
        | false =>
          rw [if_neg (by simp)]
          obtain ⟨h1, h2, h3⟩ := hg.2 hz
          refine ⟨h1, ?_, ?_, fun h => ?_⟩
          · dsimp only; rw [h2]; show true = !z.2.2.ends; rw [hz]; rfl
          · dsimp only; rw [h2, if_pos rfl]; exact h3
          · dsimp only at h; rw [h2] at h; cases h
end Go.Proofs.YtnjljfjncfbinaaGreat
