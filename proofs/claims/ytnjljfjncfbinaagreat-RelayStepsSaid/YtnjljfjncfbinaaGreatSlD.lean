/- Bytes of a text of one byte: a new row whose place behind the last is marked. -/
import Derived.Test.YtnjljfjncfbinaaGreatSlA
set_option linter.all false
namespace Go.Proofs.YtnjljfjncfbinaaGreat
open Go
theorem Holds.freeze {ω w : World} {L : List HP} {B : Nat} {c : Array Value} {t : TypeId} (h : Holds ω L w) (hB : ω.heap.size ≤ B) (hc : w.heap[B]? = some (.cells c t)) : Holds ω L (w.freeze ⟨B, c.size, none⟩ 1) := by
  obtain ⟨⟨h1, h2, h3, h4⟩, m, hs, hm⟩ := h
  have hw : ∀ b, (w.freeze ⟨B, c.size, none⟩ 1).heap[b]? = if b = B then some (.cells c t (c.size, c.size + 1)) else w.heap[b]? := by
    intro b
    unfold World.freeze
    rw [if_neg (by decide)]
    show (w.heap.modify B _)[b]? = _
    rw [Array.getElem?_modify]
    by_cases e : B = b
    · subst e; rw [if_pos rfl, if_pos rfl, hc]; rfl
    · rw [if_neg e, if_neg (fun h => e h.symm)]
  have hz : (w.freeze ⟨B, c.size, none⟩ 1).heap.size = w.heap.size := by unfold World.freeze; rw [if_neg (by decide)]; simp
  have ho1 : (w.freeze ⟨B, c.size, none⟩ 1).os = w.os := by unfold World.freeze; rw [if_neg (by decide)]
  have ho2 : (w.freeze ⟨B, c.size, none⟩ 1).output = w.output := by unfold World.freeze; rw [if_neg (by decide)]
  refine ⟨⟨by rw [hz]; exact h1, fun b hb => ?_, ho1.trans h3, ho2.trans h4⟩, m, hs, fun b o x hx => ?_⟩
  · rw [hw, if_neg (by omega)]; exact h2 b hb
  · obtain ⟨k1, k2, k3⟩ := hm b o x hx
    refine ⟨k1, by rw [hz]; exact k2, ?_⟩
    by_cases e : b = B
    · subst e
      cases x with
      | v x =>
        obtain ⟨k3, k4⟩ := k3
        have e1 : (w.freeze ⟨b, c.size, none⟩ 1).heap[b]? = some (.cells c t (c.size, c.size + 1)) := by rw [hw, if_pos rfl]
        simp only [World.cell?, World.frozen?, hc] at k3
        have ho : o < c.size := by
          rcases Nat.lt_or_ge o c.size with h | h
          · exact h
          · simp [Array.getElem?_eq_none h] at k3
        refine ⟨?_, ?_⟩
        · simp only [World.cell?, e1]; exact k3
        · simp only [World.frozen?, e1]; simp; omega
      | o x => obtain ⟨k3, k4⟩ := k3; rw [hc] at k3; cases k3; cases k4
    · have e1 : (w.freeze ⟨B, c.size, none⟩ 1).heap[b]? = w.heap[b]? := by rw [hw, if_neg e]
      cases x with
      | v x => simpa only [World.cell?, World.frozen?, e1] using k3
      | o x => rw [e1]; exact k3
theorem rl_bytes1 {ω : World} {P : Program} {N : Nat} {E : Env} {H : List HP} {Q : Post} {ops : Array Oper} {rest : List Oper} {o1 o2 : Oper} {d1 d2 : Tmp} {T e : TypeId} {x : Operand} {n : Int}
    (hg1 : o1.guard = none) (hd1 : o1.dst = some d1) (hN1 : d1 < N) (ho1 : o1.op = .buildSlice T 1 #[(0, x)]) (hx : ev E x = some (.int .u8 n))
    (hT : ∀ w, (underlying T).run P w = .ok (.slice e) w) (hs : ∀ w, (sizeOf e).run P w = .ok 1 w) (hz : ∀ w, (zeroValue e).run P w = .ok (.int .u8 0) w) (he : ∀ w, (underlying e).run P w = .ok (.int .u8) w)
    (hg2 : o2.guard = none) (hd2 : o2.dst = some d2) (hN2 : d2 < N) (ho2 : o2.op = .convert T T (.tmp d1))
    (h : ∀ b, RL ω P N ops Q rest ((d2, .slice (some ⟨b, 0, none⟩) 1 1) :: (d1, .slice (some ⟨b, 0, none⟩) 1 1) :: E) (own 1 (some ⟨b, 0, none⟩) 1 1 [.int .u8 n] :: H)) : RL ω P N ops Q (o1 :: o2 :: rest) E H := by
  intro a w ha hw
  simp only [wpL, Region.wanted, hg1, hg2, if_true]
  refine Upon.wp ?_
  have h1 : a.eval x = .int .u8 n := ha.eval hx
  have hc0 : (Value.int IntKind.u8 0).cells.toList = [.int .u8 0] := rfl
  have hf : Instr.fill (fun i => some (i * 1, 1)) ((List.replicate 1 (Value.int IntKind.u8 0).cells.toList).flatten).toArray [(0, .int .u8 n)] = some #[.int .u8 n] := by
    have e1 : (List.replicate 1 (Value.int IntKind.u8 0).cells.toList).flatten = [.int .u8 0] := by simp [hc0]
    rw [e1]
    simp only [Instr.fill, Nat.zero_mul]
    rw [if_neg (by show ¬ (false = true); exact Bool.false_ne_true)]
    congr 1
  have hrun1 : (execOp a.eval o1).run P w = .ok (.value (.slice (some ⟨w.heap.size, 0, none⟩) 1 1)) (w.alloc (.cells #[.int .u8 n] e)) := by
    have hl : (#[(0, x)].map fun (i, x) => (i, a.eval x)).toList = [(0, .int .u8 n)] := by
      rw [Array.toList_map]
      show [(0, a.eval x)] = _
      rw [h1]
    have g1 : ¬ (1 * 1 > 2 ^ 24) := by decide
    have g2 : ¬ (1 * 1 = 0) := by decide
    rw [← init_cells (.int .u8 0) 1 1 rfl] at hf
    simp only [execOp, ho1, Sem.run_bind, Instr.buildSlice, hT, Result.andThen_ok, hs, hl, Sem.run_ite, g1, if_false]
    simp only [g2, if_false, Sem.run_pure, Sem.run_bind, hz, Result.andThen_ok, hf, newRow, run_newObj]
    rfl
  rw [hrun1]
  have ha1 := ha.put hN1 (.slice (some ⟨w.heap.size, 0, none⟩) 1 1)
  rw [hd1]
  refine Upon.wp ?_
  have h2 : (a.put (some d1) (.slice (some ⟨w.heap.size, 0, none⟩) 1 1)).eval (.tmp d1) = .slice (some ⟨w.heap.size, 0, none⟩) 1 1 := ha1.eval (look_here _ _ _)
  have hheap : (w.alloc (.cells #[.int .u8 n] e)).heap[w.heap.size]? = some (.cells #[.int .u8 n] e) := by
    show (w.heap.push _)[w.heap.size]? = _
    simp
  have hsh : (w.alloc (.cells #[.int .u8 n] e)).shape? w.heap.size = some (e, 1) := by unfold World.shape?; rw [hheap]; rfl
  have hrun2 : (execOp (a.put (some d1) (.slice (some ⟨w.heap.size, 0, none⟩) 1 1)).eval o2).run P (w.alloc (.cells #[.int .u8 n] e)) = .ok (.value (.slice (some ⟨w.heap.size, 0, none⟩) 1 1)) ((w.alloc (.cells #[.int .u8 n] e)).freeze ⟨w.heap.size, 1, none⟩ 1) := by
    simp [execOp, ho2, h2, convert, hT, he, markStringish, hsh]
  rw [hrun2]
  rw [hd2]
  have hH := (hw.alloc (c := #[.int .u8 n]) (t := e)).freeze (B := w.heap.size) hw.1.1 hheap
  exact h w.heap.size _ _ (ha1.put hN2 _) (hH.imp fun _ h => own_of_row (by simp) h)
end Go.Proofs.YtnjljfjncfbinaaGreat
