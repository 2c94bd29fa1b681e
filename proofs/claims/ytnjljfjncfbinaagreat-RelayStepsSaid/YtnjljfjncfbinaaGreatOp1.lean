/- A row's arguments, opened: bytes, told answers. -/
import Derived.Test.YtnjljfjncfbinaaGreatFj
import Derived.Deep.Slices
import Derived.Deep.Strs
import Derived.DataReads
set_option linter.all false
namespace Go.Proofs.YtnjljfjncfbinaaGreat
open Go Go.ChangeShapes Go.WideShapes Go.Deep
theorem add_none {b off i : Nat} : (⟨b, off, none⟩ : Addr).add i = ⟨b, off + i, none⟩ := addr_add _ _ _
theorem byte_of {n : Int} (h : (Lit.int .u8 n).wf = true) : (((UInt8.ofNat n.toNat).toNat : Nat) : Int) = n := by
  have hb : 0 ≤ n ∧ n ≤ 255 := by simpa [Lit.wf, IntKind.min, IntKind.max, IntKind.signed, IntKind.bits] using h
  simp only [UInt8.toNat_ofNat']
  omega
section
variable {H : Type} {enc : TypeId × Value → H} {P : Program} {w : World} {held : Bool}
/-- A slice of bytes that came in. -/
theorem open_bytes {t e : TypeId} {fuel : Nat} {v : Value} {x : DataW H × List MemPlace} (ht : P.underlying t = some (.slice e)) (he : P.underlying e = some (.int .u8)) (hc : P.cellsOf e = 1)
    (h : DataW.trod enc P w 0 (fun _ => true) held fuel t [v] = some x) : ∃ (p : Option Addr) (c : Nat) (l : List UInt8), v = .slice p l.length c ∧ RdW w 1 p l.length (byteC l) ∧ l.length ≤ c := by
  rcases open_ints ht he hc h with ⟨hcs, _⟩ | ⟨a, len, cap, zs, hcs, _, hl, hm, hz, _, hcell, hwz⟩
  · cases hcs; exact ⟨none, 0, [], rfl, ⟨by simp, rfl⟩, Nat.le_refl _⟩
  · cases hcs
    simp only [if_true] at hz
    refine ⟨some a, cap, (zs.take len).map fun n => UInt8.ofNat n.toNat, by simp [hz, Nat.min_eq_left hl], ⟨by simp, ?_⟩, by simp; omega⟩
    have hlen : ((zs.take len).map fun n => UInt8.ofNat n.toNat).length = len := by simp [hz, Nat.min_eq_left hl]
    rw [hlen]
    by_cases h0 : len = 0
    · refine ⟨.inl h0, fun i v hv => ?_⟩
      subst h0
      simp [byteC] at hv
    · have hs := World.cell?_spot (hcell 0 (by omega))
      obtain ⟨b, off, sp⟩ := a
      have hs : sp = none := by simpa [Addr.add] using hs
      subst hs
      refine ⟨.inr rfl, fun i v hv => ?_⟩
      have hi : i < len := by
        rcases Nat.lt_or_ge i len with h | h
        · exact h
        · rw [List.getElem?_eq_none (by simp [byteC]; omega)] at hv; cases hv
      have hci := hcell i (by omega)
      rw [add_none] at hci
      have hzi : zs[i]? = some (zs.getD i 0) := by rw [List.getD_eq_getElem?_getD, List.getElem?_eq_getElem (by omega)]; rfl
      have hwi := byte_of (hwz _ (List.mem_of_getElem? hzi))
      simp only [byteC, List.map_map, List.getElem?_map, List.getElem?_take, hi, if_true, hzi, Option.map_some, Function.comp, Option.some.injEq] at hv
      rw [hwi] at hv
      rw [← hv]; exact hci
structure ToldT (P : Program) (T E U : TypeId) (f0 f1 f2 : Field) : Prop where
  ht : P.underlying T = some (.slice E)
  hE : P.underlying E = some (.struct #[f0, f1, f2])
  h0 : P.underlying f0.type = some (.int .u64)
  h1 : P.underlying f1.type = some .bool
  h2 : P.underlying f2.type = some (.slice U)
  hU : P.underlying U = some (.int .u8)
  cE : P.cellsOf E = 3
  cU : P.cellsOf U = 1
  c0 : P.cellsOf f0.type = 1
  c1 : P.cellsOf f1.type = 1
  c2 : P.cellsOf f2.type = 1
  o0 : f0.offset = 0
  o1 : f1.offset = 1
  o2 : f2.offset = 2
def tcell (x : Ans × Option Addr × Nat) : List Value := [.int .u64 x.1.v, .bool x.1.d, .slice x.2.1 x.1.data.length x.2.2]
theorem tcellsAt {L : TL} : ∀ {i j : Nat} {x : Ans × Option Addr × Nat}, L[i]? = some x → j < 3 → (tcells L)[i * 3 + j]? = (tcell x)[j]? := by
  induction L with
  | nil => intro i j x h; simp at h
  | cons y L ih =>
    intro i j x h hj
    have e : tcells (y :: L) = tcell y ++ tcells L := by simp [tcells, tcell]
    rw [e]
    cases i with
    | zero =>
      simp at h; subst h
      rw [List.getElem?_append_left (by simp [tcell]; omega)]
      simp
    | succ i =>
      rw [List.getElem?_append_right (by simp [tcell]; omega)]
      rw [show (i + 1) * 3 + j - (tcell y).length = i * 3 + j from by simp [tcell]; omega]
      exact ih (by simpa using h) hj
theorem tcells_len (L : TL) : (tcells L).length = L.length * 3 := by induction L with | nil => rfl | cons x l ih => simp [tcells] at *; try omega
/-- A slice of answers that came in. -/
theorem open_told {T E U : TypeId} {f0 f1 f2 : Field} (tt : ToldT P T E U f0 f1 f2) {fuel : Nat} {a : Option Addr} {len cap : Nat} {x : DataW H × List MemPlace} (hspot : ∀ y, a = some y → y.spot = none)
    (h : DataW.trod enc P w 0 (fun _ => true) held fuel T [.slice a len cap] = some x) : ∃ L : TL, L.length = len ∧ len ≤ cap ∧ RdW w 3 a len (tcells L) ∧ (∀ (i : Nat) (x : Ans × Option Addr × Nat), L[i]? = some x → RdW w 1 x.2.1 x.1.data.length (byteC x.1.data)) ∧
      ∀ (i : Nat) (x : Ans × Option Addr × Nat), L[i]? = some x → inK .u64 x.1.v := by
  rcases open_slice tt.ht h with ⟨hcs, _⟩ | ⟨a', len', cap', m, n, D, Pl, hcs, _, hl, hm, hmm, _, hx⟩
  · cases hcs
    exact ⟨[], rfl, Nat.le_refl _, ⟨rfl, rfl⟩, fun i x h => by simp at h, fun i x h => by simp at h⟩
  · cases hcs
    simp only [if_true] at hmm
    subst hmm
    have hsp := hspot a' rfl
    obtain ⟨b, off, sp⟩ := a'
    dsimp only at hsp
    subst hsp
    have each : ∀ i, i < len → ∃ q : Ans × Option Addr × Nat, (∀ j v, (tcell q)[j]? = some v → w.cell? ⟨b, off + (i * 3 + j), none⟩ = some v) ∧ RdW w 1 q.2.1 q.1.data.length (byteC q.1.data) ∧ inK .u64 q.1.v := by
      intro i hi
      obtain ⟨cs', h1, h2⟩ := hx i (by omega)
      rw [tt.cE] at h1
      obtain ⟨y0, y1, y2, n', _, hlen, g0, g1, g2⟩ := trod_struct3 tt.hE h2
      rw [tt.cE] at hlen
      match cs', hlen with
      | [c0, c1, c2], _ =>
        rw [tt.o0, tt.c0] at g0
        rw [tt.o1, tt.c1] at g1
        rw [tt.o2, tt.c2] at g2
        obtain ⟨v, e0, _, hw⟩ := DataW.trod_int tt.h0 g0
        obtain ⟨d, e1, _⟩ := DataW.trod_bool tt.h1 g1
        obtain ⟨p, c, l, e2, hr, _⟩ := open_bytes (v := c2) tt.h2 tt.hU tt.cU g2
        have k0 : c0 = .int .u64 v := by simpa using e0
        have k1 : c1 = .bool d := by simpa using e1
        subst k0; subst k1; subst e2
        refine ⟨(⟨v, d, l⟩, p, c), fun j u hu => ?_, hr, ?_⟩
        · obtain ⟨_, hall⟩ := World.cells?_some h1
          have hj : j < 3 := by
            rcases Nat.lt_or_ge j 3 with h | h
            · exact h
            · rw [List.getElem?_eq_none (by simp [tcell]; omega)] at hu; cases hu
          have := hall.2 j hj
          rw [add_none, add_none] at this
          rw [show off + (i * 3 + j) = off + i * 3 + j from by omega, this]
          exact hu
        · show inK .u64 v
          have : IntKind.u64.min ≤ v ∧ v ≤ IntKind.u64.max := by simpa [Lit.wf] using hw
          exact this
    haveI : Inhabited (Ans × Option Addr × Nat) := ⟨(⟨0, false, []⟩, none, 0)⟩
    obtain ⟨Q, hQ⟩ := choose_lt each
    have hget : ∀ (i : Nat) (x : Ans × Option Addr × Nat), ((List.range len).map Q)[i]? = some x → i < len ∧ x = Q i := by
      intro i x hx
      simp only [List.getElem?_map, Option.map_eq_some_iff] at hx
      obtain ⟨k, hk, e⟩ := hx
      have hi : i < len := by
        rcases Nat.lt_or_ge i len with h | h
        · exact h
        · rw [List.getElem?_eq_none (by simpa using h)] at hk; cases hk
      rw [List.getElem?_range hi] at hk
      cases hk
      exact ⟨hi, e.symm⟩
    refine ⟨(List.range len).map Q, by simp, hl, ⟨by rw [tcells_len]; simp, .inr rfl, ?_⟩, ?_, ?_⟩
    · intro k v hv
      have hk : k < len * 3 := by
        rcases Nat.lt_or_ge k (len * 3) with h | h
        · exact h
        · rw [List.getElem?_eq_none (by rw [tcells_len]; simpa using h)] at hv; cases hv
      have hi : k / 3 < len := by omega
      have hLi : ((List.range len).map Q)[k / 3]? = some (Q (k / 3)) := by simp [List.getElem?_range hi]
      have := tcellsAt (j := k % 3) hLi (Nat.mod_lt _ (by omega))
      rw [show k / 3 * 3 + k % 3 = k from by omega] at this
      rw [this] at hv
      have := (hQ _ hi).1 _ _ hv
      rwa [show k / 3 * 3 + k % 3 = k from by omega] at this
    · intro i x hx
      obtain ⟨hi, rfl⟩ := hget i x hx
      exact (hQ i hi).2.1
    · intro i x hx
      obtain ⟨hi, rfl⟩ := hget i x hx
      exact (hQ i hi).2.2
end
end Go.Proofs.YtnjljfjncfbinaaGreat
