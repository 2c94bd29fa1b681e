import Derived.Test.YtnjljfjncfbinaaGreatFj
set_option linter.all false
namespace Go.Proofs.YtnjljfjncfbinaaGreat
open Go Go.Proofs
set_option maxRecDepth 100000
theorem isPow_list : (List.range 8193).all (fun n => decide (n < 64) || !(isPow (n : Int)) || [64, 128, 256, 512, 1024, 2048, 4096, 8192].contains n) = true := by decide +kernel
theorem isPow_some {n : Int} (h : isPow n = true) (h1 : 64 ≤ n) (h2 : n ≤ 8192) : ∃ k : Nat, 6 ≤ k ∧ k ≤ 13 ∧ n = ((2 ^ k : Nat) : Int) := by
  have h3 := List.all_eq_true.1 isPow_list n.toNat (by simp; omega)
  have e : ((n.toNat : Nat) : Int) = n := by omega
  simp only [e, h, Bool.or_eq_true, decide_eq_true_eq, Bool.not_true, Bool.false_eq_true, or_false] at h3
  rcases h3 with h3 | h3
  · omega
  · have h4 : n = 64 ∨ n = 128 ∨ n = 256 ∨ n = 512 ∨ n = 1024 ∨ n = 2048 ∨ n = 4096 ∨ n = 8192 := by simp at h3; omega
    rcases h4 with h | h | h | h | h | h | h | h
    · exact ⟨6, by omega, by omega, by rw [h]; rfl⟩
    · exact ⟨7, by omega, by omega, by rw [h]; rfl⟩
    · exact ⟨8, by omega, by omega, by rw [h]; rfl⟩
    · exact ⟨9, by omega, by omega, by rw [h]; rfl⟩
    · exact ⟨10, by omega, by omega, by rw [h]; rfl⟩
    · exact ⟨11, by omega, by omega, by rw [h]; rfl⟩
    · exact ⟨12, by omega, by omega, by rw [h]; rfl⟩
    · exact ⟨13, by omega, by omega, by rw [h]; rfl⟩
theorem isPow_two : ∀ k : Nat, k < 14 → isPow ((2 ^ k : Nat) : Int) = true := by decide +kernel
theorem log2_two : ∀ k : Nat, k < 14 → (log2 ((2 ^ k : Nat) : Int)).2 = true := by decide +kernel
theorem isPow_log2 {n : Int} (h1 : 64 ≤ n) (h2 : n ≤ 8192) : (log2 n).2 = isPow n := by
  cases h : isPow n with
  | true =>
    obtain ⟨k, _, hk, rfl⟩ := isPow_some h h1 h2
    exact log2_two k (by omega)
  | false =>
    cases h' : (log2 n).2 with
    | false => rfl
    | true =>
      obtain ⟨j, _, rfl⟩ := log2_some h'
      have hj : j < 14 := by
        rcases Nat.lt_or_ge j 14 with h | h
        · exact h
        · have : 2 ^ 14 ≤ 2 ^ j := Nat.pow_le_pow_right (by decide) h
          omega
      rw [isPow_two j hj] at h; cases h
theorem right_ringErr (base size : Int) : right base size = decide (ringErr base size = 0) := by
  by_cases h : 64 ≤ size ∧ size ≤ 8192
  · have e := isPow_log2 h.1 h.2
    unfold right ringErr
    rw [e]
    by_cases hp : isPow size = true
    · by_cases hr : 0 ≤ base ∧ base.tmod 8 = 0 ∧ base ≤ 131072 - size - 32
      · rw [if_neg (by simp [hp]; omega)]; simp [h, hp, hr]
      · rw [if_pos (by simp [hp]; omega)]; simp [h, hp]; omega
    · rw [if_pos (by simp [hp])]; simp [hp]
  · unfold right ringErr
    rw [if_pos (by omega)]; simp; omega
theorem iand_mask (c : Nat) (k : Nat) (hk : k ≤ 62) : iand .i64 (c : Int) (((2 ^ k : Nat) : Int) - 1) = ((c % 2 ^ k : Nat) : Int) := by
  have hp : 0 < 2 ^ k := Nat.pow_pos (by decide)
  have hle : 2 ^ k ≤ 2 ^ 62 := Nat.pow_le_pow_right (by decide) hk
  have e : (((2 ^ k : Nat) : Int) - 1) = ((2 ^ k - 1 : Nat) : Int) := by omega
  unfold iand
  rw [e]
  have e2 : ((BitVec.ofInt IntKind.i64.bits (c : Int)) &&& (BitVec.ofInt IntKind.i64.bits ((2 ^ k - 1 : Nat) : Int))).toNat = c % 2 ^ k := by
    rw [BitVec.toNat_and, BitVec.ofInt_natCast, BitVec.ofInt_natCast, BitVec.toNat_ofNat, BitVec.toNat_ofNat]
    show (c % 2 ^ 64) &&& ((2 ^ k - 1) % 2 ^ 64) = _
    rw [Nat.mod_eq_of_lt (a := 2 ^ k - 1) (by omega), Nat.and_two_pow_sub_one_eq_mod, Nat.mod_mod_of_dvd]
    exact Nat.pow_dvd_pow 2 (by omega)
  rw [e2]
  have := Nat.mod_lt c hp
  exact wrap_inK (k := .i64) ⟨by omega, by omega⟩
theorem iand_wrap (a b : Int) : iand .i64 (IntKind.i64.wrap a) b = iand .i64 a b := by
  unfold iand
  have : BitVec.ofInt IntKind.i64.bits (IntKind.i64.wrap a) = BitVec.ofInt IntKind.i64.bits a := by
    apply BitVec.eq_of_toNat_eq
    simp [IntKind.wrap, IntKind.bits, IntKind.signed, BitVec.toNat_ofInt]
    split <;> omega
  rw [this]
theorem plc_mod {c size : Int} (hc : inK .u64 c) (hp : isPow size = true) (h1 : 64 ≤ size) (h2 : size ≤ 8192) : plc c size = c.tmod size := by
  obtain ⟨k, _, hk, rfl⟩ := isPow_some hp h1 h2
  unfold plc mask
  rw [if_pos hp, iand_wrap]
  obtain ⟨n, rfl⟩ : ∃ n : Nat, c = n := ⟨c.toNat, by omega⟩
  rw [iand_mask n k (by omega)]
  rfl
theorem sgn_w32 {n : Nat} (v : Int) (h : (n : Int) = v % 4294967296) (l : List UInt8) (hl : num l = n) : sgn l = w32 v := by
  unfold sgn w32
  rw [hl]
  simp only [IntKind.wrap, IntKind.bits, IntKind.signed]
  split <;> simp <;> omega
theorem num_lo (v : Nat) : num (((rbytes v 8).drop 0).take 4) = v % 4294967296 := by
  simp [rbytes, List.range_succ, num]
  omega
theorem num_hi (v : Nat) (h : v < 18446744073709551616) : num (((rbytes v 8).drop 4).take 4) = v / 4294967296 := by
  simp [rbytes, List.range_succ, num]
  omega
theorem rsplit_split (v : Nat) (h : v < 18446744073709551616) : rsplit v = split (v : Int) := by
  unfold rsplit split
  rw [sgn_w32 (v : Int) (by omega) _ (num_lo v), sgn_w32 ((v : Int).fdiv 4294967296) (n := v / 4294967296) (by rw [Int.fdiv_eq_ediv_of_nonneg _ (by omega)]; omega) _ (num_hi v h)]
theorem and_not7 (x : BitVec 64) : x &&& ~~~7#64 = (x >>> 3) <<< 3 := by
  apply BitVec.eq_of_getLsbD_eq
  intro i hi
  have h7 : ∀ j : Nat, j < 64 → (~~~7#64).getLsbD j = decide (3 ≤ j) := by decide
  rw [BitVec.getLsbD_and, h7 i hi, BitVec.getLsbD_shiftLeft, BitVec.getLsbD_ushiftRight]
  by_cases h : i < 3
  · simp [h] <;> omega
  · simp [h, hi, show 3 + (i - 3) = i from by omega] <;> omega
theorem iandNot7 {n : Int} (h : 0 ≤ n ∧ n ≤ 4611686018427387904) : iandNot .i64 n (8 - 1) = n - n % 8 := by
  obtain ⟨m, rfl⟩ : ∃ m : Nat, n = m := ⟨n.toNat, by omega⟩
  unfold iandNot
  have e : ((BitVec.ofInt IntKind.i64.bits (m : Int)) &&& ~~~(BitVec.ofInt IntKind.i64.bits (8 - 1))).toNat = m / 8 * 8 := by
    show ((BitVec.ofInt 64 (m : Int)) &&& ~~~(7#64)).toNat = _
    rw [and_not7, BitVec.ofInt_natCast]
    simp [Nat.shiftRight_eq_div_pow, Nat.shiftLeft_eq]
    omega
  rw [e, wrap_inK (k := .i64) ⟨by omega, by omega⟩]
  omega
theorem isPow8 : isPow 8 = true := by decide +kernel
theorem log8 : (log2 8).2 = true := by decide +kernel
theorem ralign_align {n : Int} (h : 0 ≤ n ∧ n ≤ 2147483647) : ralign n 8 = align n 8 := by
  have e := iandNot7 (n := n) ⟨h.1, by omega⟩
  have em : n.tmod 8 = n % 8 := Int.tmod_eq_emod_of_nonneg h.1
  have ed : n.tdiv 8 = n / 8 := Int.tdiv_eq_ediv_of_nonneg h.1
  have e2 : (4611686018427387904 : Int).tdiv 8 = 576460752303423488 := by decide
  by_cases hm : n % 8 = 0
  · rw [ralign_same log8 ⟨h.1, by omega⟩ (by rw [em]; exact hm), align_same n 8 isPow8 ⟨h.1, by omega⟩ (by rw [e]; omega)]
  · rw [ralign_up log8 ⟨h.1, by omega⟩ (by rw [em]; exact hm) (by rw [ed, e2, wrap_inK (k := .i64) (a := n / 8) ⟨by omega, by omega⟩, wrap_inK (k := .i64) (a := 576460752303423488) ⟨by omega, by omega⟩]; omega),
      align_up n 8 isPow8 ⟨h.1, by omega⟩ (by rw [e]; omega) (by rw [e, wrap_inK (k := .i64) ⟨by omega, by omega⟩]; omega), ed, e,
      wrap_inK (k := .i64) (a := n / 8) ⟨by omega, by omega⟩, wrap_inK (k := .i64) (a := (n / 8 + 1) * 8) ⟨by omega, by omega⟩, wrap_inK (k := .i64) (a := n - n % 8 + 8) ⟨by omega, by omega⟩]
    congr 1; omega
theorem align8 {n : Int} (h : 0 ≤ n ∧ n ≤ 2147483647) : n ≤ (align n 8).1 ∧ (align n 8).1 ≤ n + 7 := by
  have e := iandNot7 (n := n) ⟨h.1, by omega⟩
  by_cases hm : n % 8 = 0
  · rw [align_same n 8 isPow8 ⟨h.1, by omega⟩ (by rw [e]; omega)]; dsimp only; omega
  · rw [align_up n 8 isPow8 ⟨h.1, by omega⟩ (by rw [e]; omega) (by rw [e, wrap_inK (k := .i64) ⟨by omega, by omega⟩]; omega), e, wrap_inK (k := .i64) (a := n - n % 8 + 8) ⟨by omega, by omega⟩]
    dsimp only; omega
end Go.Proofs.YtnjljfjncfbinaaGreat
