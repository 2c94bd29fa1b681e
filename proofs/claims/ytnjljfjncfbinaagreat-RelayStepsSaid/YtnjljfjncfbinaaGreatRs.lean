/- RelaySteps: whatever a relay is told, access by access, each access, and what it tells of itself, is the document's: for every ring, state, number of times and told answers the law returns true, and its arguments read as they did. No condition. -/
import Derived.Test.YtnjljfjncfbinaaGreatRows
import Derived.Test.YtnjljfjncfbinaaGreatFz
import Derived.Test.YtnjljfjncfbinaaGreatOp1
import Derived.WalkKit
import Derived.ProofKit
import Derived.OpenShut
import Derived.ChangeOld
import Derived.Below
import Derived.Carry
import Derived.Lib.SmallJoins
set_option linter.all false
namespace Go.Proofs.YtnjljfjncfbinaaGreat.relayStepsDone
open Go Go.ChangeShapes Go.WideShapes Go.ChangeAt Go.RowKit Go.Joins Go.Deep
set_option linter.unusedVariables false
theorem own_ : ownKnob Tryz.prog.godebug = none := by kernel_rfl
theorem laidOut : laidOutB Tryz.prog = true := by kernel_rfl
theorem cells23 : Tryz.prog.cellsOf 23 = 2 := by kernel_rfl
theorem cells25 : Tryz.prog.cellsOf 25 = 3 := by kernel_rfl
set_option maxRecDepth 100000 in
theorem toldT : ToldT Tryz.prog 26 31 5 ⟨ "V", 28, 0, false, "", "", 0⟩ ⟨ "Done", 4, 1, false, "", "", 8⟩ ⟨ "B", 29, 2, false, "", "", 16⟩ where
  ht := Tryz.underlying26
  hE := Tryz.underlying31
  h0 := Tryz.underlying28
  h1 := Tryz.underlying4
  h2 := Tryz.underlying29
  hU := Tryz.underlying5
  cE := by kernel_rfl
  cU := by kernel_rfl
  c0 := by kernel_rfl
  c1 := by kernel_rfl
  c2 := by kernel_rfl
  o0 := rfl
  o1 := rfl
  o2 := rfl
theorem keptBut_of_base {ω w : World} (h : Base ω w) (may : MemPlace → Prop) : ω.keptBut w may := by
  refine ⟨h.2.2.1, h.2.2.2, fun i hi => ?_⟩
  rw [h.2.1 i hi]
  split <;> simp_all
theorem same_of_base {ω w : World} (h : Base ω w) {p : MemPlace} (hp : p.block < ω.heap.size) : ω.sameAt w p := by
  cases p with
  | cell b o => exact World.cell?_of_block (w := ω) (h.2.1 b hp)
  | map b => exact h.2.1 b hp
theorem trod_of_base {H : Type} {enc : TypeId × Value → H} {P : Program} {t : TypeId} (hl : laidOutB P = true) (hr : P.readableRec t = true) (hrow : t < P.types.size) {W W' : World} {v : Value} {d : DataW H} {ps : List MemPlace}
    (h : DataW.Trod enc P W 0 (fun _ => true) true t v d ps) (hb : Base W W') (hlt : ∀ x ∈ ps, x.block < W.heap.size) : DataW.Trod enc P W' 0 (fun b => decide (b < W.heap.size)) true t v d ps :=
  WideElems.Trod_stays hl hr hrow h (fun x hx => same_of_base hb (hlt x hx)) (fun x hx => by simpa using hlt x hx)
theorem inK_of_wf {k : IntKind} {n : Int} (h : (Lit.int k n).wf = true) : inK k n := by
  have : k.min ≤ n ∧ n ≤ k.max := by simpa [Lit.wf] using h
  cases k <;> exact this
theorem spot_of {P : Program} {W : World} {base : Nat} {t e : TypeId} {a : Option Addr} {len cap : Nat} (ht : P.underlying t = some (.slice e)) (h : Value.okWide P W .any base t (.slice a len cap)) : ∀ y, a = some y → y.spot = none := by
  rintro y rfl
  simp only [Value.okWide, ht, Cell.okWide, Cell.ok] at h
  exact h.2.2.2.1
set_option maxRecDepth 100000 in
theorem lifted (os : Os) (started : os.Started) (H : Type) (enc : TypeId × Value → H) :
    ReturnsInHanded {} Tryz.checked os 3 .any (Rows.relayStepsSpec.pre6 enc Tryz.prog Tryz.f3 Rows.relayStepsRow.domain false) (Rows.relayStepsSpec.post enc Tryz.prog Tryz.f3 false true false false) := by
  refine returnsInHanded_of_change (C := Tryz.checked) own_ started (by kernel_rfl) Tryz.func3
    (ChangeSpec.witness6 (enc := enc) (C := Tryz.checked) false ⟨#[], #[.agg #[.int .i64 0, .int .i64 0], .agg #[.int .i64 0, .int .i64 0, .int .i64 0], .int .i64 0, .slice none 0 0], []⟩ 8 (by kernel_rfl) (by kernel_rfl) (by kernel_rfl) (by kernel_rfl)) ?_
  intro W base args ds gs before hval0 hW hcnd _
  have hval : ∀ (j : Nat) t v, Tryz.f3.params[j]? = some t → args[j]? = some v → Value.okWide Tryz.prog W .any base t v := hval0
  have hW' := hW
  obtain ⟨p, q, hA0, hV, rfl, hfz, hnd⟩ := hW
  have hA : DataW.TrodAll enc Tryz.prog W 0 (fun _ => true) true Tryz.f3.params.toList args.toList ds p := hA0
  rw [Tryz.params3] at hA hval
  obtain ⟨v0, vs0, d0, ds0, p0, q0, hargs, rfl, rfl, h0, r0⟩ := trodAll_cons hA
  obtain ⟨v1, vs1, d1, ds1, p1, q1, rfl, rfl, rfl, h1, r1⟩ := trodAll_cons r0
  obtain ⟨v2, vs2, d2, ds2, p2, q2, rfl, rfl, rfl, h2, r2⟩ := trodAll_cons r1
  obtain ⟨v3, vs3, d3, ds3, p3, q3, rfl, rfl, rfl, h3, r3⟩ := trodAll_cons r2
  obtain ⟨rfl, rfl, rfl⟩ := trodAll_nil r3
  obtain rfl : args = #[v0, v1, v2, v3] := by cases args; simp_all
  obtain ⟨rfl, rfl⟩ := trodVars_none hV
  have k0 := h0
  have k1 := h1
  have k2 := h2
  have k3 := h3
  have lt0 : ∀ x ∈ p0, x.block < W.heap.size := by obtain ⟨m, hm⟩ := k0; exact DataW.trod_lt m _ _ _ hm
  have lt1 : ∀ x ∈ p1, x.block < W.heap.size := by obtain ⟨m, hm⟩ := k1; exact DataW.trod_lt m _ _ _ hm
  have lt2 : ∀ x ∈ p2, x.block < W.heap.size := by obtain ⟨m, hm⟩ := k2; exact DataW.trod_lt m _ _ _ hm
  have lt3 : ∀ x ∈ p3, x.block < W.heap.size := by obtain ⟨m, hm⟩ := k3; exact DataW.trod_lt m _ _ _ hm
  obtain ⟨c0, c1, y0, y1, m0, rfl, _, _, g0, g1⟩ := open_agg2 Tryz.underlying23 (by kernel_rfl) cells23 (hval 0 23 v0 rfl rfl) h0
  obtain ⟨c2, c3, c4, y2, y3, y4, m1, rfl, _, _, g2, g3, g4⟩ := open_agg3 Tryz.underlying25 (by kernel_rfl) cells25 (hval 1 25 v1 rfl rfl) h1
  obtain ⟨times, rfl, _, _, w2⟩ := open_int Tryz.underlying3 (hval 2 3 v2 rfl rfl) h2
  obtain ⟨a3, len3, cap3, rfl⟩ := okWide_slice Tryz.underlying26 (hval 3 26 v3 rfl rfl)
  have hspot := spot_of Tryz.underlying26 (hval 3 26 _ rfl rfl)
  obtain ⟨b0, e0, _, w0⟩ := DataW.trod_int Tryz.underlying3 g0
  obtain ⟨b1, e1, _, w1⟩ := DataW.trod_int Tryz.underlying3 g1
  obtain ⟨b2, e2, _, _⟩ := DataW.trod_int Tryz.underlying2 g2
  obtain ⟨b3, e3, _, _⟩ := DataW.trod_int Tryz.underlying2 g3
  obtain ⟨b4, e4, _, _⟩ := DataW.trod_int Tryz.underlying2 g4
  obtain rfl : c0 = .int .i64 b0 := by simpa using e0
  obtain rfl : c1 = .int .i64 b1 := by simpa using e1
  obtain rfl : c2 = .int .i64 b2 := by simpa using e2
  obtain rfl : c3 = .int .i64 b3 := by simpa using e3
  obtain rfl : c4 = .int .i64 b4 := by simpa using e4
  obtain ⟨fuel, hf⟩ := h3
  obtain ⟨L, hL, hlc, hr, hi, hu⟩ := open_told (enc := enc) toldT hspot (by simpa [Value.cells] using hf)
  subst hL
  clear hA0 hval0
  have hspec := relaySteps_spec W fixed_spec b0 b1 b2 b3 b4 times (inK_of_wf w0) (inK_of_wf w1) a3 cap3 L hlc (rd_base hr) (fun i x hx => rd_base (hi i x hx)) hu []
  refine (hspec W (holds_fact.2 ⟨trivial, Holds.start W⟩)).mono fun e W' hpost => ?_
  obtain ⟨v, rfl, H', ⟨rfl, rfl⟩, hh⟩ := hpost
  have hb := hh.1
  exact ⟨_, rfl, _, _, _, [], _, [], hW', trodAll_mk1 (shut_bool Tryz.underlying4 _), (trodAll_cons_mk (trod_of_base laidOut (by kernel_rfl) (of_decide_eq_true (by kernel_rfl)) k0 hb lt0) (trodAll_cons_mk (trod_of_base laidOut (by kernel_rfl) (of_decide_eq_true (by kernel_rfl)) k1 hb lt1) (trodAll_cons_mk (trod_of_base laidOut (by kernel_rfl) (of_decide_eq_true (by kernel_rfl)) k2 hb lt2) (trodAll_cons_mk (trod_of_base laidOut (by kernel_rfl) (of_decide_eq_true (by kernel_rfl)) k3 hb lt3) trodAll_mk0)))), rfl, keptBut_of_base hb _, fun h => by cases h⟩
theorem over : Rows.relayStepsRow.holds Tryz.pinned (OpenSpec.ofChange Rows.relayStepsSpec) :=
  OpenClaim.holds_of_wide 3 Tryz.f3 rfl rfl rfl rfl rfl rfl rfl ⟨rfl, rfl, rfl, rfl, rfl⟩ rfl rfl rfl rfl rfl (by kernel_rfl) Tryz.func3 (by kernel_rfl)
    (of_decide_eq_true (by kernel_rfl)) (by unfold Func.isWrapper; rw [if_neg (of_decide_eq_false (by kernel_rfl))]; exact ⟨rfl, rfl⟩)
    (fun os started H enc _ => lifted os started H enc)
end Go.Proofs.YtnjljfjncfbinaaGreat.relayStepsDone
namespace Go.Proofs.YtnjljfjncfbinaaGreat
/-- The statement. -/
theorem relaySteps_holds : Rows.RelayStepsSaid := relayStepsDone.over
#print axioms relaySteps_holds
end Go.Proofs.YtnjljfjncfbinaaGreat
