/-
  No cell of these rows narrows 'for every input' (looked for: loops, veiled, ifaces, maps, wideKeys, modest, calm, conditions, laid).
  DERIVED. THE GIVEN ROWS OF THIS SEAT. 4 by the template 'for every input the law returns true; each argument reads behind the call as it read before'; 0 by the template 'total and deterministic' (their statements: YtnjljfjncfbinaaGreatTotals.lean).
  GIVEN WITH THE SEED: the statements are not yours to turn. If you find one false, say at which input.
  Laid BY PROGRAM, IN A SANDBOX (cutbox-rows.mjs): the forced cells as the released guide's own fill.sh prints them over the translation fa2f9859b45a3a1c… (all of the seat's roots in one cut). By AI agents, Wed Nov 11 2026. No macro, syntax, notation, axiom, sorry.
-/
import Derived.Test.YtnjljfjncfbinaaGreatChecked
import GoSem.Claim
import GoSem.ClaimJoined
import GoSem.ClaimMapViews
import Derived.JoinedTies
import Derived.KernelRfl
namespace Go.Proofs.YtnjljfjncfbinaaGreat
/- THE CELL 'sum', in the pinned program and in every row, IS THE sha256 OF THE DUMP (.gsa) THAT YtnjljfjncfbinaaGreatProg.lean LOADS. Nothing in Lean hashes anything: it is a label: what it is worth is what the hold of that sum in a sandbox is worth. -/
noncomputable def Tryz.pinned : Pinned := { name := "ytnjljfjncfbinaagreat", sum := "fa2f9859b45a3a1c3fa3e78290fb3c8df7950eab388e91e83d8b3dce1039e188", checked := Tryz.checked }
namespace Rows
def none {H : Type} : Left H := { results := [], args := [] }

/-- 'millstreamlaw13.RelaySteps': WHATEVER THE INPUT: true; the input reads as it did. -/
def relayStepsSpec : ChangeSpec := { name := "relaySteps", fn := fun _ => fun
  | [d1, d2, d3, d4] => { results := [.lit (.bool true)], args := [d1, d2, d3, d4] }
  | _ => none }
def relayStepsRow : OpenClaim := { program := "ytnjljfjncfbinaagreat", sum := "fa2f9859b45a3a1c3fa3e78290fb3c8df7950eab388e91e83d8b3dce1039e188", func := "millstream/millstreamlaw13.RelaySteps", spec := "relaySteps", inPlace := ["sync/atomic.AddInt64", "sync/atomic.LoadUint64", "sync/atomic.CompareAndSwapUint64", "sync/atomic.AddUint64"], unfollowed := true, recurses := true, apart := false }
def RelayStepsSaid : Prop := relayStepsRow.holds Tryz.pinned (OpenSpec.ofChange relayStepsSpec)

/-- ITS FALSE NEIGHBOUR: 'it returns false'. Refute it at one input. -/
def relayStepsWrong : ChangeSpec := { name := "relaySteps", fn := fun _ => fun
  | [d1, d2, d3, d4] => { results := [.lit (.bool false)], args := [d1, d2, d3, d4] }
  | _ => none }
def RelayStepsWrongFalsely : Prop := relayStepsRow.holds Tryz.pinned (OpenSpec.ofChange relayStepsWrong)

/-- 'millstreamlaw13.RelayResumes': WHATEVER THE INPUT: true; the input reads as it did. -/
def relayResumesSpec : ChangeSpec := { name := "relayResumes", fn := fun _ => fun
  | [d1, d2, d3] => { results := [.lit (.bool true)], args := [d1, d2, d3] }
  | _ => none }
def relayResumesRow : OpenClaim := { program := "ytnjljfjncfbinaagreat", sum := "fa2f9859b45a3a1c3fa3e78290fb3c8df7950eab388e91e83d8b3dce1039e188", func := "millstream/millstreamlaw13.RelayResumes", spec := "relayResumes", inPlace := ["sync/atomic.AddInt64", "sync/atomic.LoadUint64", "sync/atomic.CompareAndSwapUint64", "sync/atomic.AddUint64"], unfollowed := true, recurses := true, apart := false }
def RelayResumesSaid : Prop := relayResumesRow.holds Tryz.pinned (OpenSpec.ofChange relayResumesSpec)

/-- ITS FALSE NEIGHBOUR: 'it returns false'. Refute it at one input. -/
def relayResumesWrong : ChangeSpec := { name := "relayResumes", fn := fun _ => fun
  | [d1, d2, d3] => { results := [.lit (.bool false)], args := [d1, d2, d3] }
  | _ => none }
def RelayResumesWrongFalsely : Prop := relayResumesRow.holds Tryz.pinned (OpenSpec.ofChange relayResumesWrong)

/-- 'millstreamlaw13.RelayAgrees': WHATEVER THE INPUT: true; the input reads as it did. -/
def relayAgreesSpec : ChangeSpec := { name := "relayAgrees", fn := fun _ => fun
  | [d1, d2, d3] => { results := [.lit (.bool true)], args := [d1, d2, d3] }
  | _ => none }
def relayAgreesRow : OpenClaim := { program := "ytnjljfjncfbinaagreat", sum := "fa2f9859b45a3a1c3fa3e78290fb3c8df7950eab388e91e83d8b3dce1039e188", func := "millstream/millstreamlaw13.RelayAgrees", spec := "relayAgrees", inPlace := ["sync/atomic.AddInt64", "sync/atomic.LoadUint64", "sync/atomic.CompareAndSwapUint64", "sync/atomic.AddUint64"], unfollowed := true, recurses := true, apart := false }
def RelayAgreesSaid : Prop := relayAgreesRow.holds Tryz.pinned (OpenSpec.ofChange relayAgreesSpec)

/-- ITS FALSE NEIGHBOUR: 'it returns false'. Refute it at one input. -/
def relayAgreesWrong : ChangeSpec := { name := "relayAgrees", fn := fun _ => fun
  | [d1, d2, d3] => { results := [.lit (.bool false)], args := [d1, d2, d3] }
  | _ => none }
def RelayAgreesWrongFalsely : Prop := relayAgreesRow.holds Tryz.pinned (OpenSpec.ofChange relayAgreesWrong)

/-- 'millstreamlaw16.AppendsRow': WHATEVER THE INPUT: true; the input reads as it did. -/
def appendsRowSpec : ChangeSpec := { name := "appendsRow", fn := fun _ => fun
  | [d1, d2, d3] => { results := [.lit (.bool true)], args := [d1, d2, d3] }
  | _ => none }
def appendsRowRow : OpenClaim := { program := "ytnjljfjncfbinaagreat", sum := "fa2f9859b45a3a1c3fa3e78290fb3c8df7950eab388e91e83d8b3dce1039e188", func := "millstream/millstreamlaw16.AppendsRow", spec := "appendsRow", inPlace := ["sync/atomic.AddInt64", "sync/atomic.LoadUint64", "sync/atomic.CompareAndSwapUint64", "sync/atomic.AddUint64"], unfollowed := true, recurses := true, apart := false }
def AppendsRowSaid : Prop := appendsRowRow.holds Tryz.pinned (OpenSpec.ofChange appendsRowSpec)

/-- ITS FALSE NEIGHBOUR: 'it returns false'. Refute it at one input. -/
def appendsRowWrong : ChangeSpec := { name := "appendsRow", fn := fun _ => fun
  | [d1, d2, d3] => { results := [.lit (.bool false)], args := [d1, d2, d3] }
  | _ => none }
def AppendsRowWrongFalsely : Prop := appendsRowRow.holds Tryz.pinned (OpenSpec.ofChange appendsRowWrong)

/- THE SECOND FORM. 'bulk': how many values and letters a reading holds, each counted each time it is reached (what is shared counts as often as it is met; a slice's spare places count too). A statement '..UptoSaid' is the law's where the arguments, and the package variables that the reading takes, are together of bulk at most 1048576: NARROWER than '..Said'. Prove '..Said' where nothing that the law and all that it calls make is longer than what came in: it says more and counts as full. Else prove '..UptoSaid'. A law counts once. -/
mutual
def uptoBulk {H : Type} : DataW H → Nat
  | .lit (.string bytes) => bytes.length + 1
  | .lit _ => 1
  | .nil => 1
  | .ptr d => uptoBulk d + 1
  | .slice elems spare => uptoBulkAll elems + uptoBulkAll spare + 1
  | .agg parts => uptoBulkAll parts + 1
  | .iface _ d => uptoBulk d + 1
  | .map entries => uptoBulkEntries entries + 1
  | .held _ => 1
def uptoBulkAll {H : Type} : List (DataW H) → Nat
  | [] => 0
  | d :: r => uptoBulk d + uptoBulkAll r
def uptoBulkEntries {H : Type} : List (Lit × DataW H) → Nat
  | [] => 0
  | x :: r => uptoBulkEntry x + uptoBulkEntries r
def uptoBulkEntry {H : Type} : Lit × DataW H → Nat
  | (.string bytes, d) => bytes.length + uptoBulk d + 1
  | (_, d) => uptoBulk d + 1
 end
def uptoSmall : (H : Type) → List (DataW H) → Bool := fun _ ds => decide (uptoBulkAll ds ≤ 1048576)
def OpenSpec.upto (s : _root_.Go.ChangeSpec) : _root_.Go.OpenSpec := { _root_.Go.OpenSpec.ofChange s with cond := some uptoSmall }

/-- 'millstreamlaw13.RelaySteps', WHERE WHAT IT READS IS OF BULK AT MOST 1048576: true; the input reads as it did. -/
def relayStepsUptoRow : OpenClaim := { program := "ytnjljfjncfbinaagreat", sum := "fa2f9859b45a3a1c3fa3e78290fb3c8df7950eab388e91e83d8b3dce1039e188", func := "millstream/millstreamlaw13.RelaySteps", spec := "relaySteps", inPlace := ["sync/atomic.AddInt64", "sync/atomic.LoadUint64", "sync/atomic.CompareAndSwapUint64", "sync/atomic.AddUint64"], unfollowed := true, recurses := true, apart := false, narrowed := true }
def RelayStepsUptoSaid : Prop := relayStepsUptoRow.holds Tryz.pinned (OpenSpec.upto relayStepsSpec)

/-- 'millstreamlaw13.RelayResumes', WHERE WHAT IT READS IS OF BULK AT MOST 1048576: true; the input reads as it did. -/
def relayResumesUptoRow : OpenClaim := { program := "ytnjljfjncfbinaagreat", sum := "fa2f9859b45a3a1c3fa3e78290fb3c8df7950eab388e91e83d8b3dce1039e188", func := "millstream/millstreamlaw13.RelayResumes", spec := "relayResumes", inPlace := ["sync/atomic.AddInt64", "sync/atomic.LoadUint64", "sync/atomic.CompareAndSwapUint64", "sync/atomic.AddUint64"], unfollowed := true, recurses := true, apart := false, narrowed := true }
def RelayResumesUptoSaid : Prop := relayResumesUptoRow.holds Tryz.pinned (OpenSpec.upto relayResumesSpec)

/-- 'millstreamlaw13.RelayAgrees', WHERE WHAT IT READS IS OF BULK AT MOST 1048576: true; the input reads as it did. -/
def relayAgreesUptoRow : OpenClaim := { program := "ytnjljfjncfbinaagreat", sum := "fa2f9859b45a3a1c3fa3e78290fb3c8df7950eab388e91e83d8b3dce1039e188", func := "millstream/millstreamlaw13.RelayAgrees", spec := "relayAgrees", inPlace := ["sync/atomic.AddInt64", "sync/atomic.LoadUint64", "sync/atomic.CompareAndSwapUint64", "sync/atomic.AddUint64"], unfollowed := true, recurses := true, apart := false, narrowed := true }
def RelayAgreesUptoSaid : Prop := relayAgreesUptoRow.holds Tryz.pinned (OpenSpec.upto relayAgreesSpec)

/-- 'millstreamlaw16.AppendsRow', WHERE WHAT IT READS IS OF BULK AT MOST 1048576: true; the input reads as it did. -/
def appendsRowUptoRow : OpenClaim := { program := "ytnjljfjncfbinaagreat", sum := "fa2f9859b45a3a1c3fa3e78290fb3c8df7950eab388e91e83d8b3dce1039e188", func := "millstream/millstreamlaw16.AppendsRow", spec := "appendsRow", inPlace := ["sync/atomic.AddInt64", "sync/atomic.LoadUint64", "sync/atomic.CompareAndSwapUint64", "sync/atomic.AddUint64"], unfollowed := true, recurses := true, apart := false, narrowed := true }
def AppendsRowUptoSaid : Prop := appendsRowUptoRow.holds Tryz.pinned (OpenSpec.upto appendsRowSpec)

end Rows
end Go.Proofs.YtnjljfjncfbinaaGreat
