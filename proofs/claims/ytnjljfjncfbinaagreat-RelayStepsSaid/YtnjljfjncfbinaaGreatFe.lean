/- Contracts: hear, its states. -/
import Derived.Test.YtnjljfjncfbinaaGreatSq
import Derived.Test.YtnjljfjncfbinaaGreatFd
set_option linter.all false
namespace Go.Proofs.YtnjljfjncfbinaaGreat
open Go Go.Proofs
set_option maxRecDepth 100000
set_option linter.unusedVariables false

/-- What a listener has in its fields. -/
structure HS where
  base : Int
  size : Int
  cur : Int
  nxt : Int
  lap : Int
  cursor : Int
  pads : Int
  mt : Int
  data : List UInt8
  heard : Bool
  e : Int
/-- Where it is. -/
inductive HPh where
  | fin | tail | v1 | latest | hdr
  | vpad (size : Int)
  | out (at_ n typ size : Int) (have_ : List UInt8)
  | vend (typ size : Int) (bytes : List UInt8)
structure HOk (s : HS) : Prop where
  hb : 0 ≤ s.base ∧ s.base ≤ 131072
  hs : 64 ≤ s.size ∧ s.size ≤ 8192
  hc : inK .u64 s.cursor
  hp : 0 ≤ s.pads ∧ s.pads ≤ 1
def chunk (n : Int) : Int := if 8 < n then 8 else n
/-- How it lies in memory. -/
def hearRep (b : Nat) (s : HS) : HPh → HP
  | .fin => ex fun x : Bs => [row b 0 [.int .i64 0, .int .i64 0, .int .i64 0, .int .u64 0, .int .u64 0, .slice none 0 0, .nilFunc, .int .i64 s.base, .int .i64 s.size, .int .i64 s.cur, .int .i64 s.nxt, .int .i64 s.lap, .int .u64 s.cursor, .int .i64 s.pads, .int .i32 s.mt, .slice x.p s.data.length x.c, .bool s.heard, .int .i64 s.e], own 1 x.p s.data.length x.c (byteC s.data)]
  | .tail => ex fun x : Bs => [row b 0 [.int .i64 1, .int .i64 (s.base + s.size + 8), .int .i64 8, .int .u64 0, .int .u64 0, .slice none 0 0, .func (.func 130) #[] #[.pointer (some ⟨x.a1, 0, none⟩)], .int .i64 s.base, .int .i64 s.size, .int .i64 s.cur, .int .i64 s.nxt, .int .i64 s.lap, .int .u64 s.cursor, .int .i64 s.pads, .int .i32 s.mt, .slice x.p s.data.length x.c, .bool s.heard, .int .i64 s.e], row x.a1 0 [.func (.func 103) #[] #[.pointer (some ⟨x.a5, 0, none⟩)]], row x.a5 0 [.pointer (some ⟨b, 0, none⟩)], own 1 x.p s.data.length x.c (byteC s.data)]
  | .v1 => ex fun x : Bs => [row b 0 [.int .i64 1, .int .i64 (s.base + s.size), .int .i64 8, .int .u64 0, .int .u64 0, .slice none 0 0, .func (.func 130) #[] #[.pointer (some ⟨x.a1, 0, none⟩)], .int .i64 s.base, .int .i64 s.size, .int .i64 s.cur, .int .i64 s.nxt, .int .i64 s.lap, .int .u64 s.cursor, .int .i64 s.pads, .int .i32 s.mt, .slice x.p s.data.length x.c, .bool s.heard, .int .i64 s.e], row x.a1 0 [.func (.func 131) #[] #[.pointer (some ⟨x.a2, 0, none⟩), .pointer (some ⟨x.a4, 0, none⟩), .pointer (some ⟨x.a3, 0, none⟩)]], row x.a2 0 [.pointer (some ⟨b, 0, none⟩)], row x.a3 0 [.func (.func 105) #[.pointer (some ⟨b, 0, none⟩)] #[]], row x.a4 0 [.func (.func 106) #[] #[.pointer (some ⟨x.a5, 0, none⟩)]], row x.a5 0 [.pointer (some ⟨b, 0, none⟩)], own 1 x.p s.data.length x.c (byteC s.data)]
  | .latest => ex fun x : Bs => [row b 0 [.int .i64 1, .int .i64 (s.base + s.size + 16), .int .i64 8, .int .u64 0, .int .u64 0, .slice none 0 0, .func (.func 130) #[] #[.pointer (some ⟨x.a1, 0, none⟩)], .int .i64 s.base, .int .i64 s.size, .int .i64 s.cur, .int .i64 s.nxt, .int .i64 s.lap, .int .u64 s.cursor, .int .i64 s.pads, .int .i32 s.mt, .slice x.p s.data.length x.c, .bool s.heard, .int .i64 s.e], row x.a1 0 [.func (.func 107) #[] #[.pointer (some ⟨x.a5, 0, none⟩)]], row x.a5 0 [.pointer (some ⟨b, 0, none⟩)], own 1 x.p s.data.length x.c (byteC s.data)]
  | .hdr => ex fun x : Bs => [row b 0 [.int .i64 1, .int .i64 (s.base + plc s.cursor s.size), .int .i64 8, .int .u64 0, .int .u64 0, .slice none 0 0, .func (.func 130) #[] #[.pointer (some ⟨x.a1, 0, none⟩)], .int .i64 s.base, .int .i64 s.size, .int .i64 s.cur, .int .i64 s.nxt, .int .i64 s.lap, .int .u64 s.cursor, .int .i64 s.pads, .int .i32 s.mt, .slice x.p s.data.length x.c, .bool s.heard, .int .i64 s.e], row x.a1 0 [.func (.func 133) #[] #[.pointer (some ⟨x.a5, 0, none⟩)]], row x.a5 0 [.pointer (some ⟨b, 0, none⟩)], own 1 x.p s.data.length x.c (byteC s.data)]
  | .vpad size => ex fun x : Bs => [row b 0 [.int .i64 1, .int .i64 (s.base + s.size), .int .i64 8, .int .u64 0, .int .u64 0, .slice none 0 0, .func (.func 130) #[] #[.pointer (some ⟨x.a1, 0, none⟩)], .int .i64 s.base, .int .i64 s.size, .int .i64 s.cur, .int .i64 s.nxt, .int .i64 s.lap, .int .u64 s.cursor, .int .i64 s.pads, .int .i32 s.mt, .slice x.p s.data.length x.c, .bool s.heard, .int .i64 s.e], row x.a1 0 [.func (.func 131) #[] #[.pointer (some ⟨x.a2, 0, none⟩), .pointer (some ⟨x.a4, 0, none⟩), .pointer (some ⟨x.a3, 0, none⟩)]], row x.a2 0 [.pointer (some ⟨b, 0, none⟩)], row x.a3 0 [.func (.func 137) #[] #[.pointer (some ⟨x.a5, 0, none⟩), .pointer (some ⟨x.a6, 0, none⟩)]], row x.a4 0 [.func (.func 136) #[.pointer (some ⟨b, 0, none⟩)] #[]], row x.a5 0 [.pointer (some ⟨b, 0, none⟩)], own 1 x.p s.data.length x.c (byteC s.data), row x.a6 0 [.int .i64 size]]
  | .out at_ n typ size have_ => ex fun x : Bs => [own 1 x.q have_.length x.d (byteC have_), row b 0 [.int .i64 5, .int .i64 at_, .int .i64 (chunk n), .int .u64 0, .int .u64 0, .slice none 0 0, .func (.func 172) #[] #[.pointer (some ⟨x.a7, 0, none⟩), .pointer (some ⟨x.a6, 0, none⟩), .pointer (some ⟨x.a1, 0, none⟩), .pointer (some ⟨x.a4, 0, none⟩), .pointer (some ⟨x.a3, 0, none⟩), .pointer (some ⟨x.a2, 0, none⟩)], .int .i64 s.base, .int .i64 s.size, .int .i64 s.cur, .int .i64 s.nxt, .int .i64 s.lap, .int .u64 s.cursor, .int .i64 s.pads, .int .i32 s.mt, .slice x.p s.data.length x.c, .bool s.heard, .int .i64 s.e], row x.a1 0 [.int .i64 (chunk n)], row x.a2 0 [.func (.func 161) #[] #[.pointer (some ⟨x.a5, 0, none⟩), .pointer (some ⟨x.a8, 0, none⟩), .pointer (some ⟨x.a9, 0, none⟩)]], row x.a3 0 [.slice x.q have_.length x.d], row x.a4 0 [.int .i64 n], row x.a6 0 [.int .i64 at_], row x.a7 0 [.pointer (some ⟨b, 0, none⟩)], row x.a5 0 [.pointer (some ⟨b, 0, none⟩)], row x.a8 0 [.int .i64 size], row x.a9 0 [.int .i32 typ], own 1 x.p s.data.length x.c (byteC s.data)]
  | .vend typ size bytes => ex fun x : Bs => [row b 0 [.int .i64 1, .int .i64 (s.base + s.size), .int .i64 8, .int .u64 0, .int .u64 0, .slice none 0 0, .func (.func 130) #[] #[.pointer (some ⟨x.a1, 0, none⟩)], .int .i64 s.base, .int .i64 s.size, .int .i64 s.cur, .int .i64 s.nxt, .int .i64 s.lap, .int .u64 s.cursor, .int .i64 s.pads, .int .i32 s.mt, .slice x.p s.data.length x.c, .bool s.heard, .int .i64 s.e], row x.a1 0 [.func (.func 131) #[] #[.pointer (some ⟨x.a2, 0, none⟩), .pointer (some ⟨x.a4, 0, none⟩), .pointer (some ⟨x.a3, 0, none⟩)]], row x.a2 0 [.pointer (some ⟨b, 0, none⟩)], row x.a3 0 [.func (.func 162) #[] #[.pointer (some ⟨x.a5, 0, none⟩), .pointer (some ⟨x.a6, 0, none⟩), .pointer (some ⟨x.a7, 0, none⟩), .pointer (some ⟨x.a8, 0, none⟩)]], row x.a4 0 [.func (.func 136) #[.pointer (some ⟨b, 0, none⟩)] #[]], row x.a5 0 [.pointer (some ⟨b, 0, none⟩)], own 1 x.p s.data.length x.c (byteC s.data), row x.a6 0 [.int .i64 size], row x.a7 0 [.int .i32 typ], row x.a8 0 [.slice x.q bytes.length x.d], own 1 x.q bytes.length x.d (byteC bytes)]
/-- lost. -/
def HS.lose (s : HS) : HS := { s with lap := IntKind.i64.wrap (s.lap + 1), nxt := IntKind.i64.wrap s.cursor, e := 9 }
def rlen (v : Int) : Int := (split v).1
def rtyp (v : Int) : Int := (split v).2
def rsize (v : Int) : Int := (align (if 0 > rlen v then 0 else rlen v) 8).1
/-- Is a position Size or more behind the intent? -/
def past (s : HS) (v : Int) : Prop := IntKind.i64.wrap (IntKind.u64.wrap (v - s.cursor)) ≥ s.size
inductive TailStep (s : HS) (v : Int) : HS → HPh → Prop where
  | none : IntKind.i64.wrap (IntKind.u64.wrap (v - s.cursor)) ≤ 0 → TailStep s v { s with e := 0 } .fin
  | some : ¬ IntKind.i64.wrap (IntKind.u64.wrap (v - s.cursor)) ≤ 0 → TailStep s v s .v1
def HS.skip (s : HS) (size : Int) : HS := { s with pads := s.pads + 1, cursor := IntKind.u64.wrap (s.cursor + IntKind.u64.wrap size) }
def HS.hears (s : HS) (typ size : Int) (bytes : List UInt8) : HS := { s with cur := IntKind.i64.wrap s.cursor, nxt := IntKind.i64.wrap (IntKind.i64.wrap s.cursor + size), mt := typ, data := bytes, heard := true, e := 0 }
/-- What reading a header comes to. -/
inductive RecStep (s : HS) (v : Int) : HS → HPh → Prop where
  | lost1 : (rlen v < 8 ∨ rsize v > s.size - plc s.cursor s.size) → RecStep s v s.lose .fin
  | lost2 : ¬ (rlen v < 8 ∨ rsize v > s.size - plc s.cursor s.size) → rtyp v = -1 → (s.pads > 0 ∨ rsize v < s.size - plc s.cursor s.size) → RecStep s v s.lose .fin
  | pad : ¬ (rlen v < 8 ∨ rsize v > s.size - plc s.cursor s.size) → rtyp v = -1 → ¬ (s.pads > 0 ∨ rsize v < s.size - plc s.cursor s.size) → RecStep s v s (.vpad (rsize v))
  | more : ¬ (rlen v < 8 ∨ rsize v > s.size - plc s.cursor s.size) → rtyp v ≠ -1 → 1 ≤ rlen v - 8 → RecStep s v s (.out (s.base + plc s.cursor s.size + 8) (rlen v - 8) (rtyp v) (rsize v) [])
  | none : ¬ (rlen v < 8 ∨ rsize v > s.size - plc s.cursor s.size) → rtyp v ≠ -1 → rlen v - 8 < 1 → RecStep s v s (.vend (rtyp v) (rsize v) [])
theorem hn111_spec (ω : World) (b : Nat) (s : HS) (ok : HOk s) (v : Int) (hv : inK .u64 v) (q : Nat) (mp : Option Addr) (mc : Nat) (F : List HP)  : Spec ω Tryz.prog 107 #[.int .u64 v, .pointer (some ⟨q, 0, none⟩)] (row b 0 [.int .i64 0, .int .i64 0, .int .i64 0, .int .u64 0, .int .u64 0, .slice none 0 0, .nilFunc, .int .i64 s.base, .int .i64 s.size, .int .i64 s.cur, .int .i64 s.nxt, .int .i64 s.lap, .int .u64 s.cursor, .int .i64 s.pads, .int .i32 s.mt, .slice mp s.data.length mc, .bool s.heard, .int .i64 s.e] :: row q 0 [.pointer (some ⟨b, 0, none⟩)] :: own 1 mp s.data.length mc (byteC s.data) :: F) fun v' H' => v' = .tuple #[] ∧ H' = hearRep b { s with cursor := v } .hdr :: F := by
  refine spec_of_body Tryz.func107 rfl Tryz.ntmps107 rfl ?_
  obtain ⟨hb, hs, hc, hpd⟩ := ok
  have hpl := plc_in s.cursor s.size hs
  refine Cr ?_
  refine Rq rfl (oq_load rfl rfl Tryz.isAgg96 (by repeat (first | exact Z0 | apply Sel.there)) (by rfl) (by rfl)) ?_
  refine Rp rfl (pv_move rfl) ?_
  refine Rp rfl (pv_nilCheck rfl) ?_
  refine Rp rfl (pv_fieldAddr (k := 12) rfl Tryz.runUnderlying168 rfl Tryz.sizeOf28 rfl rfl) ?_
  refine rl_op0 rfl rfl (ot_store rfl rfl rfl Tryz.sizeOf28 (by repeat (first | exact Z0 | apply Sel.there)) (rfl : _ = [_]) rfl (by rfl) (by rfl) (by first | rfl | assumption) (by exact (rfl : _ = _ :: _ :: _ :: _ :: _ :: _ :: _ :: _ :: _ :: _ :: _ :: _ :: _ :: _))) ?_
  rintro _ _ rfl
  refine Kn1 1 rfl ?_
  refine ct_region ?_
  refine Rq rfl (oq_load rfl rfl Tryz.isAgg96 (by repeat (first | exact Z0 | apply Sel.there)) (by rfl) (by rfl)) ?_
  refine Ro rfl (ot_call rfl Tryz.call105 (vs := [_]) rfl (by repeat (first | exact Sees.refl | (apply Sees.cons; (focus ((repeat (first | exact Z0 | apply Sel.there)); done))) | apply Sees.skip)) (hrecord_spec _ _  _ _ _ _ _ _ _  _ _ _ _ _ _ _ _ _ _ _ _ _ (by first | assumption | exact ⟨by omega, by omega⟩) (by first | assumption | exact ⟨by omega, by omega⟩) (by first | assumption | exact ⟨by omega, by omega⟩) _)) ?_
  rintro _ _ ⟨bt, bh, rfl, rfl⟩
  refine rl_nil ?_
  exact fin_end (RVs.nil) Tryz.results107 (⟨rfl, rfl⟩) (Sees.ex ⟨mp, mc, bt, 0, 0, 0, bh, 0, 0, 0, 0, none, 0⟩ (by repeat (first | exact Sees.refl | (apply Sees.cons; (focus ((repeat (first | exact Z0 | apply Sel.there)); done))) | apply Sees.skip)))
theorem hn11_spec (ω : World) (b : Nat) (s : HS) (ok : HOk s) (q : Nat) (mp : Option Addr) (mc : Nat) (F : List HP)  : Spec ω Tryz.prog 106 #[.pointer (some ⟨q, 0, none⟩)] (row b 0 [.int .i64 0, .int .i64 0, .int .i64 0, .int .u64 0, .int .u64 0, .slice none 0 0, .nilFunc, .int .i64 s.base, .int .i64 s.size, .int .i64 s.cur, .int .i64 s.nxt, .int .i64 s.lap, .int .u64 s.cursor, .int .i64 s.pads, .int .i32 s.mt, .slice mp s.data.length mc, .bool s.heard, .int .i64 s.e] :: row q 0 [.pointer (some ⟨b, 0, none⟩)] :: own 1 mp s.data.length mc (byteC s.data) :: F) fun v' H' => v' = .tuple #[] ∧ H' = hearRep b { s with lap := IntKind.i64.wrap (s.lap + 1) } .latest :: F := by
  refine spec_of_body Tryz.func106 rfl Tryz.ntmps106 rfl ?_
  obtain ⟨hb, hs, hc, hpd⟩ := ok
  have hpl := plc_in s.cursor s.size hs
  refine Cr ?_
  refine Rq rfl (oq_load rfl rfl Tryz.isAgg96 (by repeat (first | exact Z0 | apply Sel.there)) (by rfl) (by rfl)) ?_
  refine Rp rfl (pv_nilCheck rfl) ?_
  refine Rp rfl (pv_fieldAddr (k := 9) rfl Tryz.runUnderlying168 rfl Tryz.sizeOf25 rfl rfl) ?_
  refine Rp rfl (pv_fieldAddr (k := 11) rfl Tryz.runUnderlying25 rfl Tryz.sizeOf2 rfl rfl) ?_
  refine Rq rfl (oq_load rfl rfl Tryz.isAgg2 (by repeat (first | exact Z0 | apply Sel.there)) (by rfl) (by rfl)) ?_
  refine Rp rfl (pv_bin rfl rfl rfl) ?_
  refine Rp rfl (pv_nilCheck rfl) ?_
  refine Rp rfl (pv_fieldAddr (k := 9) rfl Tryz.runUnderlying168 rfl Tryz.sizeOf25 rfl rfl) ?_
  refine Rp rfl (pv_fieldAddr (k := 11) rfl Tryz.runUnderlying25 rfl Tryz.sizeOf2 rfl rfl) ?_
  refine rl_op0 rfl rfl (ot_store rfl rfl rfl Tryz.sizeOf2 (by repeat (first | exact Z0 | apply Sel.there)) (rfl : _ = [_]) rfl (by rfl) (by rfl) (by first | rfl | assumption) (by exact (rfl : _ = _ :: _ :: _ :: _ :: _ :: _ :: _ :: _ :: _ :: _ :: _ :: _ :: _))) ?_
  rintro _ _ rfl
  refine Kn1 0 rfl ?_
  refine ct_planH [.q 0, .q 1, .q 2, .q 3, .q 4, .q 5, .q 6, .b 7] mixed (by decide +kernel) ?_
  refine pw_q rfl rfl rfl rfl (oq_load rfl rfl Tryz.isAgg96 (by repeat (first | exact Z0 | apply Sel.there)) (by rfl) (by rfl)) ?_
  refine pw_q rfl rfl rfl rfl (oq_pv (pv_nilCheck rfl)) ?_
  refine pw_q rfl rfl rfl rfl (oq_pv (pv_fieldAddr (k := 0) rfl Tryz.runUnderlying168 rfl Tryz.sizeOf133 rfl rfl)) ?_
  refine pw_q rfl rfl rfl rfl (oq_load rfl rfl Tryz.isAgg96 (by repeat (first | exact Z0 | apply Sel.there)) (by rfl) (by rfl)) ?_
  refine pw_q rfl rfl rfl rfl (oq_call_of (cs := [_]) rfl Tryz.call102 (vs := [_]) rfl (by repeat (first | exact Pick.nil | (apply Pick.cons; (focus ((repeat (first | exact Z0 | apply Sel.there)); done))))) (fun F => hend_read _ _  _ _ _ _ _ _ _  _ _ _ _ _ _ _ _ _ _ _ _ _ (by first | assumption | exact ⟨by omega, by omega⟩) (by first | assumption | exact ⟨by omega, by omega⟩) (by first | assumption | exact ⟨by omega, by omega⟩) F)) ?_
  refine pw_q rfl rfl rfl rfl (oq_pv (pv_add rfl rfl ⟨by omega, by omega⟩)) ?_
  refine pw_q rfl rfl rfl rfl (oq_pv (pv_makeFunc (l := []) (c := [_]) rfl rfl)) ?_
  refine pw_b rfl rfl rfl rfl (ot_call rfl Tryz.call101 (vs := [_, _, _, _]) rfl (by repeat (first | exact Sees.refl | (apply Sees.cons; (focus ((repeat (first | exact Z0 | apply Sel.there)); done))) | apply Sees.skip)) (load_spec _ _ _ _ _ _ _ _ _ _ _ _ _ _ _ _)) ?_
  rintro _ _ ⟨bt, rfl, rfl⟩
  refine pw_done ?_
  exact fin_end (RVs.nil) Tryz.results106 (⟨rfl, rfl⟩) (Sees.ex ⟨mp, mc, bt, 0, 0, 0, q, 0, 0, 0, 0, none, 0⟩ (by repeat (first | exact Sees.refl | (apply Sees.cons; (focus ((repeat (first | exact Z0 | apply Sel.there)); done))) | apply Sees.skip)))
theorem hn1_spec (ω : World) (b : Nat) (s : HS) (ok : HOk s) (v : Int) (hv : inK .u64 v) (q : Nat) (mp : Option Addr) (mc : Nat) (F : List HP)  : Spec ω Tryz.prog 103 #[.int .u64 v, .pointer (some ⟨q, 0, none⟩)] (row b 0 [.int .i64 0, .int .i64 0, .int .i64 0, .int .u64 0, .int .u64 0, .slice none 0 0, .nilFunc, .int .i64 s.base, .int .i64 s.size, .int .i64 s.cur, .int .i64 s.nxt, .int .i64 s.lap, .int .u64 s.cursor, .int .i64 s.pads, .int .i32 s.mt, .slice mp s.data.length mc, .bool s.heard, .int .i64 s.e] :: row q 0 [.pointer (some ⟨b, 0, none⟩)] :: own 1 mp s.data.length mc (byteC s.data) :: F) fun v' H' => v' = .tuple #[] ∧ ∃ s' ph', TailStep s v s' ph' ∧ H' = hearRep b s' ph' :: F := by
  refine spec_of_body Tryz.func103 rfl Tryz.ntmps103 rfl ?_
  obtain ⟨hb, hs, hc, hpd⟩ := ok
  have hpl := plc_in s.cursor s.size hs
  refine ct_seq ?_
  refine Cr ?_
  refine Rp rfl (pv_move rfl) ?_
  refine Rq rfl (oq_load rfl rfl Tryz.isAgg96 (by repeat (first | exact Z0 | apply Sel.there)) (by rfl) (by rfl)) ?_
  refine Rp rfl (pv_nilCheck rfl) ?_
  refine Rp rfl (pv_fieldAddr (k := 12) rfl Tryz.runUnderlying168 rfl Tryz.sizeOf28 rfl rfl) ?_
  refine Rq rfl (oq_load rfl rfl Tryz.isAgg28 (by repeat (first | exact Z0 | apply Sel.there)) (by rfl) (by rfl)) ?_
  refine Rp rfl (pv_bin rfl rfl rfl) ?_
  refine Rp rfl (pv_convert rfl Tryz.runUnderlying28 Tryz.runUnderlying2) ?_
  refine Rp rfl (pv_bin rfl rfl rfl) ?_
  refine Kn2 1 10 rfl ?_
  first | refine ct_cond_d rfl (fun h10 => ?_) (fun h10 => ?_) | refine ct_cond_n rfl (fun h10 => ?_) (fun h10 => ?_) | refine ct_cond_b rfl (fun h10 => ?_) (fun h10 => ?_) | refine ct_cond rfl (fun h10 => ?_) (fun h10 => ?_)
  · skip
    refine Cr ?_
    refine Rq rfl (oq_load rfl rfl Tryz.isAgg96 (by repeat (first | exact Z0 | apply Sel.there)) (by rfl) (by rfl)) ?_
    refine Rp rfl (pv_nilCheck rfl) ?_
    refine Rp rfl (pv_fieldAddr (k := 17) rfl Tryz.runUnderlying168 rfl Tryz.sizeOf54 rfl rfl) ?_
    refine rl_op0 rfl rfl (ot_store rfl rfl rfl Tryz.sizeOf54 (by repeat (first | exact Z0 | apply Sel.there)) (rfl : _ = [_]) rfl (by rfl) (by rfl) (by first | rfl | assumption) (by exact (rfl : _ = _ :: _ :: _ :: _ :: _ :: _ :: _ :: _ :: _ :: _ :: _ :: _ :: _ :: _ :: _ :: _ :: _ :: _ :: _))) ?_
    rintro _ _ rfl
    refine rl_nil ?_
    refine xt_then ?_
    refine CT.weaken (E' := []) (Knows.nil) Sees.refl ?_
    refine ct_ret ?_
    refine xt_ret_then ?_
    exact fin_ret (RVs.nil) Tryz.results103 (⟨rfl, _, _, .none h10, rfl⟩) (Sees.ex ⟨mp, mc, 0, 0, 0, 0, 0, 0, 0, 0, 0, none, 0⟩ (by repeat (first | exact Sees.refl | (apply Sees.cons; (focus ((repeat (first | exact Z0 | apply Sel.there)); done))) | apply Sees.skip)))
  · skip
    refine ct_skip ?_
    refine Kx1 1 rfl ?_
    refine ct_region ?_
    refine Rq rfl (oq_load rfl rfl Tryz.isAgg96 (by repeat (first | exact Z0 | apply Sel.there)) (by rfl) (by rfl)) ?_
    refine Rq rfl (oq_load rfl rfl Tryz.isAgg96 (by repeat (first | exact Z0 | apply Sel.there)) (by rfl) (by rfl)) ?_
    refine Rp rfl (pv_makeFunc (l := [_]) (c := []) rfl rfl) ?_
    refine Rp rfl (pv_makeFunc (l := []) (c := [_]) rfl rfl) ?_
    refine Ro rfl (ot_call rfl Tryz.call104 (vs := [_, _, _]) rfl (by repeat (first | exact Sees.refl | (apply Sees.cons; (focus ((repeat (first | exact Z0 | apply Sel.there)); done))) | apply Sees.skip)) (hvalid_spec _ _  _ _ _ _ _ _ _  _ _ _ _ _ _ _ _ _ _ _ _ _  _ _ _ _ _ _ (by first | assumption | exact ⟨by omega, by omega⟩) (by first | assumption | exact ⟨by omega, by omega⟩) (by first | assumption | exact ⟨by omega, by omega⟩) _)) ?_
    rintro _ _ ⟨bt, q2, q3, q4, rfl, rfl⟩
    refine rl_nil ?_
    exact fin_end (RVs.nil) Tryz.results103 (⟨rfl, _, _, .some h10, rfl⟩) (Sees.ex ⟨mp, mc, bt, q2, q3, q4, q, 0, 0, 0, 0, none, 0⟩ (by repeat (first | exact Sees.refl | (apply Sees.cons; (focus ((repeat (first | exact Z0 | apply Sel.there)); done))) | apply Sees.skip)))
theorem hrec11_spec (ω : World) (b : Nat) (s : HS) (ok : HOk s) (size : Int) (q0 q1 : Nat) (mp : Option Addr) (mc : Nat) (F : List HP)  : Spec ω Tryz.prog 137 #[.pointer (some ⟨q0, 0, none⟩), .pointer (some ⟨q1, 0, none⟩)] (row b 0 [.int .i64 0, .int .i64 0, .int .i64 0, .int .u64 0, .int .u64 0, .slice none 0 0, .nilFunc, .int .i64 s.base, .int .i64 s.size, .int .i64 s.cur, .int .i64 s.nxt, .int .i64 s.lap, .int .u64 s.cursor, .int .i64 s.pads, .int .i32 s.mt, .slice mp s.data.length mc, .bool s.heard, .int .i64 s.e] :: row q0 0 [.pointer (some ⟨b, 0, none⟩)] :: row q1 0 [.int .i64 size] :: own 1 mp s.data.length mc (byteC s.data) :: F) fun v' H' => v' = .tuple #[] ∧ H' = hearRep b (s.skip size) .hdr :: F := by
  refine spec_of_body Tryz.func137 rfl Tryz.ntmps137 rfl ?_
  obtain ⟨hb, hs, hc, hpd⟩ := ok
  have hpl := plc_in s.cursor s.size hs
  refine Cr ?_
  refine Rq rfl (oq_load rfl rfl Tryz.isAgg96 (by repeat (first | exact Z0 | apply Sel.there)) (by rfl) (by rfl)) ?_
  refine Rp rfl (pv_nilCheck rfl) ?_
  refine Rp rfl (pv_fieldAddr (k := 13) rfl Tryz.runUnderlying168 rfl Tryz.sizeOf3 rfl rfl) ?_
  refine Rq rfl (oq_load rfl rfl Tryz.isAgg3 (by repeat (first | exact Z0 | apply Sel.there)) (by rfl) (by rfl)) ?_
  refine Rp rfl (pv_add rfl rfl ⟨by omega, by omega⟩) ?_
  refine Rp rfl (pv_nilCheck rfl) ?_
  refine Rp rfl (pv_fieldAddr (k := 13) rfl Tryz.runUnderlying168 rfl Tryz.sizeOf3 rfl rfl) ?_
  refine rl_op0 rfl rfl (ot_store rfl rfl rfl Tryz.sizeOf3 (by repeat (first | exact Z0 | apply Sel.there)) (rfl : _ = [_]) rfl (by rfl) (by rfl) (by first | rfl | assumption) (by exact (rfl : _ = _ :: _ :: _ :: _ :: _ :: _ :: _ :: _ :: _ :: _ :: _ :: _ :: _ :: _ :: _))) ?_
  rintro _ _ rfl
  refine Kn2 0 1 rfl ?_
  refine ct_seq ?_
  refine ct_planH [.q 0, .q 1, .q 2, .q 3, .q 4, .q 5, .q 6, .q 7, .q 8, .b 9] mixed (by decide +kernel) ?_
  refine pw_q rfl rfl rfl rfl (oq_load rfl rfl Tryz.isAgg96 (by repeat (first | exact Z0 | apply Sel.there)) (by rfl) (by rfl)) ?_
  refine pw_q rfl rfl rfl rfl (oq_pv (pv_nilCheck rfl)) ?_
  refine pw_q rfl rfl rfl rfl (oq_pv (pv_fieldAddr (k := 12) rfl Tryz.runUnderlying168 rfl Tryz.sizeOf28 rfl rfl)) ?_
  refine pw_q rfl rfl rfl rfl (oq_load rfl rfl Tryz.isAgg28 (by repeat (first | exact Z0 | apply Sel.there)) (by rfl) (by rfl)) ?_
  refine pw_q rfl rfl rfl rfl (oq_load rfl rfl Tryz.isAgg2 (by repeat (first | exact Z0 | apply Sel.there)) (by rfl) (by rfl)) ?_
  refine pw_q rfl rfl rfl rfl (oq_pv (pv_convert rfl Tryz.runUnderlying2 Tryz.runUnderlying28)) ?_
  refine pw_q rfl rfl rfl rfl (oq_pv (pv_bin rfl rfl rfl)) ?_
  refine pw_q rfl rfl rfl rfl (oq_pv (pv_nilCheck rfl)) ?_
  refine pw_q rfl rfl rfl rfl (oq_pv (pv_fieldAddr (k := 12) rfl Tryz.runUnderlying168 rfl Tryz.sizeOf28 rfl rfl)) ?_
  refine pw_b0 rfl rfl rfl (ot_store rfl rfl rfl Tryz.sizeOf28 (by repeat (first | exact Z0 | apply Sel.there)) (rfl : _ = [_]) rfl (by rfl) (by rfl) (by first | rfl | assumption) (by exact (rfl : _ = _ :: _ :: _ :: _ :: _ :: _ :: _ :: _ :: _ :: _ :: _ :: _ :: _ :: _))) ?_
  rintro _ _ rfl
  refine pw_done ?_
  refine Kx1 0 rfl ?_
  refine ct_region ?_
  refine Rq rfl (oq_load rfl rfl Tryz.isAgg96 (by repeat (first | exact Z0 | apply Sel.there)) (by rfl) (by rfl)) ?_
  refine Ro rfl (ot_call rfl Tryz.call105 (vs := [_]) rfl (by repeat (first | exact Sees.refl | (apply Sees.cons; (focus ((repeat (first | exact Z0 | apply Sel.there)); done))) | apply Sees.skip)) (hrecord_spec _ _  _ _ _ _ _ _ _  _ _ _ _ _ _ _ _ _ _ _ _ _ (by first | assumption | exact ⟨by omega, by omega⟩) (by first | assumption | exact ⟨by omega, by omega⟩) (by exact inK_wrap _ _) _)) ?_
  rintro _ _ ⟨bt, bh, rfl, rfl⟩
  refine rl_nil ?_
  exact fin_end (RVs.nil) Tryz.results137 (⟨rfl, rfl⟩) (Sees.ex ⟨mp, mc, bt, 0, 0, 0, bh, 0, 0, 0, 0, none, 0⟩ (by repeat (first | exact Sees.refl | (apply Sees.cons; (focus ((repeat (first | exact Z0 | apply Sel.there)); done))) | apply Sees.skip)))
theorem hb1_spec (ω : World) (b : Nat) (s : HS) (ok : HOk s) (typ size : Int) (bp : Option Addr) (bc : Nat) (bytes : List UInt8) (q1 q2 q3 : Nat) (mp : Option Addr) (mc : Nat) (F : List HP)  : Spec ω Tryz.prog 161 #[.slice bp bytes.length bc, .pointer (some ⟨q1, 0, none⟩), .pointer (some ⟨q2, 0, none⟩), .pointer (some ⟨q3, 0, none⟩)] (row b 0 [.int .i64 0, .int .i64 0, .int .i64 0, .int .u64 0, .int .u64 0, .slice none 0 0, .nilFunc, .int .i64 s.base, .int .i64 s.size, .int .i64 s.cur, .int .i64 s.nxt, .int .i64 s.lap, .int .u64 s.cursor, .int .i64 s.pads, .int .i32 s.mt, .slice mp s.data.length mc, .bool s.heard, .int .i64 s.e] :: row q1 0 [.pointer (some ⟨b, 0, none⟩)] :: row q2 0 [.int .i64 size] :: row q3 0 [.int .i32 typ] :: own 1 bp bytes.length bc (byteC bytes) :: own 1 mp s.data.length mc (byteC s.data) :: F) fun v' H' => v' = .tuple #[] ∧ H' = hearRep b s (.vend typ size bytes) :: F := by
  refine spec_of_body Tryz.func161 rfl Tryz.ntmps161 rfl ?_
  obtain ⟨hb, hs, hc, hpd⟩ := ok
  have hpl := plc_in s.cursor s.size hs
  refine Cr ?_
  refine Ro rfl (ot_box rfl rfl (rfl : _ = [_])) ?_
  rintro _ _ ⟨b4, rfl, rfl⟩
  refine Kn4 1 2 3 4 rfl ?_
  refine ct_region ?_
  refine Rq rfl (oq_load rfl rfl Tryz.isAgg96 (by repeat (first | exact Z0 | apply Sel.there)) (by rfl) (by rfl)) ?_
  refine Rp rfl (pv_makeFunc (l := []) (c := [_, _, _, _]) rfl rfl) ?_
  refine Rq rfl (oq_load rfl rfl Tryz.isAgg96 (by repeat (first | exact Z0 | apply Sel.there)) (by rfl) (by rfl)) ?_
  refine Rp rfl (pv_makeFunc (l := [_]) (c := []) rfl rfl) ?_
  refine Ro rfl (ot_call rfl Tryz.call104 (vs := [_, _, _]) rfl (by repeat (first | exact Sees.refl | (apply Sees.cons; (focus ((repeat (first | exact Z0 | apply Sel.there)); done))) | apply Sees.skip)) (hvalid_spec _ _  _ _ _ _ _ _ _  _ _ _ _ _ _ _ _ _ _ _ _ _  _ _ _ _ _ _ (by first | assumption | exact ⟨by omega, by omega⟩) (by first | assumption | exact ⟨by omega, by omega⟩) (by first | assumption | exact ⟨by omega, by omega⟩) _)) ?_
  rintro _ _ ⟨bt, k2, k3, k4, rfl, rfl⟩
  refine rl_nil ?_
  exact fin_end (RVs.nil) Tryz.results161 (⟨rfl, rfl⟩) (Sees.ex ⟨mp, mc, bt, k2, k3, k4, q1, q2, q3, b4, 0, bp, bc⟩ (by repeat (first | exact Sees.refl | (apply Sees.cons; (focus ((repeat (first | exact Z0 | apply Sel.there)); done))) | apply Sees.skip)))
theorem hv1_spec (ω : World) (b : Nat) (s : HS) (ok : HOk s) (v : Int) (hv : inK .u64 v) (q3 q4 q5 : Nat) (f1 f2 : FuncId) (l1 c1 l2 c2 : List Value) (mp : Option Addr) (mc : Nat) (R : List HP → Prop) (F : List HP) (e1 : ∀ args w, (callFunc f1 args).run Tryz.prog w = .ok (.enter f1 args) w) (e2 : ∀ args w, (callFunc f2 args).run Tryz.prog w = .ok (.enter f2 args) w) (hT : ¬ past s v → Spec ω Tryz.prog f1 (l1 ++ [] ++ c1).toArray (row b 0 [.int .i64 0, .int .i64 0, .int .i64 0, .int .u64 0, .int .u64 0, .slice none 0 0, .nilFunc, .int .i64 s.base, .int .i64 s.size, .int .i64 s.cur, .int .i64 s.nxt, .int .i64 s.lap, .int .u64 s.cursor, .int .i64 s.pads, .int .i32 s.mt, .slice mp s.data.length mc, .bool s.heard, .int .i64 s.e] :: F) fun v H => v = .tuple #[] ∧ R H) (hE : past s v → Spec ω Tryz.prog f2 (l2 ++ [] ++ c2).toArray (row b 0 [.int .i64 0, .int .i64 0, .int .i64 0, .int .u64 0, .int .u64 0, .slice none 0 0, .nilFunc, .int .i64 s.base, .int .i64 s.size, .int .i64 s.cur, .int .i64 s.nxt, .int .i64 s.lap, .int .u64 s.cursor, .int .i64 s.pads, .int .i32 s.mt, .slice mp s.data.length mc, .bool s.heard, .int .i64 s.e] :: F) fun v H => v = .tuple #[] ∧ R H) : Spec ω Tryz.prog 131 #[.int .u64 v, .pointer (some ⟨q3, 0, none⟩), .pointer (some ⟨q5, 0, none⟩), .pointer (some ⟨q4, 0, none⟩)] (row b 0 [.int .i64 0, .int .i64 0, .int .i64 0, .int .u64 0, .int .u64 0, .slice none 0 0, .nilFunc, .int .i64 s.base, .int .i64 s.size, .int .i64 s.cur, .int .i64 s.nxt, .int .i64 s.lap, .int .u64 s.cursor, .int .i64 s.pads, .int .i32 s.mt, .slice mp s.data.length mc, .bool s.heard, .int .i64 s.e] :: row q3 0 [.pointer (some ⟨b, 0, none⟩)] :: row q5 0 [.func (.func f2) l2.toArray c2.toArray] :: row q4 0 [.func (.func f1) l1.toArray c1.toArray] :: F) fun v' H' => v' = .tuple #[] ∧ R H' := by
  refine spec_of_body Tryz.func131 rfl Tryz.ntmps131 rfl ?_
  obtain ⟨hb, hs, hc, hpd⟩ := ok
  have hpl := plc_in s.cursor s.size hs
  refine ct_seq ?_
  refine ct_seq ?_
  refine ct_planH [.q 0, .q 1, .q 2, .q 3, .q 4, .q 5, .q 6, .q 7, .q 8, .q 9, .q 10, .q 11, .q 12] mixed (by decide +kernel) ?_
  refine pw_q rfl rfl rfl rfl (oq_pv (pv_move rfl)) ?_
  refine pw_q rfl rfl rfl rfl (oq_load rfl rfl Tryz.isAgg96 (by repeat (first | exact Z0 | apply Sel.there)) (by rfl) (by rfl)) ?_
  refine pw_q rfl rfl rfl rfl (oq_pv (pv_nilCheck rfl)) ?_
  refine pw_q rfl rfl rfl rfl (oq_pv (pv_fieldAddr (k := 12) rfl Tryz.runUnderlying168 rfl Tryz.sizeOf28 rfl rfl)) ?_
  refine pw_q rfl rfl rfl rfl (oq_load rfl rfl Tryz.isAgg28 (by repeat (first | exact Z0 | apply Sel.there)) (by rfl) (by rfl)) ?_
  refine pw_q rfl rfl rfl rfl (oq_pv (pv_bin rfl rfl rfl)) ?_
  refine pw_q rfl rfl rfl rfl (oq_pv (pv_convert rfl Tryz.runUnderlying28 Tryz.runUnderlying2)) ?_
  refine pw_q rfl rfl rfl rfl (oq_load rfl rfl Tryz.isAgg96 (by repeat (first | exact Z0 | apply Sel.there)) (by rfl) (by rfl)) ?_
  refine pw_q rfl rfl rfl rfl (oq_pv (pv_nilCheck rfl)) ?_
  refine pw_q rfl rfl rfl rfl (oq_pv (pv_fieldAddr (k := 7) rfl Tryz.runUnderlying168 rfl Tryz.sizeOf23 rfl rfl)) ?_
  refine pw_q rfl rfl rfl rfl (oq_pv (pv_fieldAddr (k := 8) rfl Tryz.runUnderlying23 rfl Tryz.sizeOf3 rfl rfl)) ?_
  refine pw_q rfl rfl rfl rfl (oq_load rfl rfl Tryz.isAgg3 (by repeat (first | exact Z0 | apply Sel.there)) (by rfl) (by rfl)) ?_
  refine pw_q rfl rfl rfl rfl (oq_pv (pv_bin rfl rfl rfl)) ?_
  refine pw_done ?_
  refine Kx3 2 3 17 rfl ?_
  first | refine ct_cond_d rfl (fun h17 => ?_) (fun h17 => ?_) | refine ct_cond_n rfl (fun h17 => ?_) (fun h17 => ?_) | refine ct_cond_b rfl (fun h17 => ?_) (fun h17 => ?_) | refine ct_cond rfl (fun h17 => ?_) (fun h17 => ?_)
  · skip
    refine Cr ?_
    refine Rq rfl (oq_load rfl rfl Tryz.isAgg1 (by repeat (first | exact Z0 | apply Sel.there)) (by rfl) (by rfl)) ?_
    refine Ro rfl (ot_callv (l := l2) (c := c2) (vs := []) rfl rfl e2 rfl (by repeat (first | exact Sees.refl | (apply Sees.cons; (focus ((repeat (first | exact Z0 | apply Sel.there)); done))) | apply Sees.skip)) (hE h17)) ?_
    rintro _ _ ⟨rfl, hR⟩
    refine rl_nil ?_
    refine xt_then ?_
    refine CT.weaken (E' := []) (Knows.nil) Sees.refl ?_
    refine ct_ret ?_
    refine xt_ret_then ?_
    exact fin_ret (RVs.nil) Tryz.results131 (⟨rfl, hR⟩) (.refl)
  · skip
    refine ct_skip ?_
    refine Kx1 3 rfl ?_
    refine ct_region ?_
    refine Rq rfl (oq_load rfl rfl Tryz.isAgg1 (by repeat (first | exact Z0 | apply Sel.there)) (by rfl) (by rfl)) ?_
    refine Ro rfl (ot_callv (l := l1) (c := c1) (vs := []) rfl rfl e1 rfl (by repeat (first | exact Sees.refl | (apply Sees.cons; (focus ((repeat (first | exact Z0 | apply Sel.there)); done))) | apply Sees.skip)) (hT h17)) ?_
    rintro _ _ ⟨rfl, hR⟩
    refine rl_nil ?_
    exact fin_end (RVs.nil) Tryz.results131 (⟨rfl, hR⟩) (.refl)
theorem hbytes_more (ω : World) (b : Nat) (s : HS) (ok : HOk s) (typ len size : Int) (hl : 8 ≤ len ∧ len ≤ 2147483647) (mp : Option Addr) (mc : Nat) (h1 : 1 ≤ len - 8) (F : List HP)  : Spec ω Tryz.prog 138 #[.pointer (some ⟨b, 0, none⟩), .int .i32 typ, .int .i64 len, .int .i64 size] (row b 0 [.int .i64 0, .int .i64 0, .int .i64 0, .int .u64 0, .int .u64 0, .slice none 0 0, .nilFunc, .int .i64 s.base, .int .i64 s.size, .int .i64 s.cur, .int .i64 s.nxt, .int .i64 s.lap, .int .u64 s.cursor, .int .i64 s.pads, .int .i32 s.mt, .slice mp s.data.length mc, .bool s.heard, .int .i64 s.e] :: own 1 mp s.data.length mc (byteC s.data) :: F) fun v' H' => v' = .tuple #[] ∧ H' = hearRep b s (.out (s.base + plc s.cursor s.size + 8) (len - 8) typ size []) :: F := by
  refine spec_of_body Tryz.func138 rfl Tryz.ntmps138 rfl ?_
  obtain ⟨hb, hs, hc, hpd⟩ := ok
  have hpl := plc_in s.cursor s.size hs
  refine Cr ?_
  refine Ro rfl (ot_box rfl rfl (rfl : _ = [_])) ?_
  rintro _ _ ⟨b4, rfl, rfl⟩
  refine Ro rfl (ot_box rfl rfl (rfl : _ = [_])) ?_
  rintro _ _ ⟨b5, rfl, rfl⟩
  refine Ro rfl (ot_box rfl rfl (rfl : _ = [_])) ?_
  rintro _ _ ⟨b7, rfl, rfl⟩
  refine Kn4 2 4 5 7 rfl ?_
  refine ct_planH [.q 0, .q 1, .q 2, .q 3, .q 4, .q 5, .q 6, .q 7, .q 8, .q 9, .q 10, .q 11, .q 12, .q 13, .q 14, .b 15] mixed (by decide +kernel) ?_
  refine pw_q rfl rfl rfl rfl (oq_load rfl rfl Tryz.isAgg96 (by repeat (first | exact Z0 | apply Sel.there)) (by rfl) (by rfl)) ?_
  refine pw_q rfl rfl rfl rfl (oq_pv (pv_nilCheck rfl)) ?_
  refine pw_q rfl rfl rfl rfl (oq_pv (pv_fieldAddr (k := 0) rfl Tryz.runUnderlying168 rfl Tryz.sizeOf133 rfl rfl)) ?_
  refine pw_q rfl rfl rfl rfl (oq_load rfl rfl Tryz.isAgg96 (by repeat (first | exact Z0 | apply Sel.there)) (by rfl) (by rfl)) ?_
  refine pw_q rfl rfl rfl rfl (oq_pv (pv_nilCheck rfl)) ?_
  refine pw_q rfl rfl rfl rfl (oq_pv (pv_fieldAddr (k := 7) rfl Tryz.runUnderlying168 rfl Tryz.sizeOf23 rfl rfl)) ?_
  refine pw_q rfl rfl rfl rfl (oq_pv (pv_fieldAddr (k := 7) rfl Tryz.runUnderlying23 rfl Tryz.sizeOf3 rfl rfl)) ?_
  refine pw_q rfl rfl rfl rfl (oq_load rfl rfl Tryz.isAgg3 (by repeat (first | exact Z0 | apply Sel.there)) (by rfl) (by rfl)) ?_
  refine pw_q rfl rfl rfl rfl (oq_load rfl rfl Tryz.isAgg96 (by repeat (first | exact Z0 | apply Sel.there)) (by rfl) (by rfl)) ?_
  refine pw_q rfl rfl rfl rfl (oq_call_of (cs := [_]) rfl Tryz.call132 (vs := [_]) rfl (by repeat (first | exact Pick.nil | (apply Pick.cons; (focus ((repeat (first | exact Z0 | apply Sel.there)); done))))) (fun F => hplace_read _ _  _ _ _ _ _ _ _  _ _ _ _ _ _ _ _ _ _ _ _ _ (by first | assumption | exact ⟨by omega, by omega⟩) (by first | assumption | exact ⟨by omega, by omega⟩) (by first | assumption | exact ⟨by omega, by omega⟩) F)) ?_
  refine pw_q rfl rfl rfl rfl (oq_pv (pv_add rfl rfl ⟨by omega, by omega⟩)) ?_
  refine pw_q rfl rfl rfl rfl (oq_pv (pv_add rfl rfl ⟨by omega, by omega⟩)) ?_
  refine pw_q rfl rfl rfl rfl (oq_pv (pv_move rfl)) ?_
  refine pw_q rfl rfl rfl rfl (oq_pv (pv_sub rfl rfl ⟨by omega, by omega⟩)) ?_
  refine pw_q rfl rfl rfl rfl (oq_pv (pv_makeFunc (l := []) (c := [_, _, _]) rfl rfl)) ?_
  refine pw_b rfl rfl rfl rfl (ot_call rfl Tryz.call160 (vs := [_, _, _, _, _]) rfl (by repeat (first | exact Sees.refl | (apply Sees.cons; (focus ((repeat (first | exact Z0 | apply Sel.there)); done))) | apply Sees.skip)) (out_more _ _ _ _ _ _ _ _ _ _ _ _ _ _ _ _ _ _ h1 _)) ?_
  rintro _ _ ⟨c5, c6, c7, c8, c9, c10, rfl, rfl⟩
  refine pw_done ?_
  exact fin_end (RVs.nil) Tryz.results138 (⟨rfl, rfl⟩) (Sees.ex ⟨mp, mc, c10, c9, c8, c7, b4, c6, c5, b7, b5, none, 0⟩ (Sees.nilOwn (by repeat (first | exact Sees.refl | (apply Sees.cons; (focus ((repeat (first | exact Z0 | apply Sel.there)); done))) | apply Sees.skip))))
theorem hbytes_none (ω : World) (b : Nat) (s : HS) (ok : HOk s) (typ len size : Int) (hl : 8 ≤ len ∧ len ≤ 2147483647) (mp : Option Addr) (mc : Nat) (h1 : len - 8 < 1) (F : List HP)  : Spec ω Tryz.prog 138 #[.pointer (some ⟨b, 0, none⟩), .int .i32 typ, .int .i64 len, .int .i64 size] (row b 0 [.int .i64 0, .int .i64 0, .int .i64 0, .int .u64 0, .int .u64 0, .slice none 0 0, .nilFunc, .int .i64 s.base, .int .i64 s.size, .int .i64 s.cur, .int .i64 s.nxt, .int .i64 s.lap, .int .u64 s.cursor, .int .i64 s.pads, .int .i32 s.mt, .slice mp s.data.length mc, .bool s.heard, .int .i64 s.e] :: own 1 mp s.data.length mc (byteC s.data) :: F) fun v' H' => v' = .tuple #[] ∧ H' = hearRep b s (.vend typ size []) :: F := by
  refine spec_of_body Tryz.func138 rfl Tryz.ntmps138 rfl ?_
  obtain ⟨hb, hs, hc, hpd⟩ := ok
  have hpl := plc_in s.cursor s.size hs
  refine Cr ?_
  refine Ro rfl (ot_box rfl rfl (rfl : _ = [_])) ?_
  rintro _ _ ⟨b4, rfl, rfl⟩
  refine Ro rfl (ot_box rfl rfl (rfl : _ = [_])) ?_
  rintro _ _ ⟨b5, rfl, rfl⟩
  refine Ro rfl (ot_box rfl rfl (rfl : _ = [_])) ?_
  rintro _ _ ⟨b7, rfl, rfl⟩
  refine Kn4 2 4 5 7 rfl ?_
  refine ct_planH [.q 0, .q 1, .q 2, .q 3, .q 4, .q 5, .q 6, .q 7, .q 8, .q 9, .q 10, .q 11, .q 12, .q 13, .q 14, .b 15] mixed (by decide +kernel) ?_
  refine pw_q rfl rfl rfl rfl (oq_load rfl rfl Tryz.isAgg96 (by repeat (first | exact Z0 | apply Sel.there)) (by rfl) (by rfl)) ?_
  refine pw_q rfl rfl rfl rfl (oq_pv (pv_nilCheck rfl)) ?_
  refine pw_q rfl rfl rfl rfl (oq_pv (pv_fieldAddr (k := 0) rfl Tryz.runUnderlying168 rfl Tryz.sizeOf133 rfl rfl)) ?_
  refine pw_q rfl rfl rfl rfl (oq_load rfl rfl Tryz.isAgg96 (by repeat (first | exact Z0 | apply Sel.there)) (by rfl) (by rfl)) ?_
  refine pw_q rfl rfl rfl rfl (oq_pv (pv_nilCheck rfl)) ?_
  refine pw_q rfl rfl rfl rfl (oq_pv (pv_fieldAddr (k := 7) rfl Tryz.runUnderlying168 rfl Tryz.sizeOf23 rfl rfl)) ?_
  refine pw_q rfl rfl rfl rfl (oq_pv (pv_fieldAddr (k := 7) rfl Tryz.runUnderlying23 rfl Tryz.sizeOf3 rfl rfl)) ?_
  refine pw_q rfl rfl rfl rfl (oq_load rfl rfl Tryz.isAgg3 (by repeat (first | exact Z0 | apply Sel.there)) (by rfl) (by rfl)) ?_
  refine pw_q rfl rfl rfl rfl (oq_load rfl rfl Tryz.isAgg96 (by repeat (first | exact Z0 | apply Sel.there)) (by rfl) (by rfl)) ?_
  refine pw_q rfl rfl rfl rfl (oq_call_of (cs := [_]) rfl Tryz.call132 (vs := [_]) rfl (by repeat (first | exact Pick.nil | (apply Pick.cons; (focus ((repeat (first | exact Z0 | apply Sel.there)); done))))) (fun F => hplace_read _ _  _ _ _ _ _ _ _  _ _ _ _ _ _ _ _ _ _ _ _ _ (by first | assumption | exact ⟨by omega, by omega⟩) (by first | assumption | exact ⟨by omega, by omega⟩) (by first | assumption | exact ⟨by omega, by omega⟩) F)) ?_
  refine pw_q rfl rfl rfl rfl (oq_pv (pv_add rfl rfl ⟨by omega, by omega⟩)) ?_
  refine pw_q rfl rfl rfl rfl (oq_pv (pv_add rfl rfl ⟨by omega, by omega⟩)) ?_
  refine pw_q rfl rfl rfl rfl (oq_pv (pv_move rfl)) ?_
  refine pw_q rfl rfl rfl rfl (oq_pv (pv_sub rfl rfl ⟨by omega, by omega⟩)) ?_
  refine pw_q rfl rfl rfl rfl (oq_pv (pv_makeFunc (l := []) (c := [_, _, _]) rfl rfl)) ?_
  refine pw_b rfl rfl rfl rfl (ot_call rfl Tryz.call160 (vs := [_, _, _, _, _]) rfl (by repeat (first | exact Sees.refl | (apply Sees.cons; (focus ((repeat (first | exact Z0 | apply Sel.there)); done))) | apply Sees.skip)) (out_done _ _ _ _ _ _ _ _ _ _ _ _ _ _ _ _ [] [.pointer (some ⟨b4, 0, none⟩), .pointer (some ⟨b7, 0, none⟩), .pointer (some ⟨b5, 0, none⟩)] h1 (fun H' => H' = hearRep b s (.vend typ size []) :: F) _ Tryz.call161 (Spec.sees (Sees.nilOwn (es := 1) .refl) (Spec.sees (by repeat (first | exact Sees.refl | (apply Sees.cons; (focus ((repeat (first | exact Z0 | apply Sel.there)); done))) | apply Sees.skip)) (hb1_spec ω b s ⟨hb, hs, hc, hpd⟩ typ size none 0 [] b4 b7 b5 mp mc F))))) ?_
  rintro _ _ ⟨rfl, hR⟩
  refine pw_done ?_
  exact fin_end (RVs.nil) Tryz.results138 (⟨rfl, hR⟩) (.refl)
theorem hb11_spec (ω : World) (b : Nat) (s : HS) (ok : HOk s) (typ size : Int) (bp : Option Addr) (bc : Nat) (bytes : List UInt8) (q0 q1 q2 q3 : Nat) (mp : Option Addr) (mc : Nat) (F : List HP)  : Spec ω Tryz.prog 162 #[.pointer (some ⟨q0, 0, none⟩), .pointer (some ⟨q1, 0, none⟩), .pointer (some ⟨q2, 0, none⟩), .pointer (some ⟨q3, 0, none⟩)] (row b 0 [.int .i64 0, .int .i64 0, .int .i64 0, .int .u64 0, .int .u64 0, .slice none 0 0, .nilFunc, .int .i64 s.base, .int .i64 s.size, .int .i64 s.cur, .int .i64 s.nxt, .int .i64 s.lap, .int .u64 s.cursor, .int .i64 s.pads, .int .i32 s.mt, .slice mp s.data.length mc, .bool s.heard, .int .i64 s.e] :: row q0 0 [.pointer (some ⟨b, 0, none⟩)] :: row q1 0 [.int .i64 size] :: row q2 0 [.int .i32 typ] :: row q3 0 [.slice bp bytes.length bc] :: own 1 bp bytes.length bc (byteC bytes) :: own 1 mp s.data.length mc (byteC s.data) :: F) fun v' H' => v' = .tuple #[] ∧ H' = hearRep b (s.hears typ size bytes) .fin :: F := by
  refine spec_of_body Tryz.func162 rfl Tryz.ntmps162 rfl ?_
  obtain ⟨hb, hs, hc, hpd⟩ := ok
  have hpl := plc_in s.cursor s.size hs
  refine ct_seq ?_
  refine ct_imp (fun m h => row_cut (k := 9) (pre := [_, _, _, _, _, _, _, _, _]) (post := [_, _, _, _, _, _, _, _]) (by rfl) (by rfl) h) ?_
  refine ct_plan1 [.q 0, .q 1, .q 2, .q 3, .q 4, .q 5, .q 6, .q 7, .q 8, .q 9, .q 10, .q 11, .q 12, .q 13, .q 14, .q 15, .q 16, .e 17, .q 18, .q 19, .q 20, .b 21] (row b 9 _) (by repeat (first | exact Sees.refl | (apply Sees.cons; (focus ((repeat (first | exact Z0 | apply Sel.there)); done))) | apply Sees.skip)) mixed (by decide +kernel) ?_
  refine pw_q rfl rfl rfl rfl (oq_load rfl rfl Tryz.isAgg96 (by repeat (first | exact Z0 | apply Sel.there)) (by rfl) (by rfl)) ?_
  refine pw_q rfl rfl rfl rfl (oq_load rfl rfl Tryz.isAgg96 (by repeat (first | exact Z0 | apply Sel.there)) (by rfl) (by rfl)) ?_
  refine pw_q rfl rfl rfl rfl (oq_load rfl rfl Tryz.isAgg96 (by repeat (first | exact Z0 | apply Sel.there)) (by rfl) (by rfl)) ?_
  refine pw_q rfl rfl rfl rfl (oq_pv (pv_nilCheck rfl)) ?_
  refine pw_q rfl rfl rfl rfl (oq_pv (pv_fieldAddr (k := 12) rfl Tryz.runUnderlying168 rfl Tryz.sizeOf28 rfl rfl)) ?_
  refine pw_q rfl rfl rfl rfl (oq_load (off := 10) rfl rfl Tryz.isAgg28 (by repeat (first | exact Z0 | apply Sel.there)) (by rfl) (by rfl)) ?_
  refine pw_q rfl rfl rfl rfl (oq_pv (pv_convert rfl Tryz.runUnderlying28 Tryz.runUnderlying2)) ?_
  refine pw_q rfl rfl rfl rfl (oq_load rfl rfl Tryz.isAgg96 (by repeat (first | exact Z0 | apply Sel.there)) (by rfl) (by rfl)) ?_
  refine pw_q rfl rfl rfl rfl (oq_pv (pv_nilCheck rfl)) ?_
  refine pw_q rfl rfl rfl rfl (oq_pv (pv_fieldAddr (k := 12) rfl Tryz.runUnderlying168 rfl Tryz.sizeOf28 rfl rfl)) ?_
  refine pw_q rfl rfl rfl rfl (oq_load (off := 10) rfl rfl Tryz.isAgg28 (by repeat (first | exact Z0 | apply Sel.there)) (by rfl) (by rfl)) ?_
  refine pw_q rfl rfl rfl rfl (oq_pv (pv_convert rfl Tryz.runUnderlying28 Tryz.runUnderlying2)) ?_
  refine pw_q rfl rfl rfl rfl (oq_load rfl rfl Tryz.isAgg2 (by repeat (first | exact Z0 | apply Sel.there)) (by rfl) (by rfl)) ?_
  refine pw_q rfl rfl rfl rfl (oq_pv (pv_bin rfl rfl rfl)) ?_
  refine pw_q rfl rfl rfl rfl (oq_pv (pv_nilCheck rfl)) ?_
  refine pw_q rfl rfl rfl rfl (oq_pv (pv_fieldAddr (k := 9) rfl Tryz.runUnderlying168 rfl Tryz.sizeOf25 rfl rfl)) ?_
  refine pw_q rfl rfl rfl rfl (oq_pv (pv_fieldAddr (k := 9) rfl Tryz.runUnderlying25 rfl Tryz.sizeOf2 rfl rfl)) ?_
  refine pw_e0 rfl rfl rfl (ot_store (off := 9) rfl rfl rfl Tryz.sizeOf2 (by repeat (first | exact Z0 | apply Sel.there)) (rfl : _ = [_]) rfl (by rfl) (by rfl) (by first | rfl | assumption) (by exact (rfl : _ = _ :: _))) ?_
  rintro _ _ rfl
  refine ⟨[_], .refl, ?_⟩
  refine pw_q rfl rfl rfl rfl (oq_pv (pv_nilCheck rfl)) ?_
  refine pw_q rfl rfl rfl rfl (oq_pv (pv_fieldAddr (k := 9) rfl Tryz.runUnderlying168 rfl Tryz.sizeOf25 rfl rfl)) ?_
  refine pw_q rfl rfl rfl rfl (oq_pv (pv_fieldAddr (k := 10) rfl Tryz.runUnderlying25 rfl Tryz.sizeOf2 rfl rfl)) ?_
  refine pw_b0 rfl rfl rfl (ot_store (off := 10) rfl rfl rfl Tryz.sizeOf2 (by repeat (first | exact Z0 | apply Sel.there)) (rfl : _ = [_]) rfl (by rfl) (by rfl) (by first | rfl | assumption) (by exact (rfl : _ = _ :: _))) ?_
  rintro _ _ rfl
  refine pw_done ?_
  refine Kx3 0 2 3 rfl ?_
  refine ct_imp (Sees.out (M := row b 9 [_] :: row b 0 _ :: row b 10 _ :: _) (by repeat (first | exact Sees.refl | (apply Sees.cons; (focus ((repeat (first | exact Z0 | apply Sel.there)); done))) | apply Sees.skip))) ?_
  refine ct_imp (fun m h => row_glue (by rfl) h) ?_
  refine ct_plan1 [.q 0, .q 1, .q 2, .q 3, .q 4, .q 5, .q 6, .q 7, .e 8, .q 9, .q 10, .e 11, .q 12, .q 13, .b 14] (row b 0 _) (by repeat (first | exact Sees.refl | (apply Sees.cons; (focus ((repeat (first | exact Z0 | apply Sel.there)); done))) | apply Sees.skip)) mixed (by decide +kernel) ?_
  refine pw_q rfl rfl rfl rfl (oq_load rfl rfl Tryz.isAgg96 (by repeat (first | exact Z0 | apply Sel.there)) (by rfl) (by rfl)) ?_
  refine pw_q rfl rfl rfl rfl (oq_load rfl rfl Tryz.isAgg96 (by repeat (first | exact Z0 | apply Sel.there)) (by rfl) (by rfl)) ?_
  refine pw_q rfl rfl rfl rfl (oq_load rfl rfl Tryz.isAgg96 (by repeat (first | exact Z0 | apply Sel.there)) (by rfl) (by rfl)) ?_
  refine pw_q rfl rfl rfl rfl (oq_load rfl rfl Tryz.isAgg21 (by repeat (first | exact Z0 | apply Sel.there)) (by rfl) (by rfl)) ?_
  refine pw_q rfl rfl rfl rfl (oq_load rfl rfl Tryz.isAgg29 (by repeat (first | exact Z0 | apply Sel.there)) (by rfl) (by rfl)) ?_
  refine pw_q rfl rfl rfl rfl (oq_pv (pv_build (ps := [(0, _), (1, _)]) (cs := [_, _]) rfl Tryz.zeroValue74 Tryz.runUnderlying74 (.cons Tryz.sizeOf21 (.cons Tryz.sizeOf29 (.nil))) rfl)) ?_
  refine pw_q rfl rfl rfl rfl (oq_pv (pv_nilCheck rfl)) ?_
  refine pw_q rfl rfl rfl rfl (oq_pv (pv_fieldAddr (k := 14) rfl Tryz.runUnderlying168 rfl Tryz.sizeOf74 rfl rfl)) ?_
  refine pw_e0 rfl rfl rfl (ot_store rfl rfl rfl Tryz.sizeOf74 (by repeat (first | exact Z0 | apply Sel.there)) (rfl : _ = [_, _]) rfl (by rfl) (by rfl) (by first | rfl | assumption) (by exact (rfl : _ = _ :: _ :: _ :: _ :: _ :: _ :: _ :: _ :: _ :: _ :: _ :: _ :: _ :: _ :: _ :: _ :: _))) ?_
  rintro _ _ rfl
  refine ⟨[_], .refl, ?_⟩
  refine pw_q rfl rfl rfl rfl (oq_pv (pv_nilCheck rfl)) ?_
  refine pw_q rfl rfl rfl rfl (oq_pv (pv_fieldAddr (k := 16) rfl Tryz.runUnderlying168 rfl Tryz.sizeOf4 rfl rfl)) ?_
  refine pw_e0 rfl rfl rfl (ot_store rfl rfl rfl Tryz.sizeOf4 (by repeat (first | exact Z0 | apply Sel.there)) (rfl : _ = [_]) rfl (by rfl) (by rfl) (by first | rfl | assumption) (by exact (rfl : _ = _ :: _ :: _ :: _ :: _ :: _ :: _ :: _ :: _ :: _ :: _ :: _ :: _ :: _ :: _ :: _ :: _ :: _))) ?_
  rintro _ _ rfl
  refine ⟨[_], .refl, ?_⟩
  refine pw_q rfl rfl rfl rfl (oq_pv (pv_nilCheck rfl)) ?_
  refine pw_q rfl rfl rfl rfl (oq_pv (pv_fieldAddr (k := 17) rfl Tryz.runUnderlying168 rfl Tryz.sizeOf54 rfl rfl)) ?_
  refine pw_b0 rfl rfl rfl (ot_store rfl rfl rfl Tryz.sizeOf54 (by repeat (first | exact Z0 | apply Sel.there)) (rfl : _ = [_]) rfl (by rfl) (by rfl) (by first | rfl | assumption) (by exact (rfl : _ = _ :: _ :: _ :: _ :: _ :: _ :: _ :: _ :: _ :: _ :: _ :: _ :: _ :: _ :: _ :: _ :: _ :: _ :: _))) ?_
  rintro _ _ rfl
  refine pw_done ?_
  exact fin_end (RVs.nil) Tryz.results162 (⟨rfl, rfl⟩) (Sees.ex ⟨bp, bc, 0, 0, 0, 0, 0, 0, 0, 0, 0, none, 0⟩ (by repeat (first | exact Sees.refl | (apply Sees.cons; (focus ((repeat (first | exact Z0 | apply Sel.there)); done))) | apply Sees.skip)))
theorem hbytes_spec (ω : World) (b : Nat) (s : HS) (ok : HOk s) (typ len size : Int) (hl : 8 ≤ len ∧ len ≤ 2147483647) (mp : Option Addr) (mc : Nat) (F : List HP) : Spec ω Tryz.prog 138 #[.pointer (some ⟨b, 0, none⟩), .int .i32 typ, .int .i64 len, .int .i64 size] (row b 0 [.int .i64 0, .int .i64 0, .int .i64 0, .int .u64 0, .int .u64 0, .slice none 0 0, .nilFunc, .int .i64 s.base, .int .i64 s.size, .int .i64 s.cur, .int .i64 s.nxt, .int .i64 s.lap, .int .u64 s.cursor, .int .i64 s.pads, .int .i32 s.mt, .slice mp s.data.length mc, .bool s.heard, .int .i64 s.e] :: own 1 mp s.data.length mc (byteC s.data) :: F) fun v' H' => v' = .tuple #[] ∧
    ∃ ph', ((1 ≤ len - 8 ∧ ph' = .out (s.base + plc s.cursor s.size + 8) (len - 8) typ size []) ∨ (len - 8 < 1 ∧ ph' = .vend typ size [])) ∧ H' = hearRep b s ph' :: F := by
  by_cases h : len - 8 < 1
  · exact (hbytes_none ω b s ok typ len size hl mp mc h F).mono fun v H ⟨h1, h2⟩ => ⟨h1, _, .inr ⟨h, rfl⟩, h2⟩
  · replace h : 1 ≤ len - 8 := by omega
    exact (hbytes_more ω b s ok typ len size hl mp mc h F).mono fun v H ⟨h1, h2⟩ => ⟨h1, _, .inl ⟨h, rfl⟩, h2⟩
theorem split_in (v : Int) : inK .i32 (split v).1 ∧ inK .i32 (split v).2 := ⟨inK_wrap _ _, inK_wrap _ _⟩
theorem hrec1_spec (ω : World) (b : Nat) (s : HS) (ok : HOk s) (v : Int) (hv : inK .u64 v) (q : Nat) (mp : Option Addr) (mc : Nat) (F : List HP)  : Spec ω Tryz.prog 133 #[.int .u64 v, .pointer (some ⟨q, 0, none⟩)] (row b 0 [.int .i64 0, .int .i64 0, .int .i64 0, .int .u64 0, .int .u64 0, .slice none 0 0, .nilFunc, .int .i64 s.base, .int .i64 s.size, .int .i64 s.cur, .int .i64 s.nxt, .int .i64 s.lap, .int .u64 s.cursor, .int .i64 s.pads, .int .i32 s.mt, .slice mp s.data.length mc, .bool s.heard, .int .i64 s.e] :: row q 0 [.pointer (some ⟨b, 0, none⟩)] :: own 1 mp s.data.length mc (byteC s.data) :: F) fun v' H' => v' = .tuple #[] ∧ ∃ s' ph', RecStep s v s' ph' ∧ H' = hearRep b s' ph' :: F := by
  refine spec_of_body Tryz.func133 rfl Tryz.ntmps133 rfl ?_
  obtain ⟨hb, hs, hc, hpd⟩ := ok
  have hpl := plc_in s.cursor s.size hs
  obtain ⟨⟨hk1, hk2⟩, hk3, hk4⟩ := split_in v
  refine Cr ?_
  refine Rp rfl (pv_move rfl) ?_
  refine Rq rfl (oq_call rfl Tryz.call134 (vs := [_]) rfl (split_pure _ ⟨by omega, by omega⟩)) ?_
  refine Rp rfl (pv_move rfl) ?_
  refine Rp rfl (pv_extract rfl rfl) ?_
  refine Rp rfl (pv_extract rfl rfl) ?_
  refine Rp rfl (pv_assign rfl) ?_
  refine Rp rfl (pv_assign rfl) ?_
  refine Kn3 1 3 4 rfl ?_
  refine Cr ?_
  refine Rp rfl (pv_move rfl) ?_
  refine Rp rfl (pv_max rfl rfl) ?_
  refine Rp rfl (pv_convert_in rfl Tryz.runUnderlying21 Tryz.runUnderlying2 (by split <;> exact ⟨by omega, by omega⟩)) ?_
  refine Rq rfl (oq_call rfl Tryz.call135 (vs := [_, _]) rfl (align_pure _ _ (by split <;> exact ⟨by omega, by omega⟩) ⟨by omega, by omega⟩)) ?_
  refine Rp rfl (pv_move rfl) ?_
  refine Rp rfl (pv_extract rfl rfl) ?_
  refine Rp rfl (pv_extract rfl rfl) ?_
  refine Ro rfl (ot_alloc rfl Tryz.zeroValue2 (rfl : _ = [_])) ?_
  rintro _ _ ⟨b5, rfl, rfl⟩
  refine rl_op0 rfl rfl (ot_store rfl rfl rfl Tryz.sizeOf2 (by repeat (first | exact Z0 | apply Sel.there)) (rfl : _ = [_]) rfl (by rfl) (by rfl) (by first | rfl | assumption) (by exact (rfl : _ = _ :: _))) ?_
  rintro _ _ rfl
  refine Rp rfl (pv_assign rfl) ?_
  refine Kn4 1 3 4 5 rfl ?_
  refine Cr ?_
  refine Rp rfl (pv_move rfl) ?_
  refine Rp rfl (pv_bin rfl rfl rfl) ?_
  refine Rp rfl (pv_assign rfl) ?_
  refine Kn5 1 3 4 5 7 rfl ?_
  refine ct_block ?_
  refine ct_seq ?_
  refine ct_planH [.q 0, .q 1, .q 2, .q 3, .q 4, .q 5, .q 6, .q 7, .q 8, .q 9, .q 10, .q 11, .q 12, .q 13, .q 14] mixed (by decide +kernel) ?_
  refine pw_q rfl rfl rfl rfl (oq_pv (pv_move rfl)) ?_
  refine pw_q rfl rfl rfl rfl (oq_pv (pv_bin rfl rfl rfl)) ?_
  refine pw_q rfl rfl rfl rfl (oq_pv (pv_move rfl)) ?_
  first | refine pw_split_d (fun h31 => ?_) (fun h31 => ?_) | refine pw_split_n (fun h31 => ?_) (fun h31 => ?_) | refine pw_split_b (fun h31 => ?_) (fun h31 => ?_) | refine pw_split (fun h31 => ?_) (fun h31 => ?_)
  · skip
    refine pw_u rfl rfl rfl rfl ?_
    refine pw_u rfl rfl rfl rfl ?_
    refine pw_u rfl rfl rfl rfl ?_
    refine pw_u rfl rfl rfl rfl ?_
    refine pw_u rfl rfl rfl rfl ?_
    refine pw_u rfl rfl rfl rfl ?_
    refine pw_u rfl rfl rfl rfl ?_
    refine pw_u rfl rfl rfl rfl ?_
    refine pw_u rfl rfl rfl rfl ?_
    refine pw_u rfl rfl rfl rfl ?_
    refine pw_q rfl rfl rfl rfl (oq_pv (pv_pick1 rfl rfl)) ?_
    refine pw_q rfl rfl rfl rfl (oq_pv (pv_assign rfl)) ?_
    refine pw_done ?_
    refine Kx6 1 3 4 5 7 28 rfl ?_
    refine ct_true rfl ?_
    refine ct_region ?_
    refine Rq rfl (oq_load rfl rfl Tryz.isAgg96 (by repeat (first | exact Z0 | apply Sel.there)) (by rfl) (by rfl)) ?_
    refine Ro rfl (ot_call rfl Tryz.call136 (vs := [_]) rfl (by repeat (first | exact Sees.refl | (apply Sees.cons; (focus ((repeat (first | exact Z0 | apply Sel.there)); done))) | apply Sees.skip)) (hlost_spec _ _  _ _ _ _ _ _ _  _ _ _ _ _ _ _ _ _ _ _ _ _ (by first | assumption | exact ⟨by omega, by omega⟩) (by first | assumption | exact ⟨by omega, by omega⟩) (by first | assumption | exact ⟨by omega, by omega⟩) _)) ?_
    rintro _ _ ⟨rfl, rfl⟩
    refine rl_nil ?_
    refine xt_normal_block ?_
    exact fin_end (RVs.nil) Tryz.results133 (⟨rfl, _, _, .lost1 (.inl h31), rfl⟩) (Sees.ex ⟨mp, mc, 0, 0, 0, 0, 0, 0, 0, 0, 0, none, 0⟩ (by repeat (first | exact Sees.refl | (apply Sees.cons; (focus ((repeat (first | exact Z0 | apply Sel.there)); done))) | apply Sees.skip)))
  · skip
    refine pw_q rfl rfl rfl rfl (oq_load rfl rfl Tryz.isAgg2 (by repeat (first | exact Z0 | apply Sel.there)) (by rfl) (by rfl)) ?_
    refine pw_q rfl rfl rfl rfl (oq_load rfl rfl Tryz.isAgg96 (by repeat (first | exact Z0 | apply Sel.there)) (by rfl) (by rfl)) ?_
    refine pw_q rfl rfl rfl rfl (oq_pv (pv_nilCheck rfl)) ?_
    refine pw_q rfl rfl rfl rfl (oq_pv (pv_fieldAddr (k := 7) rfl Tryz.runUnderlying168 rfl Tryz.sizeOf23 rfl rfl)) ?_
    refine pw_q rfl rfl rfl rfl (oq_pv (pv_fieldAddr (k := 8) rfl Tryz.runUnderlying23 rfl Tryz.sizeOf3 rfl rfl)) ?_
    refine pw_q rfl rfl rfl rfl (oq_load rfl rfl Tryz.isAgg3 (by repeat (first | exact Z0 | apply Sel.there)) (by rfl) (by rfl)) ?_
    refine pw_q rfl rfl rfl rfl (oq_load rfl rfl Tryz.isAgg96 (by repeat (first | exact Z0 | apply Sel.there)) (by rfl) (by rfl)) ?_
    refine pw_q rfl rfl rfl rfl (oq_call_of (cs := [_]) rfl Tryz.call132 (vs := [_]) rfl (by repeat (first | exact Pick.nil | (apply Pick.cons; (focus ((repeat (first | exact Z0 | apply Sel.there)); done))))) (fun F => hplace_read _ _  _ _ _ _ _ _ _  _ _ _ _ _ _ _ _ _ _ _ _ _ (by first | assumption | exact ⟨by omega, by omega⟩) (by first | assumption | exact ⟨by omega, by omega⟩) (by first | assumption | exact ⟨by omega, by omega⟩) F)) ?_
    refine pw_q rfl rfl rfl rfl (oq_pv (pv_sub rfl rfl ⟨by omega, by omega⟩)) ?_
    refine pw_q rfl rfl rfl rfl (oq_pv (pv_bin rfl rfl rfl)) ?_
    refine pw_q rfl rfl rfl rfl (oq_pv (pv_pick0 rfl rfl)) ?_
    refine pw_q rfl rfl rfl rfl (oq_pv (pv_assign rfl)) ?_
    refine pw_done ?_
    refine Kx6 1 3 4 5 7 28 rfl ?_
    first | refine ct_cond_d rfl (fun h28 => ?_) (fun h28 => ?_) | refine ct_cond_n rfl (fun h28 => ?_) (fun h28 => ?_) | refine ct_cond_b rfl (fun h28 => ?_) (fun h28 => ?_) | refine ct_cond rfl (fun h28 => ?_) (fun h28 => ?_)
    · skip
      refine ct_region ?_
      refine Rq rfl (oq_load rfl rfl Tryz.isAgg96 (by repeat (first | exact Z0 | apply Sel.there)) (by rfl) (by rfl)) ?_
      refine Ro rfl (ot_call rfl Tryz.call136 (vs := [_]) rfl (by repeat (first | exact Sees.refl | (apply Sees.cons; (focus ((repeat (first | exact Z0 | apply Sel.there)); done))) | apply Sees.skip)) (hlost_spec _ _  _ _ _ _ _ _ _  _ _ _ _ _ _ _ _ _ _ _ _ _ (by first | assumption | exact ⟨by omega, by omega⟩) (by first | assumption | exact ⟨by omega, by omega⟩) (by first | assumption | exact ⟨by omega, by omega⟩) _)) ?_
      rintro _ _ ⟨rfl, rfl⟩
      refine rl_nil ?_
      refine xt_normal_block ?_
      exact fin_end (RVs.nil) Tryz.results133 (⟨rfl, _, _, .lost1 (.inr h28), rfl⟩) (Sees.ex ⟨mp, mc, 0, 0, 0, 0, 0, 0, 0, 0, 0, none, 0⟩ (by repeat (first | exact Sees.refl | (apply Sees.cons; (focus ((repeat (first | exact Z0 | apply Sel.there)); done))) | apply Sees.skip)))
    · skip
      refine ct_seq ?_
      refine ct_planH [.q 0, .q 1, .q 2, .q 3, .q 4, .q 5, .q 6, .q 7, .q 8, .q 9, .q 10, .q 11, .q 12, .q 13, .q 14, .q 15, .q 16, .q 17, .q 18, .q 19, .q 20] mixed (by decide +kernel) ?_
      refine pw_q rfl rfl rfl rfl (oq_pv (pv_move rfl)) ?_
      refine pw_q rfl rfl rfl rfl (oq_pv (pv_move rfl)) ?_
      first | refine pw_split_d (fun h47 => ?_) (fun h47 => ?_) | refine pw_split_n (fun h47 => ?_) (fun h47 => ?_) | refine pw_split_b (fun h47 => ?_) (fun h47 => ?_) | refine pw_split (fun h47 => ?_) (fun h47 => ?_)
      · skip
        refine pw_q rfl rfl rfl rfl (oq_load rfl rfl Tryz.isAgg96 (by repeat (first | exact Z0 | apply Sel.there)) (by rfl) (by rfl)) ?_
        refine pw_q rfl rfl rfl rfl (oq_pv (pv_nilCheck rfl)) ?_
        refine pw_q rfl rfl rfl rfl (oq_pv (pv_fieldAddr (k := 13) rfl Tryz.runUnderlying168 rfl Tryz.sizeOf3 rfl rfl)) ?_
        refine pw_q rfl rfl rfl rfl (oq_load rfl rfl Tryz.isAgg3 (by repeat (first | exact Z0 | apply Sel.there)) (by rfl) (by rfl)) ?_
        refine pw_q rfl rfl rfl rfl (oq_pv (pv_bin rfl rfl rfl)) ?_
        refine pw_q rfl rfl rfl rfl (oq_pv (pv_move rfl)) ?_
        first | refine pw_split_d (fun h53 => ?_) (fun h53 => ?_) | refine pw_split_n (fun h53 => ?_) (fun h53 => ?_) | refine pw_split_b (fun h53 => ?_) (fun h53 => ?_) | refine pw_split (fun h53 => ?_) (fun h53 => ?_)
        · skip
          refine pw_u rfl rfl rfl rfl ?_
          refine pw_u rfl rfl rfl rfl ?_
          refine pw_u rfl rfl rfl rfl ?_
          refine pw_u rfl rfl rfl rfl ?_
          refine pw_u rfl rfl rfl rfl ?_
          refine pw_u rfl rfl rfl rfl ?_
          refine pw_u rfl rfl rfl rfl ?_
          refine pw_u rfl rfl rfl rfl ?_
          refine pw_u rfl rfl rfl rfl ?_
          refine pw_u rfl rfl rfl rfl ?_
          refine pw_q rfl rfl rfl rfl (oq_pv (pv_pick1 rfl rfl)) ?_
          refine pw_q rfl rfl rfl rfl (oq_pv (pv_pick1 rfl rfl)) ?_
          refine pw_q rfl rfl rfl rfl (oq_pv (pv_assign rfl)) ?_
          refine pw_done ?_
          refine Kx6 1 3 4 5 7 45 rfl ?_
          refine ct_true rfl ?_
          refine ct_region ?_
          refine Rq rfl (oq_load rfl rfl Tryz.isAgg96 (by repeat (first | exact Z0 | apply Sel.there)) (by rfl) (by rfl)) ?_
          refine Ro rfl (ot_call rfl Tryz.call136 (vs := [_]) rfl (by repeat (first | exact Sees.refl | (apply Sees.cons; (focus ((repeat (first | exact Z0 | apply Sel.there)); done))) | apply Sees.skip)) (hlost_spec _ _  _ _ _ _ _ _ _  _ _ _ _ _ _ _ _ _ _ _ _ _ (by first | assumption | exact ⟨by omega, by omega⟩) (by first | assumption | exact ⟨by omega, by omega⟩) (by first | assumption | exact ⟨by omega, by omega⟩) _)) ?_
          rintro _ _ ⟨rfl, rfl⟩
          refine rl_nil ?_
          refine xt_normal_block ?_
          exact fin_end (RVs.nil) Tryz.results133 (⟨rfl, _, _, .lost2 (fun h => h.elim h31 h28) h47 (.inl h53), rfl⟩) (Sees.ex ⟨mp, mc, 0, 0, 0, 0, 0, 0, 0, 0, 0, none, 0⟩ (by repeat (first | exact Sees.refl | (apply Sees.cons; (focus ((repeat (first | exact Z0 | apply Sel.there)); done))) | apply Sees.skip)))
        · skip
          refine pw_q rfl rfl rfl rfl (oq_load rfl rfl Tryz.isAgg2 (by repeat (first | exact Z0 | apply Sel.there)) (by rfl) (by rfl)) ?_
          refine pw_q rfl rfl rfl rfl (oq_load rfl rfl Tryz.isAgg96 (by repeat (first | exact Z0 | apply Sel.there)) (by rfl) (by rfl)) ?_
          refine pw_q rfl rfl rfl rfl (oq_pv (pv_nilCheck rfl)) ?_
          refine pw_q rfl rfl rfl rfl (oq_pv (pv_fieldAddr (k := 7) rfl Tryz.runUnderlying168 rfl Tryz.sizeOf23 rfl rfl)) ?_
          refine pw_q rfl rfl rfl rfl (oq_pv (pv_fieldAddr (k := 8) rfl Tryz.runUnderlying23 rfl Tryz.sizeOf3 rfl rfl)) ?_
          refine pw_q rfl rfl rfl rfl (oq_load rfl rfl Tryz.isAgg3 (by repeat (first | exact Z0 | apply Sel.there)) (by rfl) (by rfl)) ?_
          refine pw_q rfl rfl rfl rfl (oq_load rfl rfl Tryz.isAgg96 (by repeat (first | exact Z0 | apply Sel.there)) (by rfl) (by rfl)) ?_
          refine pw_q rfl rfl rfl rfl (oq_call_of (cs := [_]) rfl Tryz.call132 (vs := [_]) rfl (by repeat (first | exact Pick.nil | (apply Pick.cons; (focus ((repeat (first | exact Z0 | apply Sel.there)); done))))) (fun F => hplace_read _ _  _ _ _ _ _ _ _  _ _ _ _ _ _ _ _ _ _ _ _ _ (by first | assumption | exact ⟨by omega, by omega⟩) (by first | assumption | exact ⟨by omega, by omega⟩) (by first | assumption | exact ⟨by omega, by omega⟩) F)) ?_
          refine pw_q rfl rfl rfl rfl (oq_pv (pv_sub rfl rfl ⟨by omega, by omega⟩)) ?_
          refine pw_q rfl rfl rfl rfl (oq_pv (pv_bin rfl rfl rfl)) ?_
          refine pw_q rfl rfl rfl rfl (oq_pv (pv_pick0 rfl rfl)) ?_
          refine pw_q rfl rfl rfl rfl (oq_pv (pv_pick1 rfl rfl)) ?_
          refine pw_q rfl rfl rfl rfl (oq_pv (pv_assign rfl)) ?_
          refine pw_done ?_
          refine Kx6 1 3 4 5 7 45 rfl ?_
          first | refine ct_cond_d rfl (fun h45 => ?_) (fun h45 => ?_) | refine ct_cond_n rfl (fun h45 => ?_) (fun h45 => ?_) | refine ct_cond_b rfl (fun h45 => ?_) (fun h45 => ?_) | refine ct_cond rfl (fun h45 => ?_) (fun h45 => ?_)
          · skip
            refine ct_region ?_
            refine Rq rfl (oq_load rfl rfl Tryz.isAgg96 (by repeat (first | exact Z0 | apply Sel.there)) (by rfl) (by rfl)) ?_
            refine Ro rfl (ot_call rfl Tryz.call136 (vs := [_]) rfl (by repeat (first | exact Sees.refl | (apply Sees.cons; (focus ((repeat (first | exact Z0 | apply Sel.there)); done))) | apply Sees.skip)) (hlost_spec _ _  _ _ _ _ _ _ _  _ _ _ _ _ _ _ _ _ _ _ _ _ (by first | assumption | exact ⟨by omega, by omega⟩) (by first | assumption | exact ⟨by omega, by omega⟩) (by first | assumption | exact ⟨by omega, by omega⟩) _)) ?_
            rintro _ _ ⟨rfl, rfl⟩
            refine rl_nil ?_
            refine xt_normal_block ?_
            exact fin_end (RVs.nil) Tryz.results133 (⟨rfl, _, _, .lost2 (fun h => h.elim h31 h28) h47 (.inr h45), rfl⟩) (Sees.ex ⟨mp, mc, 0, 0, 0, 0, 0, 0, 0, 0, 0, none, 0⟩ (by repeat (first | exact Sees.refl | (apply Sees.cons; (focus ((repeat (first | exact Z0 | apply Sel.there)); done))) | apply Sees.skip)))
          · skip
            refine Cr ?_
            refine Rp rfl (pv_move rfl) ?_
            refine Rp rfl (pv_assign rfl) ?_
            refine Kn5 1 3 4 5 68 rfl ?_
            first | refine ct_cond_d rfl (fun h68 => ?_) (fun h68 => ?_) | refine ct_cond_n rfl (fun h68 => ?_) (fun h68 => ?_) | refine ct_cond_b rfl (fun h68 => ?_) (fun h68 => ?_) | refine ct_cond rfl (fun h68 => ?_) (fun h68 => ?_)
            · skip
              refine ct_region ?_
              refine Rq rfl (oq_load rfl rfl Tryz.isAgg96 (by repeat (first | exact Z0 | apply Sel.there)) (by rfl) (by rfl)) ?_
              refine Rp rfl (pv_makeFunc (l := []) (c := [_, _]) rfl rfl) ?_
              refine Rq rfl (oq_load rfl rfl Tryz.isAgg96 (by repeat (first | exact Z0 | apply Sel.there)) (by rfl) (by rfl)) ?_
              refine Rp rfl (pv_makeFunc (l := [_]) (c := []) rfl rfl) ?_
              refine Ro rfl (ot_call rfl Tryz.call104 (vs := [_, _, _]) rfl (by repeat (first | exact Sees.refl | (apply Sees.cons; (focus ((repeat (first | exact Z0 | apply Sel.there)); done))) | apply Sees.skip)) (hvalid_spec _ _  _ _ _ _ _ _ _  _ _ _ _ _ _ _ _ _ _ _ _ _  _ _ _ _ _ _ (by first | assumption | exact ⟨by omega, by omega⟩) (by first | assumption | exact ⟨by omega, by omega⟩) (by first | assumption | exact ⟨by omega, by omega⟩) _)) ?_
              rintro _ _ ⟨bt, k2, k3, k4, rfl, rfl⟩
              refine rl_nil ?_
              refine xt_normal_block ?_
              exact fin_end (RVs.nil) Tryz.results133 (⟨rfl, _, _, .pad (fun h => h.elim h31 h28) h47 (fun h => h.elim h53 h45), rfl⟩) (Sees.ex ⟨mp, mc, bt, k2, k3, k4, q, b5, 0, 0, 0, none, 0⟩ (by repeat (first | exact Sees.refl | (apply Sees.cons; (focus ((repeat (first | exact Z0 | apply Sel.there)); done))) | apply Sees.skip)))
            · exfalso; first | omega | (simp_all; done) | (simp_all; omega)
      · skip
        refine pw_u rfl rfl rfl rfl ?_
        refine pw_u rfl rfl rfl rfl ?_
        refine pw_u rfl rfl rfl rfl ?_
        refine pw_u rfl rfl rfl rfl ?_
        refine pw_u rfl rfl rfl rfl ?_
        refine pw_u rfl rfl rfl rfl ?_
        refine pw_u rfl rfl rfl rfl ?_
        refine pw_u rfl rfl rfl rfl ?_
        refine pw_u rfl rfl rfl rfl ?_
        refine pw_u rfl rfl rfl rfl ?_
        refine pw_u rfl rfl rfl rfl ?_
        refine pw_u rfl rfl rfl rfl ?_
        refine pw_u rfl rfl rfl rfl ?_
        refine pw_u rfl rfl rfl rfl ?_
        refine pw_u rfl rfl rfl rfl ?_
        refine pw_u rfl rfl rfl rfl ?_
        refine pw_u rfl rfl rfl rfl ?_
        refine pw_q rfl rfl rfl rfl (oq_pv (pv_pick0 rfl rfl)) ?_
        refine pw_q rfl rfl rfl rfl (oq_pv (pv_assign rfl)) ?_
        refine pw_done ?_
        refine Kx6 1 3 4 5 7 45 rfl ?_
        refine ct_false rfl ?_
        refine Cr ?_
        refine Rp rfl (pv_move rfl) ?_
        refine Rp rfl (pv_assign rfl) ?_
        refine Kn5 1 3 4 5 68 rfl ?_
        first | refine ct_cond_d rfl (fun h68 => ?_) (fun h68 => ?_) | refine ct_cond_n rfl (fun h68 => ?_) (fun h68 => ?_) | refine ct_cond_b rfl (fun h68 => ?_) (fun h68 => ?_) | refine ct_cond rfl (fun h68 => ?_) (fun h68 => ?_)
        · exfalso; first | omega | (simp_all; done) | (simp_all; omega)
        · skip
          refine ct_region ?_
          refine Rq rfl (oq_load rfl rfl Tryz.isAgg96 (by repeat (first | exact Z0 | apply Sel.there)) (by rfl) (by rfl)) ?_
          refine Rp rfl (pv_move rfl) ?_
          refine Rp rfl (pv_move rfl) ?_
          refine Rp rfl (pv_convert_in rfl Tryz.runUnderlying21 Tryz.runUnderlying3 ⟨by omega, by omega⟩) ?_
          refine Rq rfl (oq_load rfl rfl Tryz.isAgg2 (by repeat (first | exact Z0 | apply Sel.there)) (by rfl) (by rfl)) ?_
          refine Ro rfl (ot_call rfl Tryz.call138 (vs := [_, _, _, _]) rfl (by repeat (first | exact Sees.refl | (apply Sees.cons; (focus ((repeat (first | exact Z0 | apply Sel.there)); done))) | apply Sees.skip)) (hbytes_spec _ _ _ ⟨hb, hs, hc, hpd⟩ _ _ _ ⟨by omega, by omega⟩ _ _ _)) ?_
          rintro _ _ ⟨rfl, ph, hph, rfl⟩
          refine rl_nil ?_
          refine xt_normal_block ?_
          exact fin_end (RVs.nil) Tryz.results133 (⟨rfl, _, ph, (by rcases hph with ⟨h, rfl⟩ | ⟨h, rfl⟩; exact .more (fun h => h.elim h31 h28) h47 h; exact .none (fun h => h.elim h31 h28) h47 h), rfl⟩) (by repeat (first | exact Sees.refl | (apply Sees.cons; (focus ((repeat (first | exact Z0 | apply Sel.there)); done))) | apply Sees.skip))
end Go.Proofs.YtnjljfjncfbinaaGreat
