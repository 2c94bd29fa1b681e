/- A machine that sends a message: its states, its step, its contracts. -/
import Derived.Test.YtnjljfjncfbinaaGreatSq
import Derived.Test.YtnjljfjncfbinaaGreatSm1
set_option linter.all false
namespace Go.Proofs.YtnjljfjncfbinaaGreat
open Go Go.Proofs
set_option maxRecDepth 100000
set_option linter.unusedVariables false
attribute [local irreducible] RL CT XT OQ OT PW PG PV Upon wpL
theorem size8_pure (n : Int) (h : 0 ≤ n ∧ n ≤ 131072) : PureSpec Tryz.prog 118 #[.int .i64 n, .int .i64 8, .int .i64 8] (.tuple #[.int .i64 (align (n + 8) 8).1, .int .i64 (align (n + 8) 8).2]) := by
  have := size_pure n 8 8 ⟨by omega, by omega⟩ ⟨by omega, by omega⟩ ⟨by omega, by omega⟩
  rwa [if_neg (by omega)] at this
theorem recSize_pure (n : Int) (h : 0 ≤ n ∧ n ≤ 131072) : PureSpec Tryz.prog 140 #[.int .i64 n] (.tuple #[.int .i64 (align (n + 8) 8).1, .int .i64 (align (n + 8) 8).2]) := by
  intro ω F
  refine spec_of_body Tryz.func140 rfl Tryz.ntmps140 rfl ?_
  refine Cr ?_
  refine Rp rfl (pv_assign rfl) ?_
  refine Rp rfl (pv_assign rfl) ?_
  refine Kn1 0 rfl ?_
  refine Cr ?_
  refine Rp rfl (pv_move rfl) ?_
  refine Rq rfl (oq_call rfl Tryz.call118 (vs := [_, _, _]) rfl (size8_pure _ h)) ?_
  refine Rp rfl (pv_extract rfl rfl) ?_
  refine Rp rfl (pv_extract rfl rfl) ?_
  refine Rp rfl (pv_assign rfl) ?_
  refine Rp rfl (pv_assign rfl) ?_
  refine Kn2 2 3 rfl ?_
  refine ct_ret ?_
  exact fin_ret (RVs.tmp rfl (RVs.tmp rfl (RVs.nil))) Tryz.results140 ⟨rfl, rfl⟩ (Sees.refl)
@[irreducible] def recV (len : Int) (typ : Int) : Int := ior .u64 (IntKind.u64.wrap ((IntKind.u64.wrap (IntKind.u32.wrap typ)) * 4294967296)) (IntKind.u64.wrap (IntKind.u32.wrap len))
theorem recV_pure (len : Int) (typ : Int) : PureSpec Tryz.prog 145 #[.int .i32 len, .int .i32 typ] (.int .u64 (recV len typ)) := by
  intro ω F
  refine spec_of_body Tryz.func145 rfl Tryz.ntmps145 rfl ?_
  refine Cr ?_
  refine Rp rfl (pv_assign rfl) ?_
  refine Kn2 0 1 rfl ?_
  refine Cr ?_
  refine Rp rfl (pv_move rfl) ?_
  refine Rp rfl (pv_convert rfl Tryz.runUnderlying21 Tryz.runUnderlying86) ?_
  refine Rp rfl (pv_convert rfl Tryz.runUnderlying86 Tryz.runUnderlying28) ?_
  refine Rp rfl (pv_shl_lit (n := 4294967296) rfl rfl (by decide) rfl) ?_
  refine Rp rfl (pv_move rfl) ?_
  refine Rp rfl (pv_convert rfl Tryz.runUnderlying21 Tryz.runUnderlying86) ?_
  refine Rp rfl (pv_convert rfl Tryz.runUnderlying86 Tryz.runUnderlying28) ?_
  refine Rp rfl (pv_bin rfl rfl rfl) ?_
  refine Rp rfl (pv_assign rfl) ?_
  refine Kn1 4 rfl ?_
  refine ct_ret ?_
  refine fin_ret (RVs.tmp rfl (RVs.nil)) Tryz.results145 ⟨?_, rfl⟩ (Sees.refl)
  rw [show recV len typ = ior .u64 (IntKind.u64.wrap ((IntKind.u64.wrap (IntKind.u32.wrap typ)) * 4294967296)) (IntKind.u64.wrap (IntKind.u32.wrap len)) from by unfold recV; rfl]; rfl
/-- What it has in its fields. -/
structure SndS where
  rBase : Int
  rSize : Int
  typ : Int
  b : List UInt8
  tail : Int
  e : Int
structure SndOk (s : SndS) : Prop where
  hb : inK .i64 s.rBase
  hs : inK .i64 s.rSize
  hl : s.b.length ≤ 131072
/-- Where it is. -/
inductive SndPh where
  | fin
  | ld_begin (p0 : Int)
  | st_begin_1 (p0 : Int) (p1 : Int) (p2 : Int) (p3 : Int)
  | st_begin_2 (p0 : Int) (p1 : Int) (p2 : Int) (p3 : Int) (p4 : Int)
  | st_write_1 (p0 : Int) (p1 : Int) (p2 : Int) (p3 : Int)
  | st_begin_2_1 (p0 : Int) (p1 : Int) (p2 : Int) (p3 : Int)
  | st_write_1_1_1 (p0 : Int) (p1 : Int) (p2 : Int)
  | in_write_1_1 (p0 : Int) (p1 : List UInt8) (p2 : Int)
  | st_write_1_1_1_1 (p0 : Int) (p1 : Int)
structure SndX where
  fp1 : Option Addr := none
  fc1 : Nat := 0
  a1 : Nat := 0
  a2 : Nat := 0
  a3 : Nat := 0
  a4 : Nat := 0
  a5 : Nat := 0
  a6 : Nat := 0
  a7 : Nat := 0
  q : Option Addr := none
  d : Nat := 0
/-- How it lies in memory. -/
def sndRep (b : Nat) (s : SndS) : SndPh → HP
  | .fin => ex fun x : SndX => [row b 0 [.int .i64 0, .int .i64 0, .int .i64 0, .int .u64 0, .int .u64 0, .slice none 0 0, .nilFunc, .int .i64 s.rBase, .int .i64 s.rSize, .int .i32 s.typ, .slice x.fp1 s.b.length x.fc1, .int .u64 s.tail, .int .i64 s.e], own 1 x.fp1 s.b.length x.fc1 (byteC s.b)]
  | .ld_begin p0 => ex fun x : SndX => [row b 0 [.int .i64 1, .int .i64 p0, .int .i64 8, .int .u64 0, .int .u64 0, .slice none 0 0, .func (.func 130) #[] #[.pointer (some ⟨x.a1, 0, none⟩)], .int .i64 s.rBase, .int .i64 s.rSize, .int .i32 s.typ, .slice x.fp1 s.b.length x.fc1, .int .u64 s.tail, .int .i64 s.e], row x.a1 0 [.func (.func 112) #[.pointer (some ⟨b, 0, none⟩)] #[]], own 1 x.fp1 s.b.length x.fc1 (byteC s.b)]
  | .st_begin_1 p0 p1 p2 p3 => ex fun x : SndX => [row b 0 [.int .i64 2, .int .i64 p2, .int .i64 8, .int .u64 p3, .int .u64 0, .slice none 0 0, .func (.func 159) #[] #[.pointer (some ⟨x.a1, 0, none⟩)], .int .i64 s.rBase, .int .i64 s.rSize, .int .i32 s.typ, .slice x.fp1 s.b.length x.fc1, .int .u64 s.tail, .int .i64 s.e], row x.a1 0 [.func (.func 142) #[] #[.pointer (some ⟨x.a2, 0, none⟩), .pointer (some ⟨x.a3, 0, none⟩), .pointer (some ⟨x.a4, 0, none⟩)]], row x.a2 0 [.pointer (some ⟨b, 0, none⟩)], row x.a3 0 [.int .i64 p0], row x.a4 0 [.int .u64 p1], own 1 x.fp1 s.b.length x.fc1 (byteC s.b)]
  | .st_begin_2 p0 p1 p2 p3 p4 => ex fun x : SndX => [row b 0 [.int .i64 2, .int .i64 p3, .int .i64 8, .int .u64 p4, .int .u64 0, .slice none 0 0, .func (.func 159) #[] #[.pointer (some ⟨x.a1, 0, none⟩)], .int .i64 s.rBase, .int .i64 s.rSize, .int .i32 s.typ, .slice x.fp1 s.b.length x.fc1, .int .u64 s.tail, .int .i64 s.e], row x.a1 0 [.func (.func 144) #[] #[.pointer (some ⟨x.a2, 0, none⟩), .pointer (some ⟨x.a3, 0, none⟩), .pointer (some ⟨x.a4, 0, none⟩), .pointer (some ⟨x.a5, 0, none⟩)]], row x.a2 0 [.pointer (some ⟨b, 0, none⟩)], row x.a3 0 [.int .i64 p0], row x.a4 0 [.int .u64 p1], row x.a5 0 [.int .u64 p2], own 1 x.fp1 s.b.length x.fc1 (byteC s.b)]
  | .st_write_1 p0 p1 p2 p3 => ex fun x : SndX => [row b 0 [.int .i64 2, .int .i64 p2, .int .i64 8, .int .u64 p3, .int .u64 0, .slice none 0 0, .func (.func 159) #[] #[.pointer (some ⟨x.a1, 0, none⟩)], .int .i64 s.rBase, .int .i64 s.rSize, .int .i32 s.typ, .slice x.fp1 s.b.length x.fc1, .int .u64 s.tail, .int .i64 s.e], row x.a1 0 [.func (.func 164) #[] #[.pointer (some ⟨x.a2, 0, none⟩), .pointer (some ⟨x.a3, 0, none⟩), .pointer (some ⟨x.a4, 0, none⟩)]], row x.a2 0 [.pointer (some ⟨b, 0, none⟩)], row x.a3 0 [.int .i64 p0], row x.a4 0 [.int .u64 p1], own 1 x.fp1 s.b.length x.fc1 (byteC s.b)]
  | .st_begin_2_1 p0 p1 p2 p3 => ex fun x : SndX => [row b 0 [.int .i64 2, .int .i64 p2, .int .i64 8, .int .u64 p3, .int .u64 0, .slice none 0 0, .func (.func 159) #[] #[.pointer (some ⟨x.a1, 0, none⟩)], .int .i64 s.rBase, .int .i64 s.rSize, .int .i32 s.typ, .slice x.fp1 s.b.length x.fc1, .int .u64 s.tail, .int .i64 s.e], row x.a1 0 [.func (.func 146) #[] #[.pointer (some ⟨x.a2, 0, none⟩), .pointer (some ⟨x.a3, 0, none⟩), .pointer (some ⟨x.a4, 0, none⟩)]], row x.a2 0 [.pointer (some ⟨b, 0, none⟩)], row x.a3 0 [.int .u64 p0], row x.a4 0 [.int .u64 p1], own 1 x.fp1 s.b.length x.fc1 (byteC s.b)]
  | .st_write_1_1_1 p0 p1 p2 => ex fun x : SndX => [row b 0 [.int .i64 2, .int .i64 p1, .int .i64 8, .int .u64 p2, .int .u64 0, .slice none 0 0, .func (.func 159) #[] #[.pointer (some ⟨x.a1, 0, none⟩)], .int .i64 s.rBase, .int .i64 s.rSize, .int .i32 s.typ, .slice x.fp1 s.b.length x.fc1, .int .u64 s.tail, .int .i64 s.e], row x.a1 0 [.func (.func 166) #[] #[.pointer (some ⟨x.a2, 0, none⟩), .pointer (some ⟨x.a3, 0, none⟩)]], row x.a2 0 [.pointer (some ⟨b, 0, none⟩)], row x.a3 0 [.int .u64 p0], own 1 x.fp1 s.b.length x.fc1 (byteC s.b)]
  | .in_write_1_1 p0 p1 p2 => ex fun x : SndX => [row b 0 [.int .i64 6, .int .i64 p0, .int .i64 (chk p1.length : Int), .int .u64 0, .int .u64 0, .slice x.q (chk p1.length) (chk p1.length), .func (.func 158) #[] #[.pointer (some ⟨x.a1, 0, none⟩), .pointer (some ⟨x.a2, 0, none⟩), .pointer (some ⟨x.a3, 0, none⟩), .pointer (some ⟨x.a4, 0, none⟩), .pointer (some ⟨x.a5, 0, none⟩)], .int .i64 s.rBase, .int .i64 s.rSize, .int .i32 s.typ, .slice x.fp1 s.b.length x.fc1, .int .u64 s.tail, .int .i64 s.e], row x.a1 0 [.pointer (some ⟨b, 0, none⟩)], row x.a2 0 [.int .i64 p0], row x.a3 0 [.int .i64 (chk p1.length : Int)], row x.a4 0 [.slice x.q p1.length x.d], row x.a5 0 [.func (.func 165) #[] #[.pointer (some ⟨x.a6, 0, none⟩), .pointer (some ⟨x.a7, 0, none⟩)]], row x.a6 0 [.pointer (some ⟨b, 0, none⟩)], row x.a7 0 [.int .u64 p2], fact (Vw (own 1 x.fp1 s.b.length x.fc1 (byteC s.b)) x.q p1.length (byteC p1) ∧ 1 ≤ p1.length ∧ p1.length ≤ 131072 ∧ p1.length ≤ x.d), own 1 x.fp1 s.b.length x.fc1 (byteC s.b)]
  | .st_write_1_1_1_1 p0 p1 => ex fun x : SndX => [row b 0 [.int .i64 2, .int .i64 p0, .int .i64 8, .int .u64 p1, .int .u64 0, .slice none 0 0, .func (.func 159) #[] #[.pointer (some ⟨x.a1, 0, none⟩)], .int .i64 s.rBase, .int .i64 s.rSize, .int .i32 s.typ, .slice x.fp1 s.b.length x.fc1, .int .u64 s.tail, .int .i64 s.e], row x.a1 0 [.func (.func 167) #[] #[.pointer (some ⟨x.a2, 0, none⟩)]], row x.a2 0 [.pointer (some ⟨b, 0, none⟩)], own 1 x.fp1 s.b.length x.fc1 (byteC s.b)]
def sndNew (base size typ : Int) (l : List UInt8) : SndS × SndPh := if (ringErr base size) = 0 then if typ < 1 then (⟨base, size, typ, l, 0, 1⟩, .fin) else if (l.length : Int) > (IntKind.i64.wrap (size.tdiv 8)) then (⟨base, size, typ, l, 0, 4⟩, .fin) else (⟨base, size, typ, l, 0, 10⟩, .ld_begin (IntKind.i64.wrap ((IntKind.i64.wrap (base + size)) + 8))) else (⟨base, size, typ, l, 0, 1⟩, .fin)
def sndStep_ld_begin (s : SndS) (p0 : Int) (a : Ans) : SndS × SndPh := if (IntKind.u64.wrap ((align ((s.b.length : Int) + 8) 8).1)) ≤ (IntKind.u64.wrap (IntKind.i64.wrap (s.rSize - (mask (IntKind.i64.wrap a.v) s.rSize)))) then (⟨s.rBase, s.rSize, s.typ, s.b, a.v, s.e⟩, .st_begin_1 (IntKind.i64.wrap (s.rBase + (mask (IntKind.i64.wrap a.v) s.rSize))) (IntKind.u64.wrap ((align ((s.b.length : Int) + 8) 8).1)) (IntKind.i64.wrap (s.rBase + s.rSize)) (IntKind.u64.wrap (a.v + (IntKind.u64.wrap ((align ((s.b.length : Int) + 8) 8).1))))) else (⟨s.rBase, s.rSize, s.typ, s.b, a.v, s.e⟩, .st_begin_2 (IntKind.i64.wrap (s.rBase + (mask (IntKind.i64.wrap a.v) s.rSize))) (IntKind.u64.wrap (IntKind.i64.wrap (s.rSize - (mask (IntKind.i64.wrap a.v) s.rSize)))) (IntKind.u64.wrap ((align ((s.b.length : Int) + 8) 8).1)) (IntKind.i64.wrap (s.rBase + s.rSize)) (IntKind.u64.wrap ((IntKind.u64.wrap (a.v + (IntKind.u64.wrap (IntKind.i64.wrap (s.rSize - (mask (IntKind.i64.wrap a.v) s.rSize)))))) + (IntKind.u64.wrap ((align ((s.b.length : Int) + 8) 8).1)))))
def sndStep_st_begin_1 (s : SndS) (p0 : Int) (p1 : Int) (p2 : Int) (p3 : Int) (a : Ans) : SndS × SndPh := (⟨s.rBase, s.rSize, s.typ, s.b, s.tail, s.e⟩, .st_write_1 p0 p1 p0 (ior .u64 (IntKind.u64.wrap ((IntKind.u64.wrap (IntKind.u32.wrap s.typ)) * 4294967296)) (IntKind.u64.wrap (IntKind.u32.wrap (IntKind.i32.wrap (IntKind.i64.wrap (8 + (s.b.length : Int))))))))
def sndStep_st_begin_2 (s : SndS) (p0 : Int) (p1 : Int) (p2 : Int) (p3 : Int) (p4 : Int) (a : Ans) : SndS × SndPh := (⟨s.rBase, s.rSize, s.typ, s.b, s.tail, s.e⟩, .st_begin_2_1 p1 p2 p0 (ior .u64 18446744069414584320 (IntKind.u64.wrap (IntKind.u32.wrap (IntKind.i32.wrap p1)))))
def sndStep_st_write_1 (s : SndS) (p0 : Int) (p1 : Int) (p2 : Int) (p3 : Int) (a : Ans) : SndS × SndPh := if (s.b).length = 0 then (⟨s.rBase, s.rSize, s.typ, s.b, s.tail, s.e⟩, .st_write_1_1_1 p1 (IntKind.i64.wrap ((IntKind.i64.wrap (s.rBase + s.rSize)) + 16)) s.tail) else (⟨s.rBase, s.rSize, s.typ, s.b, s.tail, s.e⟩, .in_write_1_1 (IntKind.i64.wrap (p0 + 8)) s.b p1)
def sndStep_st_begin_2_1 (s : SndS) (p0 : Int) (p1 : Int) (p2 : Int) (p3 : Int) (a : Ans) : SndS × SndPh := (⟨s.rBase, s.rSize, s.typ, s.b, IntKind.u64.wrap (s.tail + p0), s.e⟩, .st_write_1 s.rBase p1 s.rBase (ior .u64 (IntKind.u64.wrap ((IntKind.u64.wrap (IntKind.u32.wrap s.typ)) * 4294967296)) (IntKind.u64.wrap (IntKind.u32.wrap (IntKind.i32.wrap (IntKind.i64.wrap (8 + (s.b.length : Int))))))))
def sndStep_st_write_1_1_1 (s : SndS) (p0 : Int) (p1 : Int) (p2 : Int) (a : Ans) : SndS × SndPh := (⟨s.rBase, s.rSize, s.typ, s.b, s.tail, s.e⟩, .st_write_1_1_1_1 (IntKind.i64.wrap ((IntKind.i64.wrap (s.rBase + s.rSize)) + 8)) (IntKind.u64.wrap (s.tail + p0)))
def sndStep_in_write_1_1 (s : SndS) (p0 : Int) (p1 : List UInt8) (p2 : Int) (a : Ans) : SndS × SndPh := if p1.length - chk p1.length = 0 then (⟨s.rBase, s.rSize, s.typ, s.b, s.tail, s.e⟩, .st_write_1_1_1 p2 (IntKind.i64.wrap ((IntKind.i64.wrap (s.rBase + s.rSize)) + 16)) s.tail) else (⟨s.rBase, s.rSize, s.typ, s.b, s.tail, s.e⟩, .in_write_1_1 (IntKind.i64.wrap (p0 + (chk p1.length : Int))) (p1.drop (chk p1.length)) p2)
def sndStep_st_write_1_1_1_1 (s : SndS) (p0 : Int) (p1 : Int) (a : Ans) : SndS × SndPh := (⟨s.rBase, s.rSize, s.typ, s.b, s.tail, 0⟩, .fin)
/-- What it does with what it is told. -/
def sndStep (s : SndS) : SndPh → Ans → SndS × SndPh
  | .fin, _ => (s, .fin)
  | .ld_begin p0, a => sndStep_ld_begin s p0 a
  | .st_begin_1 p0 p1 p2 p3, a => sndStep_st_begin_1 s p0 p1 p2 p3 a
  | .st_begin_2 p0 p1 p2 p3 p4, a => sndStep_st_begin_2 s p0 p1 p2 p3 p4 a
  | .st_write_1 p0 p1 p2 p3, a => sndStep_st_write_1 s p0 p1 p2 p3 a
  | .st_begin_2_1 p0 p1 p2 p3, a => sndStep_st_begin_2_1 s p0 p1 p2 p3 a
  | .st_write_1_1_1 p0 p1 p2, a => sndStep_st_write_1_1_1 s p0 p1 p2 a
  | .in_write_1_1 p0 p1 p2, a => sndStep_in_write_1_1 s p0 p1 p2 a
  | .st_write_1_1_1_1 p0 p1, a => sndStep_st_write_1_1_1_1 s p0 p1 a
/-- What it wants. -/
def sndWant : SndPh → Option AccD
  | .fin => none
  | .ld_begin p0 => some ⟨1, p0, 8, 0, 0, []⟩
  | .st_begin_1 p0 p1 p2 p3 => some ⟨2, p2, 8, p3, 0, []⟩
  | .st_begin_2 p0 p1 p2 p3 p4 => some ⟨2, p3, 8, p4, 0, []⟩
  | .st_write_1 p0 p1 p2 p3 => some ⟨2, p2, 8, p3, 0, []⟩
  | .st_begin_2_1 p0 p1 p2 p3 => some ⟨2, p2, 8, p3, 0, []⟩
  | .st_write_1_1_1 p0 p1 p2 => some ⟨2, p1, 8, p2, 0, []⟩
  | .in_write_1_1 p0 p1 p2 => some ⟨6, p0, (chk p1.length : Int), 0, 0, p1.take (chk p1.length)⟩
  | .st_write_1_1_1_1 p0 p1 => some ⟨2, p0, 8, p1, 0, []⟩
theorem sndNext_more (ω : World) (b : Nat) (x0 x1 x2 x3 x4 x5 : Value) (fn : Fn) (l c : Array Value) (xs : List Value) (hx : plainCells [x0, x1, x2, x3, x4, x5] = true) (F : List HP) : Spec ω Tryz.prog 69 #[.pointer (some ⟨b, 0, none⟩)] (row b 0 (x0 :: x1 :: x2 :: x3 :: x4 :: x5 :: .func fn l c :: xs) :: F) fun v' H' => v' = .tuple #[.agg #[x0, x1, x2, x3, x4, x5], .bool true] ∧ H' = row b 0 (x0 :: x1 :: x2 :: x3 :: x4 :: x5 :: .func fn l c :: xs) :: F := by
  refine spec_of_body Tryz.func69 rfl Tryz.ntmps69 rfl ?_
  refine Cr ?_
  refine Ro rfl (ot_alloc rfl Tryz.zeroValue36 (rfl : _ = [_, _, _, _, _, _])) ?_
  rintro _ _ ⟨b1, rfl, rfl⟩
  refine Rp rfl (pv_assign rfl) ?_
  refine Kn2 0 2 rfl ?_
  refine ct_seq ?_
  refine Cr ?_
  refine Rp rfl (pv_move rfl) ?_
  refine Rp rfl (pv_eql rfl rfl Tryz.runUnderlying120 rfl) ?_
  refine Kn3 0 2 5 rfl ?_
  refine ct_false rfl ?_
  refine ct_skip ?_
  refine Kx2 0 2 rfl ?_
  refine Cr ?_
  refine Rp rfl (pv_move rfl) ?_
  refine Rp rfl (pv_nilCheck rfl) ?_
  refine Rp rfl (pv_fieldAddr (k := 0) rfl Tryz.runUnderlying211 rfl Tryz.sizeOf133 rfl rfl) ?_
  refine rl_call rfl rfl (by decide) Tryz.call67 (vs := [_]) rfl Tryz.func67 rfl Tryz.ntmps67 rfl rfl ?_
  refine Cr ?_
  refine Ro rfl (ot_alloc rfl Tryz.zeroValue36 (rfl : _ = [_, _, _, _, _, _])) ?_
  rintro _ _ ⟨b2, rfl, rfl⟩
  refine Rp rfl (pv_assign rfl) ?_
  refine Kn2 0 2 rfl ?_
  refine ct_seq ?_
  refine Cr ?_
  refine Rp rfl (pv_move rfl) ?_
  refine Rp rfl (pv_eql rfl rfl Tryz.runUnderlying189 rfl) ?_
  refine Rp rfl (pv_move rfl) ?_
  refine Ru rfl (pv_move rfl) ?_
  refine Ru rfl (pv_nilCheck rfl) ?_
  refine Ru rfl (pv_fieldAddr (k := 6) rfl Tryz.runUnderlying133 rfl Tryz.sizeOf49 rfl rfl) ?_
  refine Rv rfl (oq_load rfl rfl Tryz.isAgg49 Z2 (by rfl) (by rfl)) ?_
  refine Ru rfl (pv_eql rfl rfl Tryz.runUnderlying49 rfl) ?_
  refine Rp rfl (pv_pick0 rfl rfl) ?_
  refine Kn3 0 2 12 rfl ?_
  refine ct_false rfl ?_
  refine ct_skip ?_
  refine Kx2 0 2 rfl ?_
  refine Cr ?_
  refine Rp rfl (pv_move rfl) ?_
  refine Rp rfl (pv_nilCheck rfl) ?_
  refine Rp rfl (pv_fieldAddr (k := 0) rfl Tryz.runUnderlying133 rfl Tryz.sizeOf36 rfl rfl) ?_
  refine Rq rfl (oq_loadAgg (us := [_, _, _, _, _, _]) rfl rfl Tryz.isAgg36 Tryz.sizeOf36 Z2 (by rfl) (by rfl) (by rfl)) ?_
  refine rl_op0 rfl rfl (ot_store rfl rfl rfl Tryz.sizeOf36 Z0 (rfl : _ = [_, _, _, _, _, _]) rfl (by rfl) (by rfl) (by first | rfl | assumption) (by exact (rfl : _ = [_, _, _, _, _, _]))) ?_
  rintro _ _ rfl
  refine Rp rfl (pv_assign rfl) ?_
  refine Kn2 2 3 rfl ?_
  refine ct_ret ?_
  refine fin_ret (RVs.agg (us := [_, _, _, _, _, _]) rfl Tryz.isAgg36 Tryz.sizeOf36 Z0 (by rfl) (by rfl) (by rfl) (RVs.tmp rfl (RVs.nil))) Tryz.results67 ?_ Sees.refl
  refine Rp rfl (pv_extract rfl rfl) ?_
  refine Rp rfl (pv_extract rfl rfl) ?_
  refine rl_op0 rfl rfl (ot_store rfl rfl rfl Tryz.sizeOf36 Z1 (rfl : _ = [_, _, _, _, _, _]) rfl (by rfl) (by rfl) (by first | rfl | assumption) (by exact (rfl : _ = [_, _, _, _, _, _]))) ?_
  rintro _ _ rfl
  refine Rp rfl (pv_assign rfl) ?_
  refine Kn2 2 3 rfl ?_
  refine ct_ret ?_
  exact fin_ret (RVs.agg (us := [_, _, _, _, _, _]) rfl Tryz.isAgg36 Tryz.sizeOf36 Z0 (by rfl) (by rfl) (by rfl) (RVs.tmp rfl (RVs.nil))) Tryz.results69 ⟨rfl, rfl⟩ (Sees.cons Z2 (Sees.skip (Sees.skip (Sees.refl))))
theorem sndNext_end (ω : World) (b : Nat) (x0 x1 x2 x3 x4 x5 : Value) (xs : List Value) (F : List HP) : Spec ω Tryz.prog 69 #[.pointer (some ⟨b, 0, none⟩)] (row b 0 (x0 :: x1 :: x2 :: x3 :: x4 :: x5 :: .nilFunc :: xs) :: F) fun v' H' => v' = .tuple #[.agg #[.int .i64 0, .int .i64 0, .int .i64 0, .int .u64 0, .int .u64 0, .slice none 0 0], .bool false] ∧ H' = row b 0 (x0 :: x1 :: x2 :: x3 :: x4 :: x5 :: .nilFunc :: xs) :: F := by
  refine spec_of_body Tryz.func69 rfl Tryz.ntmps69 rfl ?_
  refine Cr ?_
  refine Ro rfl (ot_alloc rfl Tryz.zeroValue36 (rfl : _ = [_, _, _, _, _, _])) ?_
  rintro _ _ ⟨b1, rfl, rfl⟩
  refine Rp rfl (pv_assign rfl) ?_
  refine Kn2 0 2 rfl ?_
  refine ct_seq ?_
  refine Cr ?_
  refine Rp rfl (pv_move rfl) ?_
  refine Rp rfl (pv_eql rfl rfl Tryz.runUnderlying120 rfl) ?_
  refine Kn3 0 2 5 rfl ?_
  refine ct_false rfl ?_
  refine ct_skip ?_
  refine Kx2 0 2 rfl ?_
  refine Cr ?_
  refine Rp rfl (pv_move rfl) ?_
  refine Rp rfl (pv_nilCheck rfl) ?_
  refine Rp rfl (pv_fieldAddr (k := 0) rfl Tryz.runUnderlying211 rfl Tryz.sizeOf133 rfl rfl) ?_
  refine rl_call rfl rfl (by decide) Tryz.call67 (vs := [_]) rfl Tryz.func67 rfl Tryz.ntmps67 rfl rfl ?_
  refine Cr ?_
  refine Ro rfl (ot_alloc rfl Tryz.zeroValue36 (rfl : _ = [_, _, _, _, _, _])) ?_
  rintro _ _ ⟨b2, rfl, rfl⟩
  refine Rp rfl (pv_assign rfl) ?_
  refine Kn2 0 2 rfl ?_
  refine ct_seq ?_
  refine Cr ?_
  refine Rp rfl (pv_move rfl) ?_
  refine Rp rfl (pv_eql rfl rfl Tryz.runUnderlying189 rfl) ?_
  refine Rp rfl (pv_move rfl) ?_
  refine Ru rfl (pv_move rfl) ?_
  refine Ru rfl (pv_nilCheck rfl) ?_
  refine Ru rfl (pv_fieldAddr (k := 6) rfl Tryz.runUnderlying133 rfl Tryz.sizeOf49 rfl rfl) ?_
  refine Rv rfl (oq_load rfl rfl Tryz.isAgg49 Z2 (by rfl) (by rfl)) ?_
  refine Ru rfl (pv_eql rfl rfl Tryz.runUnderlying49 rfl) ?_
  refine Rp rfl (pv_pick0 rfl rfl) ?_
  refine Kn3 0 2 12 rfl ?_
  refine ct_true rfl ?_
  refine Cr ?_
  refine Rp rfl (pv_build (ps := []) (cs := [_, _, _, _, _, _]) rfl Tryz.zeroValue36 Tryz.runUnderlying36 (.cons Tryz.sizeOf3 (.cons Tryz.sizeOf3 (.cons Tryz.sizeOf3 (.cons Tryz.sizeOf28 (.cons Tryz.sizeOf28 (.cons Tryz.sizeOf29 (.nil))))))) rfl) ?_
  refine rl_op0 rfl rfl (ot_store rfl rfl rfl Tryz.sizeOf36 Z0 (rfl : _ = [_, _, _, _, _, _]) rfl (by rfl) (by rfl) (by first | rfl | assumption) (by exact (rfl : _ = [_, _, _, _, _, _]))) ?_
  rintro _ _ rfl
  refine Rp rfl (pv_assign rfl) ?_
  refine Kn2 2 3 rfl ?_
  refine ct_ret ?_
  refine xt_ret_then ?_
  refine fin_ret (RVs.agg (us := [_, _, _, _, _, _]) rfl Tryz.isAgg36 Tryz.sizeOf36 Z0 (by rfl) (by rfl) (by rfl) (RVs.tmp rfl (RVs.nil))) Tryz.results67 ?_ Sees.refl
  refine Rp rfl (pv_extract rfl rfl) ?_
  refine Rp rfl (pv_extract rfl rfl) ?_
  refine rl_op0 rfl rfl (ot_store rfl rfl rfl Tryz.sizeOf36 Z1 (rfl : _ = [_, _, _, _, _, _]) rfl (by rfl) (by rfl) (by first | rfl | assumption) (by exact (rfl : _ = [_, _, _, _, _, _]))) ?_
  rintro _ _ rfl
  refine Rp rfl (pv_assign rfl) ?_
  refine Kn2 2 3 rfl ?_
  refine ct_ret ?_
  exact fin_ret (RVs.agg (us := [_, _, _, _, _, _]) rfl Tryz.isAgg36 Tryz.sizeOf36 Z0 (by rfl) (by rfl) (by rfl) (RVs.tmp rfl (RVs.nil))) Tryz.results69 ⟨rfl, rfl⟩ (Sees.cons Z2 (Sees.skip (Sees.skip (Sees.refl))))
theorem sndNext_spec (ω : World) (b : Nat) (s : SndS) (ph : SndPh) (F : List HP) : Spec ω Tryz.prog 69 #[.pointer (some ⟨b, 0, none⟩)] (sndRep b s ph :: F) fun v' H' =>
    NextPost ω (sndRep b s ph) (sndWant ph) F v' H' := by
  cases ph with
  | fin =>
    refine Spec.ex fun x => ?_
    refine Spec.eqH (H1 := row b 0 [.int .i64 0, .int .i64 0, .int .i64 0, .int .u64 0, .int .u64 0, .slice none 0 0, .nilFunc, .int .i64 s.rBase, .int .i64 s.rSize, .int .i32 s.typ, .slice x.fp1 s.b.length x.fc1, .int .u64 s.tail, .int .i64 s.e] :: own 1 x.fp1 s.b.length x.fc1 (byteC s.b) :: F) rfl ?_
    refine (sndNext_end ω b _ _ _ _ _ _ _ _).mono ?_
    rintro _ _ ⟨rfl, rfl⟩
    exact ⟨⟨0, 0, 0, 0, 0, []⟩, false, pack [row b 0 [.int .i64 0, .int .i64 0, .int .i64 0, .int .u64 0, .int .u64 0, .slice none 0 0, .nilFunc, .int .i64 s.rBase, .int .i64 s.rSize, .int .i32 s.typ, .slice x.fp1 s.b.length x.fc1, .int .u64 s.tail, .int .i64 s.e], own 1 x.fp1 s.b.length x.fc1 (byteC s.b)], none, 0, 0, rfl, rfl, rd_nil, fun _ h => stars_ex1 x h, seesPack (L := [row b 0 [.int .i64 0, .int .i64 0, .int .i64 0, .int .u64 0, .int .u64 0, .slice none 0 0, .nilFunc, .int .i64 s.rBase, .int .i64 s.rSize, .int .i32 s.typ, .slice x.fp1 s.b.length x.fc1, .int .u64 s.tail, .int .i64 s.e], own 1 x.fp1 s.b.length x.fc1 (byteC s.b)]), rfl⟩
  | ld_begin p0 =>
    refine Spec.ex fun x => ?_
    refine Spec.eqH (H1 := row b 0 [.int .i64 1, .int .i64 p0, .int .i64 8, .int .u64 0, .int .u64 0, .slice none 0 0, .func (.func 130) #[] #[.pointer (some ⟨x.a1, 0, none⟩)], .int .i64 s.rBase, .int .i64 s.rSize, .int .i32 s.typ, .slice x.fp1 s.b.length x.fc1, .int .u64 s.tail, .int .i64 s.e] :: row x.a1 0 [.func (.func 112) #[.pointer (some ⟨b, 0, none⟩)] #[]] :: own 1 x.fp1 s.b.length x.fc1 (byteC s.b) :: F) rfl ?_
    refine (sndNext_more ω b _ _ _ _ _ _ _ _ _ _ (by rfl) _).mono ?_
    rintro _ _ ⟨rfl, rfl⟩
    exact ⟨⟨1, p0, 8, 0, 0, []⟩, true, pack [row b 0 [.int .i64 1, .int .i64 p0, .int .i64 8, .int .u64 0, .int .u64 0, .slice none 0 0, .func (.func 130) #[] #[.pointer (some ⟨x.a1, 0, none⟩)], .int .i64 s.rBase, .int .i64 s.rSize, .int .i32 s.typ, .slice x.fp1 s.b.length x.fc1, .int .u64 s.tail, .int .i64 s.e], row x.a1 0 [.func (.func 112) #[.pointer (some ⟨b, 0, none⟩)] #[]], own 1 x.fp1 s.b.length x.fc1 (byteC s.b)], none, 0, 0, rfl, rfl, rd_nil, fun _ h => stars_ex1 x h, seesPack (L := [row b 0 [.int .i64 1, .int .i64 p0, .int .i64 8, .int .u64 0, .int .u64 0, .slice none 0 0, .func (.func 130) #[] #[.pointer (some ⟨x.a1, 0, none⟩)], .int .i64 s.rBase, .int .i64 s.rSize, .int .i32 s.typ, .slice x.fp1 s.b.length x.fc1, .int .u64 s.tail, .int .i64 s.e], row x.a1 0 [.func (.func 112) #[.pointer (some ⟨b, 0, none⟩)] #[]], own 1 x.fp1 s.b.length x.fc1 (byteC s.b)]), rfl⟩
  | st_begin_1 p0 p1 p2 p3 =>
    refine Spec.ex fun x => ?_
    refine Spec.eqH (H1 := row b 0 [.int .i64 2, .int .i64 p2, .int .i64 8, .int .u64 p3, .int .u64 0, .slice none 0 0, .func (.func 159) #[] #[.pointer (some ⟨x.a1, 0, none⟩)], .int .i64 s.rBase, .int .i64 s.rSize, .int .i32 s.typ, .slice x.fp1 s.b.length x.fc1, .int .u64 s.tail, .int .i64 s.e] :: row x.a1 0 [.func (.func 142) #[] #[.pointer (some ⟨x.a2, 0, none⟩), .pointer (some ⟨x.a3, 0, none⟩), .pointer (some ⟨x.a4, 0, none⟩)]] :: row x.a2 0 [.pointer (some ⟨b, 0, none⟩)] :: row x.a3 0 [.int .i64 p0] :: row x.a4 0 [.int .u64 p1] :: own 1 x.fp1 s.b.length x.fc1 (byteC s.b) :: F) rfl ?_
    refine (sndNext_more ω b _ _ _ _ _ _ _ _ _ _ (by rfl) _).mono ?_
    rintro _ _ ⟨rfl, rfl⟩
    exact ⟨⟨2, p2, 8, p3, 0, []⟩, true, pack [row b 0 [.int .i64 2, .int .i64 p2, .int .i64 8, .int .u64 p3, .int .u64 0, .slice none 0 0, .func (.func 159) #[] #[.pointer (some ⟨x.a1, 0, none⟩)], .int .i64 s.rBase, .int .i64 s.rSize, .int .i32 s.typ, .slice x.fp1 s.b.length x.fc1, .int .u64 s.tail, .int .i64 s.e], row x.a1 0 [.func (.func 142) #[] #[.pointer (some ⟨x.a2, 0, none⟩), .pointer (some ⟨x.a3, 0, none⟩), .pointer (some ⟨x.a4, 0, none⟩)]], row x.a2 0 [.pointer (some ⟨b, 0, none⟩)], row x.a3 0 [.int .i64 p0], row x.a4 0 [.int .u64 p1], own 1 x.fp1 s.b.length x.fc1 (byteC s.b)], none, 0, 0, rfl, rfl, rd_nil, fun _ h => stars_ex1 x h, seesPack (L := [row b 0 [.int .i64 2, .int .i64 p2, .int .i64 8, .int .u64 p3, .int .u64 0, .slice none 0 0, .func (.func 159) #[] #[.pointer (some ⟨x.a1, 0, none⟩)], .int .i64 s.rBase, .int .i64 s.rSize, .int .i32 s.typ, .slice x.fp1 s.b.length x.fc1, .int .u64 s.tail, .int .i64 s.e], row x.a1 0 [.func (.func 142) #[] #[.pointer (some ⟨x.a2, 0, none⟩), .pointer (some ⟨x.a3, 0, none⟩), .pointer (some ⟨x.a4, 0, none⟩)]], row x.a2 0 [.pointer (some ⟨b, 0, none⟩)], row x.a3 0 [.int .i64 p0], row x.a4 0 [.int .u64 p1], own 1 x.fp1 s.b.length x.fc1 (byteC s.b)]), rfl⟩
  | st_begin_2 p0 p1 p2 p3 p4 =>
    refine Spec.ex fun x => ?_
    refine Spec.eqH (H1 := row b 0 [.int .i64 2, .int .i64 p3, .int .i64 8, .int .u64 p4, .int .u64 0, .slice none 0 0, .func (.func 159) #[] #[.pointer (some ⟨x.a1, 0, none⟩)], .int .i64 s.rBase, .int .i64 s.rSize, .int .i32 s.typ, .slice x.fp1 s.b.length x.fc1, .int .u64 s.tail, .int .i64 s.e] :: row x.a1 0 [.func (.func 144) #[] #[.pointer (some ⟨x.a2, 0, none⟩), .pointer (some ⟨x.a3, 0, none⟩), .pointer (some ⟨x.a4, 0, none⟩), .pointer (some ⟨x.a5, 0, none⟩)]] :: row x.a2 0 [.pointer (some ⟨b, 0, none⟩)] :: row x.a3 0 [.int .i64 p0] :: row x.a4 0 [.int .u64 p1] :: row x.a5 0 [.int .u64 p2] :: own 1 x.fp1 s.b.length x.fc1 (byteC s.b) :: F) rfl ?_
    refine (sndNext_more ω b _ _ _ _ _ _ _ _ _ _ (by rfl) _).mono ?_
    rintro _ _ ⟨rfl, rfl⟩
    exact ⟨⟨2, p3, 8, p4, 0, []⟩, true, pack [row b 0 [.int .i64 2, .int .i64 p3, .int .i64 8, .int .u64 p4, .int .u64 0, .slice none 0 0, .func (.func 159) #[] #[.pointer (some ⟨x.a1, 0, none⟩)], .int .i64 s.rBase, .int .i64 s.rSize, .int .i32 s.typ, .slice x.fp1 s.b.length x.fc1, .int .u64 s.tail, .int .i64 s.e], row x.a1 0 [.func (.func 144) #[] #[.pointer (some ⟨x.a2, 0, none⟩), .pointer (some ⟨x.a3, 0, none⟩), .pointer (some ⟨x.a4, 0, none⟩), .pointer (some ⟨x.a5, 0, none⟩)]], row x.a2 0 [.pointer (some ⟨b, 0, none⟩)], row x.a3 0 [.int .i64 p0], row x.a4 0 [.int .u64 p1], row x.a5 0 [.int .u64 p2], own 1 x.fp1 s.b.length x.fc1 (byteC s.b)], none, 0, 0, rfl, rfl, rd_nil, fun _ h => stars_ex1 x h, seesPack (L := [row b 0 [.int .i64 2, .int .i64 p3, .int .i64 8, .int .u64 p4, .int .u64 0, .slice none 0 0, .func (.func 159) #[] #[.pointer (some ⟨x.a1, 0, none⟩)], .int .i64 s.rBase, .int .i64 s.rSize, .int .i32 s.typ, .slice x.fp1 s.b.length x.fc1, .int .u64 s.tail, .int .i64 s.e], row x.a1 0 [.func (.func 144) #[] #[.pointer (some ⟨x.a2, 0, none⟩), .pointer (some ⟨x.a3, 0, none⟩), .pointer (some ⟨x.a4, 0, none⟩), .pointer (some ⟨x.a5, 0, none⟩)]], row x.a2 0 [.pointer (some ⟨b, 0, none⟩)], row x.a3 0 [.int .i64 p0], row x.a4 0 [.int .u64 p1], row x.a5 0 [.int .u64 p2], own 1 x.fp1 s.b.length x.fc1 (byteC s.b)]), rfl⟩
  | st_write_1 p0 p1 p2 p3 =>
    refine Spec.ex fun x => ?_
    refine Spec.eqH (H1 := row b 0 [.int .i64 2, .int .i64 p2, .int .i64 8, .int .u64 p3, .int .u64 0, .slice none 0 0, .func (.func 159) #[] #[.pointer (some ⟨x.a1, 0, none⟩)], .int .i64 s.rBase, .int .i64 s.rSize, .int .i32 s.typ, .slice x.fp1 s.b.length x.fc1, .int .u64 s.tail, .int .i64 s.e] :: row x.a1 0 [.func (.func 164) #[] #[.pointer (some ⟨x.a2, 0, none⟩), .pointer (some ⟨x.a3, 0, none⟩), .pointer (some ⟨x.a4, 0, none⟩)]] :: row x.a2 0 [.pointer (some ⟨b, 0, none⟩)] :: row x.a3 0 [.int .i64 p0] :: row x.a4 0 [.int .u64 p1] :: own 1 x.fp1 s.b.length x.fc1 (byteC s.b) :: F) rfl ?_
    refine (sndNext_more ω b _ _ _ _ _ _ _ _ _ _ (by rfl) _).mono ?_
    rintro _ _ ⟨rfl, rfl⟩
    exact ⟨⟨2, p2, 8, p3, 0, []⟩, true, pack [row b 0 [.int .i64 2, .int .i64 p2, .int .i64 8, .int .u64 p3, .int .u64 0, .slice none 0 0, .func (.func 159) #[] #[.pointer (some ⟨x.a1, 0, none⟩)], .int .i64 s.rBase, .int .i64 s.rSize, .int .i32 s.typ, .slice x.fp1 s.b.length x.fc1, .int .u64 s.tail, .int .i64 s.e], row x.a1 0 [.func (.func 164) #[] #[.pointer (some ⟨x.a2, 0, none⟩), .pointer (some ⟨x.a3, 0, none⟩), .pointer (some ⟨x.a4, 0, none⟩)]], row x.a2 0 [.pointer (some ⟨b, 0, none⟩)], row x.a3 0 [.int .i64 p0], row x.a4 0 [.int .u64 p1], own 1 x.fp1 s.b.length x.fc1 (byteC s.b)], none, 0, 0, rfl, rfl, rd_nil, fun _ h => stars_ex1 x h, seesPack (L := [row b 0 [.int .i64 2, .int .i64 p2, .int .i64 8, .int .u64 p3, .int .u64 0, .slice none 0 0, .func (.func 159) #[] #[.pointer (some ⟨x.a1, 0, none⟩)], .int .i64 s.rBase, .int .i64 s.rSize, .int .i32 s.typ, .slice x.fp1 s.b.length x.fc1, .int .u64 s.tail, .int .i64 s.e], row x.a1 0 [.func (.func 164) #[] #[.pointer (some ⟨x.a2, 0, none⟩), .pointer (some ⟨x.a3, 0, none⟩), .pointer (some ⟨x.a4, 0, none⟩)]], row x.a2 0 [.pointer (some ⟨b, 0, none⟩)], row x.a3 0 [.int .i64 p0], row x.a4 0 [.int .u64 p1], own 1 x.fp1 s.b.length x.fc1 (byteC s.b)]), rfl⟩
  | st_begin_2_1 p0 p1 p2 p3 =>
    refine Spec.ex fun x => ?_
    refine Spec.eqH (H1 := row b 0 [.int .i64 2, .int .i64 p2, .int .i64 8, .int .u64 p3, .int .u64 0, .slice none 0 0, .func (.func 159) #[] #[.pointer (some ⟨x.a1, 0, none⟩)], .int .i64 s.rBase, .int .i64 s.rSize, .int .i32 s.typ, .slice x.fp1 s.b.length x.fc1, .int .u64 s.tail, .int .i64 s.e] :: row x.a1 0 [.func (.func 146) #[] #[.pointer (some ⟨x.a2, 0, none⟩), .pointer (some ⟨x.a3, 0, none⟩), .pointer (some ⟨x.a4, 0, none⟩)]] :: row x.a2 0 [.pointer (some ⟨b, 0, none⟩)] :: row x.a3 0 [.int .u64 p0] :: row x.a4 0 [.int .u64 p1] :: own 1 x.fp1 s.b.length x.fc1 (byteC s.b) :: F) rfl ?_
    refine (sndNext_more ω b _ _ _ _ _ _ _ _ _ _ (by rfl) _).mono ?_
    rintro _ _ ⟨rfl, rfl⟩
    exact ⟨⟨2, p2, 8, p3, 0, []⟩, true, pack [row b 0 [.int .i64 2, .int .i64 p2, .int .i64 8, .int .u64 p3, .int .u64 0, .slice none 0 0, .func (.func 159) #[] #[.pointer (some ⟨x.a1, 0, none⟩)], .int .i64 s.rBase, .int .i64 s.rSize, .int .i32 s.typ, .slice x.fp1 s.b.length x.fc1, .int .u64 s.tail, .int .i64 s.e], row x.a1 0 [.func (.func 146) #[] #[.pointer (some ⟨x.a2, 0, none⟩), .pointer (some ⟨x.a3, 0, none⟩), .pointer (some ⟨x.a4, 0, none⟩)]], row x.a2 0 [.pointer (some ⟨b, 0, none⟩)], row x.a3 0 [.int .u64 p0], row x.a4 0 [.int .u64 p1], own 1 x.fp1 s.b.length x.fc1 (byteC s.b)], none, 0, 0, rfl, rfl, rd_nil, fun _ h => stars_ex1 x h, seesPack (L := [row b 0 [.int .i64 2, .int .i64 p2, .int .i64 8, .int .u64 p3, .int .u64 0, .slice none 0 0, .func (.func 159) #[] #[.pointer (some ⟨x.a1, 0, none⟩)], .int .i64 s.rBase, .int .i64 s.rSize, .int .i32 s.typ, .slice x.fp1 s.b.length x.fc1, .int .u64 s.tail, .int .i64 s.e], row x.a1 0 [.func (.func 146) #[] #[.pointer (some ⟨x.a2, 0, none⟩), .pointer (some ⟨x.a3, 0, none⟩), .pointer (some ⟨x.a4, 0, none⟩)]], row x.a2 0 [.pointer (some ⟨b, 0, none⟩)], row x.a3 0 [.int .u64 p0], row x.a4 0 [.int .u64 p1], own 1 x.fp1 s.b.length x.fc1 (byteC s.b)]), rfl⟩
  | st_write_1_1_1 p0 p1 p2 =>
    refine Spec.ex fun x => ?_
    refine Spec.eqH (H1 := row b 0 [.int .i64 2, .int .i64 p1, .int .i64 8, .int .u64 p2, .int .u64 0, .slice none 0 0, .func (.func 159) #[] #[.pointer (some ⟨x.a1, 0, none⟩)], .int .i64 s.rBase, .int .i64 s.rSize, .int .i32 s.typ, .slice x.fp1 s.b.length x.fc1, .int .u64 s.tail, .int .i64 s.e] :: row x.a1 0 [.func (.func 166) #[] #[.pointer (some ⟨x.a2, 0, none⟩), .pointer (some ⟨x.a3, 0, none⟩)]] :: row x.a2 0 [.pointer (some ⟨b, 0, none⟩)] :: row x.a3 0 [.int .u64 p0] :: own 1 x.fp1 s.b.length x.fc1 (byteC s.b) :: F) rfl ?_
    refine (sndNext_more ω b _ _ _ _ _ _ _ _ _ _ (by rfl) _).mono ?_
    rintro _ _ ⟨rfl, rfl⟩
    exact ⟨⟨2, p1, 8, p2, 0, []⟩, true, pack [row b 0 [.int .i64 2, .int .i64 p1, .int .i64 8, .int .u64 p2, .int .u64 0, .slice none 0 0, .func (.func 159) #[] #[.pointer (some ⟨x.a1, 0, none⟩)], .int .i64 s.rBase, .int .i64 s.rSize, .int .i32 s.typ, .slice x.fp1 s.b.length x.fc1, .int .u64 s.tail, .int .i64 s.e], row x.a1 0 [.func (.func 166) #[] #[.pointer (some ⟨x.a2, 0, none⟩), .pointer (some ⟨x.a3, 0, none⟩)]], row x.a2 0 [.pointer (some ⟨b, 0, none⟩)], row x.a3 0 [.int .u64 p0], own 1 x.fp1 s.b.length x.fc1 (byteC s.b)], none, 0, 0, rfl, rfl, rd_nil, fun _ h => stars_ex1 x h, seesPack (L := [row b 0 [.int .i64 2, .int .i64 p1, .int .i64 8, .int .u64 p2, .int .u64 0, .slice none 0 0, .func (.func 159) #[] #[.pointer (some ⟨x.a1, 0, none⟩)], .int .i64 s.rBase, .int .i64 s.rSize, .int .i32 s.typ, .slice x.fp1 s.b.length x.fc1, .int .u64 s.tail, .int .i64 s.e], row x.a1 0 [.func (.func 166) #[] #[.pointer (some ⟨x.a2, 0, none⟩), .pointer (some ⟨x.a3, 0, none⟩)]], row x.a2 0 [.pointer (some ⟨b, 0, none⟩)], row x.a3 0 [.int .u64 p0], own 1 x.fp1 s.b.length x.fc1 (byteC s.b)]), rfl⟩
  | in_write_1_1 p0 p1 p2 =>
    refine Spec.ex fun x => ?_
    refine Spec.eqH (H1 := row b 0 [.int .i64 6, .int .i64 p0, .int .i64 (chk p1.length : Int), .int .u64 0, .int .u64 0, .slice x.q (chk p1.length) (chk p1.length), .func (.func 158) #[] #[.pointer (some ⟨x.a1, 0, none⟩), .pointer (some ⟨x.a2, 0, none⟩), .pointer (some ⟨x.a3, 0, none⟩), .pointer (some ⟨x.a4, 0, none⟩), .pointer (some ⟨x.a5, 0, none⟩)], .int .i64 s.rBase, .int .i64 s.rSize, .int .i32 s.typ, .slice x.fp1 s.b.length x.fc1, .int .u64 s.tail, .int .i64 s.e] :: row x.a1 0 [.pointer (some ⟨b, 0, none⟩)] :: row x.a2 0 [.int .i64 p0] :: row x.a3 0 [.int .i64 (chk p1.length : Int)] :: row x.a4 0 [.slice x.q p1.length x.d] :: row x.a5 0 [.func (.func 165) #[] #[.pointer (some ⟨x.a6, 0, none⟩), .pointer (some ⟨x.a7, 0, none⟩)]] :: row x.a6 0 [.pointer (some ⟨b, 0, none⟩)] :: row x.a7 0 [.int .u64 p2] :: fact (Vw (own 1 x.fp1 s.b.length x.fc1 (byteC s.b)) x.q p1.length (byteC p1) ∧ 1 ≤ p1.length ∧ p1.length ≤ 131072 ∧ p1.length ≤ x.d) :: own 1 x.fp1 s.b.length x.fc1 (byteC s.b) :: F) rfl ?_
    refine (sndNext_more ω b _ _ _ _ _ _ _ _ _ _ (by rfl) _).mono ?_
    rintro _ _ ⟨rfl, rfl⟩
    exact ⟨⟨6, p0, (chk p1.length : Int), 0, 0, p1.take (chk p1.length)⟩, true, pack [row b 0 [.int .i64 6, .int .i64 p0, .int .i64 (chk p1.length : Int), .int .u64 0, .int .u64 0, .slice x.q (chk p1.length) (chk p1.length), .func (.func 158) #[] #[.pointer (some ⟨x.a1, 0, none⟩), .pointer (some ⟨x.a2, 0, none⟩), .pointer (some ⟨x.a3, 0, none⟩), .pointer (some ⟨x.a4, 0, none⟩), .pointer (some ⟨x.a5, 0, none⟩)], .int .i64 s.rBase, .int .i64 s.rSize, .int .i32 s.typ, .slice x.fp1 s.b.length x.fc1, .int .u64 s.tail, .int .i64 s.e], row x.a1 0 [.pointer (some ⟨b, 0, none⟩)], row x.a2 0 [.int .i64 p0], row x.a3 0 [.int .i64 (chk p1.length : Int)], row x.a4 0 [.slice x.q p1.length x.d], row x.a5 0 [.func (.func 165) #[] #[.pointer (some ⟨x.a6, 0, none⟩), .pointer (some ⟨x.a7, 0, none⟩)]], row x.a6 0 [.pointer (some ⟨b, 0, none⟩)], row x.a7 0 [.int .u64 p2], fact (Vw (own 1 x.fp1 s.b.length x.fc1 (byteC s.b)) x.q p1.length (byteC p1) ∧ 1 ≤ p1.length ∧ p1.length ≤ 131072 ∧ p1.length ≤ x.d), own 1 x.fp1 s.b.length x.fc1 (byteC s.b)], x.q, _, _, rfl, (chk_take _).symm, rd_packF Z8 (fun hf => vw_pre hf.1 (chk_le _).1) Z9, fun _ h => stars_ex1 x h, seesPack (L := [row b 0 [.int .i64 6, .int .i64 p0, .int .i64 (chk p1.length : Int), .int .u64 0, .int .u64 0, .slice x.q (chk p1.length) (chk p1.length), .func (.func 158) #[] #[.pointer (some ⟨x.a1, 0, none⟩), .pointer (some ⟨x.a2, 0, none⟩), .pointer (some ⟨x.a3, 0, none⟩), .pointer (some ⟨x.a4, 0, none⟩), .pointer (some ⟨x.a5, 0, none⟩)], .int .i64 s.rBase, .int .i64 s.rSize, .int .i32 s.typ, .slice x.fp1 s.b.length x.fc1, .int .u64 s.tail, .int .i64 s.e], row x.a1 0 [.pointer (some ⟨b, 0, none⟩)], row x.a2 0 [.int .i64 p0], row x.a3 0 [.int .i64 (chk p1.length : Int)], row x.a4 0 [.slice x.q p1.length x.d], row x.a5 0 [.func (.func 165) #[] #[.pointer (some ⟨x.a6, 0, none⟩), .pointer (some ⟨x.a7, 0, none⟩)]], row x.a6 0 [.pointer (some ⟨b, 0, none⟩)], row x.a7 0 [.int .u64 p2], fact (Vw (own 1 x.fp1 s.b.length x.fc1 (byteC s.b)) x.q p1.length (byteC p1) ∧ 1 ≤ p1.length ∧ p1.length ≤ 131072 ∧ p1.length ≤ x.d), own 1 x.fp1 s.b.length x.fc1 (byteC s.b)]), rfl⟩
  | st_write_1_1_1_1 p0 p1 =>
    refine Spec.ex fun x => ?_
    refine Spec.eqH (H1 := row b 0 [.int .i64 2, .int .i64 p0, .int .i64 8, .int .u64 p1, .int .u64 0, .slice none 0 0, .func (.func 159) #[] #[.pointer (some ⟨x.a1, 0, none⟩)], .int .i64 s.rBase, .int .i64 s.rSize, .int .i32 s.typ, .slice x.fp1 s.b.length x.fc1, .int .u64 s.tail, .int .i64 s.e] :: row x.a1 0 [.func (.func 167) #[] #[.pointer (some ⟨x.a2, 0, none⟩)]] :: row x.a2 0 [.pointer (some ⟨b, 0, none⟩)] :: own 1 x.fp1 s.b.length x.fc1 (byteC s.b) :: F) rfl ?_
    refine (sndNext_more ω b _ _ _ _ _ _ _ _ _ _ (by rfl) _).mono ?_
    rintro _ _ ⟨rfl, rfl⟩
    exact ⟨⟨2, p0, 8, p1, 0, []⟩, true, pack [row b 0 [.int .i64 2, .int .i64 p0, .int .i64 8, .int .u64 p1, .int .u64 0, .slice none 0 0, .func (.func 159) #[] #[.pointer (some ⟨x.a1, 0, none⟩)], .int .i64 s.rBase, .int .i64 s.rSize, .int .i32 s.typ, .slice x.fp1 s.b.length x.fc1, .int .u64 s.tail, .int .i64 s.e], row x.a1 0 [.func (.func 167) #[] #[.pointer (some ⟨x.a2, 0, none⟩)]], row x.a2 0 [.pointer (some ⟨b, 0, none⟩)], own 1 x.fp1 s.b.length x.fc1 (byteC s.b)], none, 0, 0, rfl, rfl, rd_nil, fun _ h => stars_ex1 x h, seesPack (L := [row b 0 [.int .i64 2, .int .i64 p0, .int .i64 8, .int .u64 p1, .int .u64 0, .slice none 0 0, .func (.func 159) #[] #[.pointer (some ⟨x.a1, 0, none⟩)], .int .i64 s.rBase, .int .i64 s.rSize, .int .i32 s.typ, .slice x.fp1 s.b.length x.fc1, .int .u64 s.tail, .int .i64 s.e], row x.a1 0 [.func (.func 167) #[] #[.pointer (some ⟨x.a2, 0, none⟩)]], row x.a2 0 [.pointer (some ⟨b, 0, none⟩)], own 1 x.fp1 s.b.length x.fc1 (byteC s.b)]), rfl⟩
theorem sndNew_spec (ω : World) (base size typ : Int) (l : List UInt8) (hb : inK .i64 base) (hs : inK .i64 size) (hl : l.length ≤ 131072) (bp : Option Addr) (bc : Nat) (X : HP) (hX : Rd ω X 1 bp l.length (byteC l)) (F : List HP) : Spec ω Tryz.prog 71 #[.agg #[.int .i64 base, .int .i64 size], .int .i32 typ, .slice bp l.length bc] (X :: F) fun v' H' => ∃ b, v' = .pointer (some ⟨b, 0, none⟩) ∧ Sees H' (sndRep b (sndNew base size typ l).1 (sndNew base size typ l).2 :: X :: F) := by
  refine spec_of_body Tryz.func71 rfl Tryz.ntmps71 rfl ?_
  refine Cr ?_
  refine Ro rfl (ot_box rfl rfl (rfl : _ = [_, _])) ?_
  rintro _ _ ⟨b1, rfl, rfl⟩
  refine Rp rfl (pv_assign rfl) ?_
  refine Kn3 1 2 3 rfl ?_
  refine ct_seq ?_
  refine ct_planH [.q 0, .q 1, .q 2, .e 3, .q 4, .b 5, .q 6] mixed (by decide +kernel) ?_
  refine pw_q rfl rfl rfl rfl (oq_loadAgg (us := [_, _]) rfl rfl Tryz.isAgg23 Tryz.sizeOf23 Z0 (by rfl) (by rfl) (by rfl)) ?_
  refine pw_q rfl rfl rfl rfl (oq_pv (pv_move rfl)) ?_
  refine pw_q rfl rfl rfl rfl (oq_pv (pv_move rfl)) ?_
  refine pw_e rfl rfl rfl rfl (ot_call rfl Tryz.call35 (vs := [_]) rfl (Sees.cons Z1 (Sees.refl)) (cloneBytes _ X bp l.length bc (byteC l) (hX) (plain_byteC _) (by omega) _)) ?_
  rintro _ _ ⟨p2, c3, rfl, rfl⟩
  refine ⟨[_], Sees.cons Z0 (Sees.cons Z1 (Sees.cons Z0 (Sees.refl))), ?_⟩
  refine pw_q rfl rfl rfl rfl (oq_pv (pv_build (ps := [(1, _), (2, _), (3, _), (5, _)]) (cs := [_, _, _, _, _, _, _, _, _, _, _, _, _]) rfl Tryz.zeroValue211 Tryz.runUnderlying211 (.cons Tryz.sizeOf133 (.cons Tryz.sizeOf23 (.cons Tryz.sizeOf21 (.cons Tryz.sizeOf29 (.cons Tryz.sizeOf28 (.cons Tryz.sizeOf54 (.nil))))))) rfl)) ?_
  refine pw_b rfl rfl rfl rfl (ot_box rfl rfl (rfl : _ = [_, _, _, _, _, _, _, _, _, _, _, _, _])) ?_
  rintro _ _ ⟨b4, rfl, rfl⟩
  refine pw_q rfl rfl rfl rfl (oq_pv (pv_assign rfl)) ?_
  refine pw_done ?_
  refine Kx4 1 2 3 7 rfl ?_
  refine ct_seq ?_
  refine ct_block ?_
  refine Cr ?_
  refine Rq rfl (oq_loadAgg (us := [_, _]) rfl rfl Tryz.isAgg23 Tryz.sizeOf23 Z2 (by rfl) (by rfl) (by rfl)) ?_
  refine Rq rfl (oq_call rfl Tryz.call100 (vs := [_]) rfl (ringCheck_pure _ _ hb hs)) ?_
  refine Rp rfl (pv_bin rfl rfl rfl) ?_
  refine Rp rfl (pv_move rfl) ?_
  refine rl_split_n (fun hz5 => ?_) (fun hz5 => ?_)
  · skip
    refine rl_u rfl rfl (by decide) ?_
    refine rl_u rfl rfl (by decide) ?_
    refine Rp rfl (pv_pick1 rfl rfl) ?_
    refine Rp rfl (pv_assign rfl) ?_
    refine Kn4 2 3 7 23 rfl ?_
    refine ct_true rfl ?_
    refine ct_region ?_
    refine Rp rfl (pv_move rfl) ?_
    refine Rp rfl (pv_nilCheck rfl) ?_
    refine Rp rfl (pv_fieldAddr (k := 12) rfl Tryz.runUnderlying211 rfl Tryz.sizeOf54 rfl rfl) ?_
    refine rl_op0 rfl rfl (ot_store rfl rfl rfl Tryz.sizeOf54 Z0 (rfl : _ = [_]) rfl (by rfl) (by rfl) (by first | rfl | assumption) (by exact (rfl : _ = [_, _, _, _, _, _, _, _, _, _, _, _, _]))) ?_
    rintro _ _ rfl
    refine rl_nil ?_
    refine xt_normal_block ?_
    refine Kx1 7 rfl ?_
    refine Cr ?_
    refine Rp rfl (pv_move rfl) ?_
    refine Rp rfl (pv_assign rfl) ?_
    refine Kn1 6 rfl ?_
    refine ct_ret ?_
    refine fin_ret (RVs.tmp rfl (RVs.nil)) Tryz.results71 ⟨_, rfl, ?_⟩ Sees.refl
    rw [show sndNew base size typ l = (⟨base, size, typ, l, 0, 1⟩, .fin) from by
      unfold sndNew; rw [if_neg hz5]]
    exact Sees.ex ({ fp1 := p2, fc1 := c3 } : SndX) (Sees.cons Z0 (Sees.cons Z0 (Sees.cons Z1 (Sees.skip (Sees.refl)))))
  · skip
    refine Ru rfl (pv_move rfl) ?_
    refine Ru rfl (pv_bin rfl rfl rfl) ?_
    refine Rp rfl (pv_pick0 rfl rfl) ?_
    refine Rp rfl (pv_assign rfl) ?_
    refine Kn4 2 3 7 23 rfl ?_
    refine ct_cond_d rfl (fun hz6 => ?_) (fun hz6 => ?_)
    · skip
      refine ct_region ?_
      refine Rp rfl (pv_move rfl) ?_
      refine Rp rfl (pv_nilCheck rfl) ?_
      refine Rp rfl (pv_fieldAddr (k := 12) rfl Tryz.runUnderlying211 rfl Tryz.sizeOf54 rfl rfl) ?_
      refine rl_op0 rfl rfl (ot_store rfl rfl rfl Tryz.sizeOf54 Z0 (rfl : _ = [_]) rfl (by rfl) (by rfl) (by first | rfl | assumption) (by exact (rfl : _ = [_, _, _, _, _, _, _, _, _, _, _, _, _]))) ?_
      rintro _ _ rfl
      refine rl_nil ?_
      refine xt_normal_block ?_
      refine Kx1 7 rfl ?_
      refine Cr ?_
      refine Rp rfl (pv_move rfl) ?_
      refine Rp rfl (pv_assign rfl) ?_
      refine Kn1 6 rfl ?_
      refine ct_ret ?_
      refine fin_ret (RVs.tmp rfl (RVs.nil)) Tryz.results71 ⟨_, rfl, ?_⟩ Sees.refl
      rw [show sndNew base size typ l = (⟨base, size, typ, l, 0, 1⟩, .fin) from by
        unfold sndNew; rw [if_pos hz5]; rw [if_pos hz6]]
      exact Sees.ex ({ fp1 := p2, fc1 := c3 } : SndX) (Sees.cons Z0 (Sees.cons Z0 (Sees.cons Z1 (Sees.skip (Sees.refl)))))
    · skip
      refine Cr ?_
      refine Rp rfl (pv_move rfl) ?_
      refine Rp rfl (pv_len_slice rfl rfl Tryz.runUnderlying29) ?_
      refine Rp rfl (pv_fieldAddr (k := 1) rfl Tryz.runUnderlying23 rfl Tryz.sizeOf3 rfl rfl) ?_
      refine Rq rfl (oq_load rfl rfl Tryz.isAgg3 Z2 (by rfl) (by rfl)) ?_
      refine Rp rfl (pv_quo rfl rfl (by decide)) ?_
      refine Rp rfl (pv_bin rfl rfl rfl) ?_
      refine Rp rfl (pv_assign rfl) ?_
      refine Kn2 7 34 rfl ?_
      refine ct_cond_d rfl (fun hz7 => ?_) (fun hz7 => ?_)
      · skip
        refine ct_region ?_
        refine Rp rfl (pv_move rfl) ?_
        refine Rp rfl (pv_nilCheck rfl) ?_
        refine Rp rfl (pv_fieldAddr (k := 12) rfl Tryz.runUnderlying211 rfl Tryz.sizeOf54 rfl rfl) ?_
        refine rl_op0 rfl rfl (ot_store rfl rfl rfl Tryz.sizeOf54 Z0 (rfl : _ = [_]) rfl (by rfl) (by rfl) (by first | rfl | assumption) (by exact (rfl : _ = [_, _, _, _, _, _, _, _, _, _, _, _, _]))) ?_
        rintro _ _ rfl
        refine rl_nil ?_
        refine xt_normal_block ?_
        refine Kx1 7 rfl ?_
        refine Cr ?_
        refine Rp rfl (pv_move rfl) ?_
        refine Rp rfl (pv_assign rfl) ?_
        refine Kn1 6 rfl ?_
        refine ct_ret ?_
        refine fin_ret (RVs.tmp rfl (RVs.nil)) Tryz.results71 ⟨_, rfl, ?_⟩ Sees.refl
        rw [show sndNew base size typ l = (⟨base, size, typ, l, 0, 4⟩, .fin) from by
          unfold sndNew; rw [if_pos hz5]; rw [if_neg hz6]; rw [if_pos hz7]]
        exact Sees.ex ({ fp1 := p2, fc1 := c3 } : SndX) (Sees.cons Z0 (Sees.cons Z0 (Sees.cons Z1 (Sees.skip (Sees.refl)))))
      · skip
        refine ct_planH [.q 0, .q 1, .q 2, .q 3, .q 6, .q 7, .e 4, .q 5, .b 8] mixed (by decide +kernel) ?_
        refine pw_q rfl rfl rfl rfl (oq_pv (pv_move rfl)) ?_
        refine pw_q rfl rfl rfl rfl (oq_pv (pv_nilCheck rfl)) ?_
        refine pw_q rfl rfl rfl rfl (oq_pv (pv_fieldAddr (k := 0) rfl Tryz.runUnderlying211 rfl Tryz.sizeOf133 rfl rfl)) ?_
        refine pw_q rfl rfl rfl rfl (oq_pv (pv_move rfl)) ?_
        refine pw_q rfl rfl rfl rfl (oq_pv (pv_move rfl)) ?_
        refine pw_q rfl rfl rfl rfl (oq_pv (pv_makeFunc (l := [_]) (c := []) rfl rfl)) ?_
        refine pwe_call rfl rfl rfl rfl Tryz.call111 (vs := [_]) rfl Tryz.func111 rfl Tryz.ntmps111 rfl rfl ?_
        refine Cr ?_
        refine Rp rfl (pv_assign rfl) ?_
        refine Kn1 0 rfl ?_
        refine ct_seq ?_
        refine ct_planH [.q 0, .q 1, .q 2, .q 3, .q 4, .q 5, .q 6, .q 7, .q 8, .q 9, .q 10, .q 11] mixed (by decide +kernel) ?_
        refine pw_q rfl rfl rfl rfl (oq_pv (pv_move rfl)) ?_
        refine pw_q rfl rfl rfl rfl (oq_pv (pv_nilCheck rfl)) ?_
        refine pw_q rfl rfl rfl rfl (oq_pv (pv_fieldAddr (k := 7) rfl Tryz.runUnderlying211 rfl Tryz.sizeOf23 rfl rfl)) ?_
        refine pw_q rfl rfl rfl rfl (oq_pv (pv_fieldAddr (k := 7) rfl Tryz.runUnderlying23 rfl Tryz.sizeOf3 rfl rfl)) ?_
        refine pw_q rfl rfl rfl rfl (oq_load rfl rfl Tryz.isAgg3 Z0 (by rfl) (by rfl)) ?_
        refine pw_q rfl rfl rfl rfl (oq_pv (pv_move rfl)) ?_
        refine pw_q rfl rfl rfl rfl (oq_pv (pv_nilCheck rfl)) ?_
        refine pw_q rfl rfl rfl rfl (oq_pv (pv_fieldAddr (k := 7) rfl Tryz.runUnderlying211 rfl Tryz.sizeOf23 rfl rfl)) ?_
        refine pw_q rfl rfl rfl rfl (oq_pv (pv_fieldAddr (k := 8) rfl Tryz.runUnderlying23 rfl Tryz.sizeOf3 rfl rfl)) ?_
        refine pw_q rfl rfl rfl rfl (oq_load rfl rfl Tryz.isAgg3 Z0 (by rfl) (by rfl)) ?_
        refine pw_q rfl rfl rfl rfl (oq_pv (pv_bin rfl rfl rfl)) ?_
        refine pw_q rfl rfl rfl rfl (oq_pv (pv_assign rfl)) ?_
        refine pw_done ?_
        refine Kx1 2 rfl ?_
        refine ct_ret ?_
        refine fin_ret1 (RVs.tmp rfl (RVs.nil)) Tryz.results111 ?_ Sees.refl
        refine ⟨[], Sees.cons Z0 (Sees.cons Z0 (Sees.cons Z0 (Sees.cons Z0 (Sees.refl)))), ?_⟩
        refine pw_q rfl rfl rfl rfl (oq_pv (pv_bin rfl rfl rfl)) ?_
        refine pwb_call rfl rfl rfl rfl Tryz.call101 (vs := [_, _, _, _]) rfl Tryz.func101 rfl Tryz.ntmps101 rfl rfl ?_
        refine Cr ?_
        refine Ro rfl (ot_box rfl rfl (rfl : _ = [_])) ?_
        rintro _ _ ⟨b8, rfl, rfl⟩
        refine Kn4 0 1 2 7 rfl ?_
        refine ct_region ?_
        refine Rp rfl (pv_move rfl) ?_
        refine Rp rfl (pv_move rfl) ?_
        refine Rp rfl (pv_move rfl) ?_
        refine Rp rfl (pv_build (ps := [(0, _), (1, _), (2, _)]) (cs := [_, _, _, _, _, _]) rfl Tryz.zeroValue36 Tryz.runUnderlying36 (.cons Tryz.sizeOf3 (.cons Tryz.sizeOf3 (.cons Tryz.sizeOf3 (.cons Tryz.sizeOf28 (.cons Tryz.sizeOf28 (.cons Tryz.sizeOf29 (.nil))))))) rfl) ?_
        refine Rp rfl (pv_makeFunc (l := []) (c := [_]) rfl rfl) ?_
        refine rl_call rfl rfl (by decide) Tryz.call86 (vs := [_, _, _]) rfl Tryz.func86 rfl Tryz.ntmps86 rfl rfl ?_
        refine Cr ?_
        refine Ro rfl (ot_box rfl rfl (rfl : _ = [_, _, _, _, _, _])) ?_
        rintro _ _ ⟨b9, rfl, rfl⟩
        refine Kn3 0 2 4 rfl ?_
        refine ct_region ?_
        refine Rp rfl (pv_move rfl) ?_
        refine Rp rfl (pv_move rfl) ?_
        refine Rq rfl (oq_loadAgg (us := [_, _, _, _, _, _]) rfl rfl Tryz.isAgg36 Tryz.sizeOf36 Z0 (by rfl) (by rfl) (by rfl)) ?_
        refine Rp rfl (pv_move rfl) ?_
        refine Rp rfl (pv_nilCheck rfl) ?_
        refine Rp rfl (pv_fieldAddr (k := 0) rfl Tryz.runUnderlying133 rfl Tryz.sizeOf36 rfl rfl) ?_
        refine rl_op0 rfl rfl (ot_store rfl rfl rfl Tryz.sizeOf36 Z2 (rfl : _ = [_, _, _, _, _, _]) rfl (by rfl) (by rfl) (by first | rfl | assumption) (by exact (rfl : _ = [_, _, _, _, _, _, _, _, _, _, _, _, _]))) ?_
        rintro _ _ rfl
        refine Rp rfl (pv_nilCheck rfl) ?_
        refine Rp rfl (pv_fieldAddr (k := 6) rfl Tryz.runUnderlying133 rfl Tryz.sizeOf49 rfl rfl) ?_
        refine rl_op0 rfl rfl (ot_store rfl rfl rfl Tryz.sizeOf49 Z0 (rfl : _ = [_]) rfl (by rfl) (by rfl) (by first | rfl | assumption) (by exact (rfl : _ = [_, _, _, _, _, _, _, _, _, _, _, _, _]))) ?_
        rintro _ _ rfl
        refine rl_nil ?_
        refine fin_end (RVs.nil) Tryz.results86 ?_ Sees.refl
        refine rl_nil ?_
        refine fin_end (RVs.nil) Tryz.results101 ?_ Sees.refl
        refine pw_done ?_
        refine xt_normal_block ?_
        refine Kx1 7 rfl ?_
        refine Cr ?_
        refine Rp rfl (pv_move rfl) ?_
        refine Rp rfl (pv_assign rfl) ?_
        refine Kn1 6 rfl ?_
        refine ct_ret ?_
        refine fin_ret (RVs.tmp rfl (RVs.nil)) Tryz.results71 ⟨_, rfl, ?_⟩ Sees.refl
        rw [show sndNew base size typ l = (⟨base, size, typ, l, 0, 10⟩, .ld_begin (IntKind.i64.wrap ((IntKind.i64.wrap (base + size)) + 8))) from by
          unfold sndNew; rw [if_pos hz5]; rw [if_neg hz6]; rw [if_neg hz7]]
        exact Sees.ex ({ fp1 := p2, fc1 := c3, a1 := b8 } : SndX) (Sees.cons Z0 (Sees.cons Z1 (Sees.cons Z1 (Sees.cons Z2 (Sees.skip (Sees.skip (Sees.refl)))))))
theorem sndTake_ld_begin (ω : World) (b : Nat) (s : SndS) (p0 : Int) (hok : SndOk s) (a : Ans) (ha : inK .u64 a.v) (X : HP) (ap : Option Addr) (ac : Nat) (F : List HP) : Spec ω Tryz.prog 195 #[.pointer (some ⟨b, 0, none⟩), .agg #[.int .u64 a.v, .bool (a.d), .slice ap a.data.length ac]] (sndRep b s (.ld_begin p0) :: X :: F) fun v' H' => v' = .tuple #[] ∧ Sees H' (sndRep b (sndStep s (.ld_begin p0) a).1 (sndStep s (.ld_begin p0) a).2 :: X :: F) := by
  refine Spec.ex fun x => ?_
  refine Spec.eqH (H1 := row b 0 [.int .i64 1, .int .i64 p0, .int .i64 8, .int .u64 0, .int .u64 0, .slice none 0 0, .func (.func 130) #[] #[.pointer (some ⟨x.a1, 0, none⟩)], .int .i64 s.rBase, .int .i64 s.rSize, .int .i32 s.typ, .slice x.fp1 s.b.length x.fc1, .int .u64 s.tail, .int .i64 s.e] :: row x.a1 0 [.func (.func 112) #[.pointer (some ⟨b, 0, none⟩)] #[]] :: own 1 x.fp1 s.b.length x.fc1 (byteC s.b) :: X :: F) rfl ?_
  refine Spec.own Z2 fun hfc1 => ?_
  refine spec_of_body Tryz.func195 rfl Tryz.ntmps195 rfl ?_
  refine Cr ?_
  refine Ro rfl (ot_box rfl rfl (rfl : _ = [_, _, _])) ?_
  rintro _ _ ⟨b1, rfl, rfl⟩
  refine Kn2 0 3 rfl ?_
  refine Cr ?_
  refine Rp rfl (pv_move rfl) ?_
  refine Rp rfl (pv_neq rfl rfl Tryz.runUnderlying120 rfl) ?_
  refine Kn3 0 3 5 rfl ?_
  refine ct_true rfl ?_
  refine ct_planH [.q 0, .q 1, .q 2, .q 3, .b 4] mixed (by decide +kernel) ?_
  refine pw_q rfl rfl rfl rfl (oq_pv (pv_move rfl)) ?_
  refine pw_q rfl rfl rfl rfl (oq_pv (pv_nilCheck rfl)) ?_
  refine pw_q rfl rfl rfl rfl (oq_pv (pv_fieldAddr (k := 0) rfl Tryz.runUnderlying211 rfl Tryz.sizeOf133 rfl rfl)) ?_
  refine pw_q rfl rfl rfl rfl (oq_loadAgg (us := [_, _, _]) rfl rfl Tryz.isAgg31 Tryz.sizeOf31 Z0 (by rfl) (by rfl) (by rfl)) ?_
  refine pwb_call rfl rfl rfl rfl Tryz.call68 (vs := [_, _]) rfl Tryz.func68 rfl Tryz.ntmps68 rfl rfl ?_
  refine Cr ?_
  refine Ro rfl (ot_box rfl rfl (rfl : _ = [_, _, _])) ?_
  rintro _ _ ⟨b2, rfl, rfl⟩
  refine Kn2 0 3 rfl ?_
  refine ct_seq ?_
  refine Cr ?_
  refine Rp rfl (pv_move rfl) ?_
  refine Rp rfl (pv_eql rfl rfl Tryz.runUnderlying189 rfl) ?_
  refine Rp rfl (pv_move rfl) ?_
  refine Ru rfl (pv_move rfl) ?_
  refine Ru rfl (pv_nilCheck rfl) ?_
  refine Ru rfl (pv_fieldAddr (k := 6) rfl Tryz.runUnderlying133 rfl Tryz.sizeOf49 rfl rfl) ?_
  refine Rv rfl (oq_load rfl rfl Tryz.isAgg49 Z2 (by rfl) (by rfl)) ?_
  refine Ru rfl (pv_eql rfl rfl Tryz.runUnderlying49 rfl) ?_
  refine Rp rfl (pv_pick0 rfl rfl) ?_
  refine Kn3 0 3 13 rfl ?_
  refine ct_false rfl ?_
  refine ct_skip ?_
  refine Kx2 0 3 rfl ?_
  refine Cr ?_
  refine Rp rfl (pv_move rfl) ?_
  refine Rp rfl (pv_nilCheck rfl) ?_
  refine Rp rfl (pv_fieldAddr (k := 6) rfl Tryz.runUnderlying133 rfl Tryz.sizeOf49 rfl rfl) ?_
  refine Rq rfl (oq_load rfl rfl Tryz.isAgg49 Z2 (by rfl) (by rfl)) ?_
  refine Rp rfl (pv_assign rfl) ?_
  refine Kn3 0 3 4 rfl ?_
  refine Cr ?_
  refine Rp rfl (pv_move rfl) ?_
  refine Rp rfl (pv_move rfl) ?_
  refine Rp rfl (pv_build (ps := []) (cs := [_, _, _, _, _, _]) rfl Tryz.zeroValue36 Tryz.runUnderlying36 (.cons Tryz.sizeOf3 (.cons Tryz.sizeOf3 (.cons Tryz.sizeOf3 (.cons Tryz.sizeOf28 (.cons Tryz.sizeOf28 (.cons Tryz.sizeOf29 (.nil))))))) rfl) ?_
  refine Rp rfl (pv_nilCheck rfl) ?_
  refine Rp rfl (pv_fieldAddr (k := 0) rfl Tryz.runUnderlying133 rfl Tryz.sizeOf36 rfl rfl) ?_
  refine rl_op0 rfl rfl (ot_store rfl rfl rfl Tryz.sizeOf36 Z2 (rfl : _ = [_, _, _, _, _, _]) rfl (by rfl) (by rfl) (by first | rfl | assumption) (by exact (rfl : _ = [_, _, _, _, _, _, _, _, _, _, _, _, _]))) ?_
  rintro _ _ rfl
  refine Rp rfl (pv_nilCheck rfl) ?_
  refine Rp rfl (pv_fieldAddr (k := 6) rfl Tryz.runUnderlying133 rfl Tryz.sizeOf49 rfl rfl) ?_
  refine rl_op0 rfl rfl (ot_store rfl rfl rfl Tryz.sizeOf49 Z0 (rfl : _ = [_]) rfl (by rfl) (by rfl) (by first | rfl | assumption) (by exact (rfl : _ = [_, _, _, _, _, _, _, _, _, _, _, _, _]))) ?_
  rintro _ _ rfl
  refine Kn2 3 4 rfl ?_
  refine ct_region ?_
  refine Rp rfl (pv_move rfl) ?_
  refine Rq rfl (oq_loadAgg (us := [_, _, _]) rfl rfl Tryz.isAgg31 Tryz.sizeOf31 Z1 (by rfl) (by rfl) (by rfl)) ?_
  refine rl_callv (l := []) (cp := [_]) rfl rfl (by decide) rfl Tryz.call130 (vs := [_]) rfl Tryz.func130 rfl Tryz.ntmps130 rfl rfl ?_
  refine Cr ?_
  refine Ro rfl (ot_box rfl rfl (rfl : _ = [_, _, _])) ?_
  rintro _ _ ⟨b3, rfl, rfl⟩
  refine Kn2 1 2 rfl ?_
  refine ct_region ?_
  refine Rq rfl (oq_load rfl rfl Tryz.isAgg146 Z4 (by rfl) (by rfl)) ?_
  refine Rp rfl (pv_fieldAddr (k := 0) rfl Tryz.runUnderlying31 rfl Tryz.sizeOf28 rfl rfl) ?_
  refine Rq rfl (oq_load rfl rfl Tryz.isAgg28 Z0 (by rfl) (by rfl)) ?_
  refine rl_callv (l := [_]) (cp := []) rfl rfl (by decide) rfl Tryz.call112 (vs := [_]) rfl Tryz.func112 rfl Tryz.ntmps112 rfl rfl ?_
  refine Cr ?_
  refine Ro rfl (ot_box rfl rfl (rfl : _ = [_])) ?_
  rintro _ _ ⟨b4, rfl, rfl⟩
  refine Kn2 1 2 rfl ?_
  refine Cr ?_
  refine Rq rfl (oq_load rfl rfl Tryz.isAgg120 Z0 (by rfl) (by rfl)) ?_
  refine Rp rfl (pv_nilCheck rfl) ?_
  refine Rp rfl (pv_fieldAddr (k := 10) rfl Tryz.runUnderlying211 rfl Tryz.sizeOf29 rfl rfl) ?_
  refine Rq rfl (oq_load rfl rfl Tryz.isAgg29 Z2 (by rfl) (by rfl)) ?_
  refine Rp rfl (pv_len_slice rfl rfl Tryz.runUnderlying29) ?_
  refine Rq rfl (oq_call rfl Tryz.call140 (vs := [_]) rfl (recSize_pure _ ⟨by omega, by have := hok.hl; omega⟩)) ?_
  refine Rp rfl (pv_move rfl) ?_
  refine Rp rfl (pv_extract rfl rfl) ?_
  refine Rp rfl (pv_extract rfl rfl) ?_
  refine Rp rfl (pv_assign rfl) ?_
  refine Rp rfl (pv_assign rfl) ?_
  refine Kn3 1 2 4 rfl ?_
  refine Cr ?_
  refine Rp rfl (pv_move rfl) ?_
  refine Rp rfl (pv_convert rfl Tryz.runUnderlying3 Tryz.runUnderlying28) ?_
  refine Ro rfl (ot_alloc rfl Tryz.zeroValue28 (rfl : _ = [_])) ?_
  rintro _ _ ⟨b5, rfl, rfl⟩
  refine rl_op0 rfl rfl (ot_store rfl rfl rfl Tryz.sizeOf28 Z0 (rfl : _ = [_]) rfl (by rfl) (by rfl) (by first | rfl | assumption) (by exact (rfl : _ = [_]))) ?_
  rintro _ _ rfl
  refine Kn3 1 2 6 rfl ?_
  refine Cr ?_
  refine Rp rfl (pv_move rfl) ?_
  refine Rp rfl (pv_convert rfl Tryz.runUnderlying28 Tryz.runUnderlying2) ?_
  refine Rq rfl (oq_load rfl rfl Tryz.isAgg120 Z1 (by rfl) (by rfl)) ?_
  refine Rp rfl (pv_nilCheck rfl) ?_
  refine Rp rfl (pv_fieldAddr (k := 7) rfl Tryz.runUnderlying211 rfl Tryz.sizeOf23 rfl rfl) ?_
  refine Rp rfl (pv_fieldAddr (k := 8) rfl Tryz.runUnderlying23 rfl Tryz.sizeOf3 rfl rfl) ?_
  refine Rq rfl (oq_load rfl rfl Tryz.isAgg3 Z3 (by rfl) (by rfl)) ?_
  refine Rq rfl (oq_call rfl Tryz.call141 (vs := [_, _]) rfl (mask_pure _ _ hok.hs)) ?_
  refine Rp rfl (pv_assign rfl) ?_
  refine Kn4 1 2 6 7 rfl ?_
  refine ct_seq ?_
  refine ct_planG [.q 0, .q 1, .q 2, .q 3, .q 4, .q 5, .q 6, .q 7, .q 8, .q 9, .q 10, .q 11, .q 12, .q 13, .q 14, .a 15, .a 16, .e 17, .b 18] (_ :: _ :: _ :: _ :: _ :: _ :: _ :: _ :: _ :: F) [] mixed (allocs_of [15, 16] (allocsL_cons rfl rfl rfl rfl rfl Tryz.zeroValue3 (allocsL_cons rfl rfl rfl rfl rfl Tryz.zeroValue28 (AllocsL.nil))) (by decide +kernel)) (by decide +kernel) (Sees.cons Z0 (Sees.cons Z0 (Sees.cons Z0 (Sees.cons Z0 (Sees.cons Z0 (Sees.cons Z0 (Sees.cons Z0 (Sees.cons Z0 (Sees.cons Z0 (Sees.refl)))))))))) ?_
  refine pg_q rfl rfl rfl rfl (oq_load rfl rfl Tryz.isAgg120 Z1 (by rfl) (by rfl)) ?_
  refine pg_q rfl rfl rfl rfl (oq_pv (pv_nilCheck rfl)) ?_
  refine pg_q rfl rfl rfl rfl (oq_pv (pv_fieldAddr (k := 7) rfl Tryz.runUnderlying211 rfl Tryz.sizeOf23 rfl rfl)) ?_
  refine pg_q rfl rfl rfl rfl (oq_pv (pv_fieldAddr (k := 7) rfl Tryz.runUnderlying23 rfl Tryz.sizeOf3 rfl rfl)) ?_
  refine pg_q rfl rfl rfl rfl (oq_load rfl rfl Tryz.isAgg3 Z3 (by rfl) (by rfl)) ?_
  refine pg_q rfl rfl rfl rfl (oq_pv (pv_move rfl)) ?_
  refine pg_q rfl rfl rfl rfl (oq_pv (pv_bin rfl rfl rfl)) ?_
  refine pg_q rfl rfl rfl rfl (oq_load rfl rfl Tryz.isAgg120 Z1 (by rfl) (by rfl)) ?_
  refine pg_q rfl rfl rfl rfl (oq_pv (pv_nilCheck rfl)) ?_
  refine pg_q rfl rfl rfl rfl (oq_pv (pv_fieldAddr (k := 7) rfl Tryz.runUnderlying211 rfl Tryz.sizeOf23 rfl rfl)) ?_
  refine pg_q rfl rfl rfl rfl (oq_pv (pv_fieldAddr (k := 8) rfl Tryz.runUnderlying23 rfl Tryz.sizeOf3 rfl rfl)) ?_
  refine pg_q rfl rfl rfl rfl (oq_load rfl rfl Tryz.isAgg3 Z3 (by rfl) (by rfl)) ?_
  refine pg_q rfl rfl rfl rfl (oq_pv (pv_move rfl)) ?_
  refine pg_q rfl rfl rfl rfl (oq_pv (pv_bin rfl rfl rfl)) ?_
  refine pg_q rfl rfl rfl rfl (oq_pv (pv_convert rfl Tryz.runUnderlying2 Tryz.runUnderlying28)) ?_
  refine pg_a rfl rfl rfl rfl rfl Tryz.zeroValue3 (rfl : _ = [_]) ?_
  intro b6
  refine pg_a rfl rfl rfl rfl rfl Tryz.zeroValue28 (rfl : _ = [_]) ?_
  intro b7
  refine pg_e0 rfl rfl rfl (fun G8 => ?_)
  refine OT.mono ω _ (ot_store rfl rfl rfl Tryz.sizeOf3 Z1 (rfl : _ = [_]) rfl (by rfl) (by rfl) (by first | rfl | assumption) (by exact (rfl : _ = [_]))) ?_
  rintro _ _ rfl
  refine ⟨[_, _], Sees.cons Z0 (Sees.cons Z0 (Sees.cons Z0 (Sees.cons Z0 (Sees.cons Z0 (Sees.cons Z0 (Sees.cons Z0 (Sees.cons Z0 (Sees.cons Z0 (Sees.cons Z0 (Sees.cons Z0 (Sees.refl))))))))))), ?_⟩
  refine pg_b0 rfl rfl rfl (fun G9 => ?_)
  refine OT.mono ω _ (ot_store rfl rfl rfl Tryz.sizeOf28 Z1 (rfl : _ = [_]) rfl (by rfl) (by rfl) (by first | rfl | assumption) (by exact (rfl : _ = [_]))) ?_
  rintro _ _ rfl
  refine ⟨_ :: _ :: _ :: _ :: _ :: _ :: _ :: _ :: _ :: _ :: _ :: F, Sees.refl, ?_⟩
  refine pg_nil ?_
  refine Kx5 1 2 6 8 9 rfl ?_
  refine Cr ?_
  refine Rq rfl (oq_load rfl rfl Tryz.isAgg120 Z3 (by rfl) (by rfl)) ?_
  refine Rp rfl (pv_move rfl) ?_
  refine Rp rfl (pv_nilCheck rfl) ?_
  refine Rp rfl (pv_fieldAddr (k := 11) rfl Tryz.runUnderlying211 rfl Tryz.sizeOf28 rfl rfl) ?_
  refine rl_op0 rfl rfl (ot_store rfl rfl rfl Tryz.sizeOf28 Z5 (rfl : _ = [_]) rfl (by rfl) (by rfl) (by first | rfl | assumption) (by exact (rfl : _ = [_, _, _, _, _, _, _, _, _, _, _, _, _]))) ?_
  rintro _ _ rfl
  refine Kn5 1 2 6 8 9 rfl ?_
  refine ct_seq ?_
  refine Cr ?_
  refine Rq rfl (oq_load rfl rfl Tryz.isAgg28 Z3 (by rfl) (by rfl)) ?_
  refine Rq rfl (oq_load rfl rfl Tryz.isAgg28 Z1 (by rfl) (by rfl)) ?_
  refine Rp rfl (pv_bin rfl rfl rfl) ?_
  refine Kn6 1 2 6 8 9 50 rfl ?_
  refine ct_cond_d rfl (fun hz10 => ?_) (fun hz10 => ?_)
  · skip
    refine ct_seq ?_
    refine ct_planH [.q 0, .q 1, .q 2, .q 3, .q 5, .q 6, .q 7, .q 8, .e 4, .b 9] mixed (by decide +kernel) ?_
    refine pw_q rfl rfl rfl rfl (oq_load rfl rfl Tryz.isAgg120 Z4 (by rfl) (by rfl)) ?_
    refine pw_q rfl rfl rfl rfl (oq_pv (pv_nilCheck rfl)) ?_
    refine pw_q rfl rfl rfl rfl (oq_pv (pv_fieldAddr (k := 0) rfl Tryz.runUnderlying211 rfl Tryz.sizeOf133 rfl rfl)) ?_
    refine pw_q rfl rfl rfl rfl (oq_load rfl rfl Tryz.isAgg120 Z4 (by rfl) (by rfl)) ?_
    refine pw_q rfl rfl rfl rfl (oq_pv (pv_move rfl)) ?_
    refine pw_q rfl rfl rfl rfl (oq_load rfl rfl Tryz.isAgg28 Z3 (by rfl) (by rfl)) ?_
    refine pw_q rfl rfl rfl rfl (oq_pv (pv_bin rfl rfl rfl)) ?_
    refine pw_q rfl rfl rfl rfl (oq_pv (pv_makeFunc (l := []) (c := [_, _, _]) rfl rfl)) ?_
    refine pwe_call rfl rfl rfl rfl Tryz.call111 (vs := [_]) rfl Tryz.func111 rfl Tryz.ntmps111 rfl rfl ?_
    refine Cr ?_
    refine Rp rfl (pv_assign rfl) ?_
    refine Kn1 0 rfl ?_
    refine ct_seq ?_
    refine ct_planH [.q 0, .q 1, .q 2, .q 3, .q 4, .q 5, .q 6, .q 7, .q 8, .q 9, .q 10, .q 11] mixed (by decide +kernel) ?_
    refine pw_q rfl rfl rfl rfl (oq_pv (pv_move rfl)) ?_
    refine pw_q rfl rfl rfl rfl (oq_pv (pv_nilCheck rfl)) ?_
    refine pw_q rfl rfl rfl rfl (oq_pv (pv_fieldAddr (k := 7) rfl Tryz.runUnderlying211 rfl Tryz.sizeOf23 rfl rfl)) ?_
    refine pw_q rfl rfl rfl rfl (oq_pv (pv_fieldAddr (k := 7) rfl Tryz.runUnderlying23 rfl Tryz.sizeOf3 rfl rfl)) ?_
    refine pw_q rfl rfl rfl rfl (oq_load rfl rfl Tryz.isAgg3 Z0 (by rfl) (by rfl)) ?_
    refine pw_q rfl rfl rfl rfl (oq_pv (pv_move rfl)) ?_
    refine pw_q rfl rfl rfl rfl (oq_pv (pv_nilCheck rfl)) ?_
    refine pw_q rfl rfl rfl rfl (oq_pv (pv_fieldAddr (k := 7) rfl Tryz.runUnderlying211 rfl Tryz.sizeOf23 rfl rfl)) ?_
    refine pw_q rfl rfl rfl rfl (oq_pv (pv_fieldAddr (k := 8) rfl Tryz.runUnderlying23 rfl Tryz.sizeOf3 rfl rfl)) ?_
    refine pw_q rfl rfl rfl rfl (oq_load rfl rfl Tryz.isAgg3 Z0 (by rfl) (by rfl)) ?_
    refine pw_q rfl rfl rfl rfl (oq_pv (pv_bin rfl rfl rfl)) ?_
    refine pw_q rfl rfl rfl rfl (oq_pv (pv_assign rfl)) ?_
    refine pw_done ?_
    refine Kx1 2 rfl ?_
    refine ct_ret ?_
    refine fin_ret1 (RVs.tmp rfl (RVs.nil)) Tryz.results111 ?_ Sees.refl
    refine ⟨[], Sees.cons Z0 (Sees.cons Z0 (Sees.cons Z0 (Sees.cons Z0 (Sees.cons Z0 (Sees.cons Z0 (Sees.cons Z0 (Sees.cons Z0 (Sees.cons Z0 (Sees.cons Z0 (Sees.cons Z0 (Sees.refl))))))))))), ?_⟩
    refine pwb_call rfl rfl rfl rfl Tryz.call127 (vs := [_, _, _, _, _]) rfl Tryz.func127 rfl Tryz.ntmps127 rfl rfl ?_
    refine Cr ?_
    refine Ro rfl (ot_box rfl rfl (rfl : _ = [_])) ?_
    rintro _ _ ⟨b11, rfl, rfl⟩
    refine Kn5 0 1 2 3 9 rfl ?_
    refine ct_region ?_
    refine Rp rfl (pv_move rfl) ?_
    refine Rp rfl (pv_move rfl) ?_
    refine Rp rfl (pv_move rfl) ?_
    refine Rp rfl (pv_move rfl) ?_
    refine Rp rfl (pv_build (ps := [(0, _), (1, _), (2, _), (3, _)]) (cs := [_, _, _, _, _, _]) rfl Tryz.zeroValue36 Tryz.runUnderlying36 (.cons Tryz.sizeOf3 (.cons Tryz.sizeOf3 (.cons Tryz.sizeOf3 (.cons Tryz.sizeOf28 (.cons Tryz.sizeOf28 (.cons Tryz.sizeOf29 (.nil))))))) rfl) ?_
    refine Rp rfl (pv_makeFunc (l := []) (c := [_]) rfl rfl) ?_
    refine rl_call rfl rfl (by decide) Tryz.call86 (vs := [_, _, _]) rfl Tryz.func86 rfl Tryz.ntmps86 rfl rfl ?_
    refine Cr ?_
    refine Ro rfl (ot_box rfl rfl (rfl : _ = [_, _, _, _, _, _])) ?_
    rintro _ _ ⟨b12, rfl, rfl⟩
    refine Kn3 0 2 4 rfl ?_
    refine ct_region ?_
    refine Rp rfl (pv_move rfl) ?_
    refine Rp rfl (pv_move rfl) ?_
    refine Rq rfl (oq_loadAgg (us := [_, _, _, _, _, _]) rfl rfl Tryz.isAgg36 Tryz.sizeOf36 Z0 (by rfl) (by rfl) (by rfl)) ?_
    refine Rp rfl (pv_move rfl) ?_
    refine Rp rfl (pv_nilCheck rfl) ?_
    refine Rp rfl (pv_fieldAddr (k := 0) rfl Tryz.runUnderlying133 rfl Tryz.sizeOf36 rfl rfl) ?_
    refine rl_op0 rfl rfl (ot_store rfl rfl rfl Tryz.sizeOf36 Z2 (rfl : _ = [_, _, _, _, _, _]) rfl (by rfl) (by rfl) (by first | rfl | assumption) (by exact (rfl : _ = [_, _, _, _, _, _, _, _, _, _, _, _, _]))) ?_
    rintro _ _ rfl
    refine Rp rfl (pv_nilCheck rfl) ?_
    refine Rp rfl (pv_fieldAddr (k := 6) rfl Tryz.runUnderlying133 rfl Tryz.sizeOf49 rfl rfl) ?_
    refine rl_op0 rfl rfl (ot_store rfl rfl rfl Tryz.sizeOf49 Z0 (rfl : _ = [_]) rfl (by rfl) (by rfl) (by first | rfl | assumption) (by exact (rfl : _ = [_, _, _, _, _, _, _, _, _, _, _, _, _]))) ?_
    rintro _ _ rfl
    refine rl_nil ?_
    refine fin_end (RVs.nil) Tryz.results86 ?_ Sees.refl
    refine rl_nil ?_
    refine fin_end (RVs.nil) Tryz.results127 ?_ Sees.refl
    refine pw_done ?_
    refine xt_then ?_
    refine CT.weaken (E' := []) (Knows.nil) Sees.refl ?_
    refine ct_ret ?_
    refine xt_ret_then ?_
    refine fin_ret (RVs.nil) Tryz.results112 ?_ Sees.refl
    refine rl_nil ?_
    refine fin_end (RVs.nil) Tryz.results130 ?_ Sees.refl
    refine rl_nil ?_
    refine fin_end (RVs.nil) Tryz.results68 ?_ Sees.refl
    refine pw_done ?_
    refine fin_end (RVs.nil) Tryz.results195 ⟨rfl, ?_⟩ Sees.refl
    rw [show sndStep s (.ld_begin p0) a = (⟨s.rBase, s.rSize, s.typ, s.b, a.v, s.e⟩, .st_begin_1 (IntKind.i64.wrap (s.rBase + (mask (IntKind.i64.wrap a.v) s.rSize))) (IntKind.u64.wrap ((align ((s.b.length : Int) + 8) 8).1)) (IntKind.i64.wrap (s.rBase + s.rSize)) (IntKind.u64.wrap (a.v + (IntKind.u64.wrap ((align ((s.b.length : Int) + 8) 8).1))))) from by
      show sndStep_ld_begin s p0 a = _; unfold sndStep_ld_begin; rw [if_pos hz10]]
    exact Sees.ex ({ fp1 := x.fp1, fc1 := x.fc1, a1 := b11, a2 := b4, a3 := b6, a4 := b5 } : SndX) (Sees.cons Z0 (Sees.cons Z1 (Sees.cons Z4 (Sees.cons Z2 (Sees.cons Z2 (Sees.cons Z6 (Sees.cons Z6 (Sees.skip (Sees.skip (Sees.skip (Sees.skip (Sees.skip (Sees.skip (Sees.refl))))))))))))))
  · skip
    refine ct_skip ?_
    refine Kx5 1 2 6 8 9 rfl ?_
    refine ct_planH [.q 0, .q 1, .q 2, .q 3, .q 5, .q 6, .q 7, .q 8, .q 9, .q 10, .e 4, .b 11] mixed (by decide +kernel) ?_
    refine pw_q rfl rfl rfl rfl (oq_load rfl rfl Tryz.isAgg120 Z4 (by rfl) (by rfl)) ?_
    refine pw_q rfl rfl rfl rfl (oq_pv (pv_nilCheck rfl)) ?_
    refine pw_q rfl rfl rfl rfl (oq_pv (pv_fieldAddr (k := 0) rfl Tryz.runUnderlying211 rfl Tryz.sizeOf133 rfl rfl)) ?_
    refine pw_q rfl rfl rfl rfl (oq_load rfl rfl Tryz.isAgg120 Z4 (by rfl) (by rfl)) ?_
    refine pw_q rfl rfl rfl rfl (oq_pv (pv_move rfl)) ?_
    refine pw_q rfl rfl rfl rfl (oq_load rfl rfl Tryz.isAgg28 Z1 (by rfl) (by rfl)) ?_
    refine pw_q rfl rfl rfl rfl (oq_pv (pv_bin rfl rfl rfl)) ?_
    refine pw_q rfl rfl rfl rfl (oq_load rfl rfl Tryz.isAgg28 Z3 (by rfl) (by rfl)) ?_
    refine pw_q rfl rfl rfl rfl (oq_pv (pv_bin rfl rfl rfl)) ?_
    refine pw_q rfl rfl rfl rfl (oq_pv (pv_makeFunc (l := []) (c := [_, _, _, _]) rfl rfl)) ?_
    refine pwe_call rfl rfl rfl rfl Tryz.call111 (vs := [_]) rfl Tryz.func111 rfl Tryz.ntmps111 rfl rfl ?_
    refine Cr ?_
    refine Rp rfl (pv_assign rfl) ?_
    refine Kn1 0 rfl ?_
    refine ct_seq ?_
    refine ct_planH [.q 0, .q 1, .q 2, .q 3, .q 4, .q 5, .q 6, .q 7, .q 8, .q 9, .q 10, .q 11] mixed (by decide +kernel) ?_
    refine pw_q rfl rfl rfl rfl (oq_pv (pv_move rfl)) ?_
    refine pw_q rfl rfl rfl rfl (oq_pv (pv_nilCheck rfl)) ?_
    refine pw_q rfl rfl rfl rfl (oq_pv (pv_fieldAddr (k := 7) rfl Tryz.runUnderlying211 rfl Tryz.sizeOf23 rfl rfl)) ?_
    refine pw_q rfl rfl rfl rfl (oq_pv (pv_fieldAddr (k := 7) rfl Tryz.runUnderlying23 rfl Tryz.sizeOf3 rfl rfl)) ?_
    refine pw_q rfl rfl rfl rfl (oq_load rfl rfl Tryz.isAgg3 Z0 (by rfl) (by rfl)) ?_
    refine pw_q rfl rfl rfl rfl (oq_pv (pv_move rfl)) ?_
    refine pw_q rfl rfl rfl rfl (oq_pv (pv_nilCheck rfl)) ?_
    refine pw_q rfl rfl rfl rfl (oq_pv (pv_fieldAddr (k := 7) rfl Tryz.runUnderlying211 rfl Tryz.sizeOf23 rfl rfl)) ?_
    refine pw_q rfl rfl rfl rfl (oq_pv (pv_fieldAddr (k := 8) rfl Tryz.runUnderlying23 rfl Tryz.sizeOf3 rfl rfl)) ?_
    refine pw_q rfl rfl rfl rfl (oq_load rfl rfl Tryz.isAgg3 Z0 (by rfl) (by rfl)) ?_
    refine pw_q rfl rfl rfl rfl (oq_pv (pv_bin rfl rfl rfl)) ?_
    refine pw_q rfl rfl rfl rfl (oq_pv (pv_assign rfl)) ?_
    refine pw_done ?_
    refine Kx1 2 rfl ?_
    refine ct_ret ?_
    refine fin_ret1 (RVs.tmp rfl (RVs.nil)) Tryz.results111 ?_ Sees.refl
    refine ⟨[], Sees.cons Z0 (Sees.cons Z0 (Sees.cons Z0 (Sees.cons Z0 (Sees.cons Z0 (Sees.cons Z0 (Sees.cons Z0 (Sees.cons Z0 (Sees.cons Z0 (Sees.cons Z0 (Sees.cons Z0 (Sees.refl))))))))))), ?_⟩
    refine pwb_call rfl rfl rfl rfl Tryz.call127 (vs := [_, _, _, _, _]) rfl Tryz.func127 rfl Tryz.ntmps127 rfl rfl ?_
    refine Cr ?_
    refine Ro rfl (ot_box rfl rfl (rfl : _ = [_])) ?_
    rintro _ _ ⟨b13, rfl, rfl⟩
    refine Kn5 0 1 2 3 9 rfl ?_
    refine ct_region ?_
    refine Rp rfl (pv_move rfl) ?_
    refine Rp rfl (pv_move rfl) ?_
    refine Rp rfl (pv_move rfl) ?_
    refine Rp rfl (pv_move rfl) ?_
    refine Rp rfl (pv_build (ps := [(0, _), (1, _), (2, _), (3, _)]) (cs := [_, _, _, _, _, _]) rfl Tryz.zeroValue36 Tryz.runUnderlying36 (.cons Tryz.sizeOf3 (.cons Tryz.sizeOf3 (.cons Tryz.sizeOf3 (.cons Tryz.sizeOf28 (.cons Tryz.sizeOf28 (.cons Tryz.sizeOf29 (.nil))))))) rfl) ?_
    refine Rp rfl (pv_makeFunc (l := []) (c := [_]) rfl rfl) ?_
    refine rl_call rfl rfl (by decide) Tryz.call86 (vs := [_, _, _]) rfl Tryz.func86 rfl Tryz.ntmps86 rfl rfl ?_
    refine Cr ?_
    refine Ro rfl (ot_box rfl rfl (rfl : _ = [_, _, _, _, _, _])) ?_
    rintro _ _ ⟨b14, rfl, rfl⟩
    refine Kn3 0 2 4 rfl ?_
    refine ct_region ?_
    refine Rp rfl (pv_move rfl) ?_
    refine Rp rfl (pv_move rfl) ?_
    refine Rq rfl (oq_loadAgg (us := [_, _, _, _, _, _]) rfl rfl Tryz.isAgg36 Tryz.sizeOf36 Z0 (by rfl) (by rfl) (by rfl)) ?_
    refine Rp rfl (pv_move rfl) ?_
    refine Rp rfl (pv_nilCheck rfl) ?_
    refine Rp rfl (pv_fieldAddr (k := 0) rfl Tryz.runUnderlying133 rfl Tryz.sizeOf36 rfl rfl) ?_
    refine rl_op0 rfl rfl (ot_store rfl rfl rfl Tryz.sizeOf36 Z2 (rfl : _ = [_, _, _, _, _, _]) rfl (by rfl) (by rfl) (by first | rfl | assumption) (by exact (rfl : _ = [_, _, _, _, _, _, _, _, _, _, _, _, _]))) ?_
    rintro _ _ rfl
    refine Rp rfl (pv_nilCheck rfl) ?_
    refine Rp rfl (pv_fieldAddr (k := 6) rfl Tryz.runUnderlying133 rfl Tryz.sizeOf49 rfl rfl) ?_
    refine rl_op0 rfl rfl (ot_store rfl rfl rfl Tryz.sizeOf49 Z0 (rfl : _ = [_]) rfl (by rfl) (by rfl) (by first | rfl | assumption) (by exact (rfl : _ = [_, _, _, _, _, _, _, _, _, _, _, _, _]))) ?_
    rintro _ _ rfl
    refine rl_nil ?_
    refine fin_end (RVs.nil) Tryz.results86 ?_ Sees.refl
    refine rl_nil ?_
    refine fin_end (RVs.nil) Tryz.results127 ?_ Sees.refl
    refine pw_done ?_
    refine fin_end (RVs.nil) Tryz.results112 ?_ Sees.refl
    refine rl_nil ?_
    refine fin_end (RVs.nil) Tryz.results130 ?_ Sees.refl
    refine rl_nil ?_
    refine fin_end (RVs.nil) Tryz.results68 ?_ Sees.refl
    refine pw_done ?_
    refine fin_end (RVs.nil) Tryz.results195 ⟨rfl, ?_⟩ Sees.refl
    rw [show sndStep s (.ld_begin p0) a = (⟨s.rBase, s.rSize, s.typ, s.b, a.v, s.e⟩, .st_begin_2 (IntKind.i64.wrap (s.rBase + (mask (IntKind.i64.wrap a.v) s.rSize))) (IntKind.u64.wrap (IntKind.i64.wrap (s.rSize - (mask (IntKind.i64.wrap a.v) s.rSize)))) (IntKind.u64.wrap ((align ((s.b.length : Int) + 8) 8).1)) (IntKind.i64.wrap (s.rBase + s.rSize)) (IntKind.u64.wrap ((IntKind.u64.wrap (a.v + (IntKind.u64.wrap (IntKind.i64.wrap (s.rSize - (mask (IntKind.i64.wrap a.v) s.rSize)))))) + (IntKind.u64.wrap ((align ((s.b.length : Int) + 8) 8).1))))) from by
      show sndStep_ld_begin s p0 a = _; unfold sndStep_ld_begin; rw [if_neg hz10]]
    exact Sees.ex ({ fp1 := x.fp1, fc1 := x.fc1, a1 := b13, a2 := b4, a3 := b6, a4 := b7, a5 := b5 } : SndX) (Sees.cons Z0 (Sees.cons Z1 (Sees.cons Z4 (Sees.cons Z2 (Sees.cons Z1 (Sees.cons Z1 (Sees.cons Z5 (Sees.cons Z5 (Sees.skip (Sees.skip (Sees.skip (Sees.skip (Sees.skip (Sees.refl))))))))))))))
theorem sndTake_st_begin_1 (ω : World) (b : Nat) (s : SndS) (p0 : Int) (p1 : Int) (p2 : Int) (p3 : Int) (hok : SndOk s) (a : Ans) (ha : inK .u64 a.v) (X : HP) (ap : Option Addr) (ac : Nat) (F : List HP) : Spec ω Tryz.prog 195 #[.pointer (some ⟨b, 0, none⟩), .agg #[.int .u64 a.v, .bool (a.d), .slice ap a.data.length ac]] (sndRep b s (.st_begin_1 p0 p1 p2 p3) :: X :: F) fun v' H' => v' = .tuple #[] ∧ Sees H' (sndRep b (sndStep s (.st_begin_1 p0 p1 p2 p3) a).1 (sndStep s (.st_begin_1 p0 p1 p2 p3) a).2 :: X :: F) := by
  refine Spec.ex fun x => ?_
  refine Spec.eqH (H1 := row b 0 [.int .i64 2, .int .i64 p2, .int .i64 8, .int .u64 p3, .int .u64 0, .slice none 0 0, .func (.func 159) #[] #[.pointer (some ⟨x.a1, 0, none⟩)], .int .i64 s.rBase, .int .i64 s.rSize, .int .i32 s.typ, .slice x.fp1 s.b.length x.fc1, .int .u64 s.tail, .int .i64 s.e] :: row x.a1 0 [.func (.func 142) #[] #[.pointer (some ⟨x.a2, 0, none⟩), .pointer (some ⟨x.a3, 0, none⟩), .pointer (some ⟨x.a4, 0, none⟩)]] :: row x.a2 0 [.pointer (some ⟨b, 0, none⟩)] :: row x.a3 0 [.int .i64 p0] :: row x.a4 0 [.int .u64 p1] :: own 1 x.fp1 s.b.length x.fc1 (byteC s.b) :: X :: F) rfl ?_
  refine Spec.own Z5 fun hfc1 => ?_
  refine spec_of_body Tryz.func195 rfl Tryz.ntmps195 rfl ?_
  refine Cr ?_
  refine Ro rfl (ot_box rfl rfl (rfl : _ = [_, _, _])) ?_
  rintro _ _ ⟨b1, rfl, rfl⟩
  refine Kn2 0 3 rfl ?_
  refine Cr ?_
  refine Rp rfl (pv_move rfl) ?_
  refine Rp rfl (pv_neq rfl rfl Tryz.runUnderlying120 rfl) ?_
  refine Kn3 0 3 5 rfl ?_
  refine ct_true rfl ?_
  refine ct_planH [.q 0, .q 1, .q 2, .q 3, .b 4] mixed (by decide +kernel) ?_
  refine pw_q rfl rfl rfl rfl (oq_pv (pv_move rfl)) ?_
  refine pw_q rfl rfl rfl rfl (oq_pv (pv_nilCheck rfl)) ?_
  refine pw_q rfl rfl rfl rfl (oq_pv (pv_fieldAddr (k := 0) rfl Tryz.runUnderlying211 rfl Tryz.sizeOf133 rfl rfl)) ?_
  refine pw_q rfl rfl rfl rfl (oq_loadAgg (us := [_, _, _]) rfl rfl Tryz.isAgg31 Tryz.sizeOf31 Z0 (by rfl) (by rfl) (by rfl)) ?_
  refine pwb_call rfl rfl rfl rfl Tryz.call68 (vs := [_, _]) rfl Tryz.func68 rfl Tryz.ntmps68 rfl rfl ?_
  refine Cr ?_
  refine Ro rfl (ot_box rfl rfl (rfl : _ = [_, _, _])) ?_
  rintro _ _ ⟨b2, rfl, rfl⟩
  refine Kn2 0 3 rfl ?_
  refine ct_seq ?_
  refine Cr ?_
  refine Rp rfl (pv_move rfl) ?_
  refine Rp rfl (pv_eql rfl rfl Tryz.runUnderlying189 rfl) ?_
  refine Rp rfl (pv_move rfl) ?_
  refine Ru rfl (pv_move rfl) ?_
  refine Ru rfl (pv_nilCheck rfl) ?_
  refine Ru rfl (pv_fieldAddr (k := 6) rfl Tryz.runUnderlying133 rfl Tryz.sizeOf49 rfl rfl) ?_
  refine Rv rfl (oq_load rfl rfl Tryz.isAgg49 Z2 (by rfl) (by rfl)) ?_
  refine Ru rfl (pv_eql rfl rfl Tryz.runUnderlying49 rfl) ?_
  refine Rp rfl (pv_pick0 rfl rfl) ?_
  refine Kn3 0 3 13 rfl ?_
  refine ct_false rfl ?_
  refine ct_skip ?_
  refine Kx2 0 3 rfl ?_
  refine Cr ?_
  refine Rp rfl (pv_move rfl) ?_
  refine Rp rfl (pv_nilCheck rfl) ?_
  refine Rp rfl (pv_fieldAddr (k := 6) rfl Tryz.runUnderlying133 rfl Tryz.sizeOf49 rfl rfl) ?_
  refine Rq rfl (oq_load rfl rfl Tryz.isAgg49 Z2 (by rfl) (by rfl)) ?_
  refine Rp rfl (pv_assign rfl) ?_
  refine Kn3 0 3 4 rfl ?_
  refine Cr ?_
  refine Rp rfl (pv_move rfl) ?_
  refine Rp rfl (pv_move rfl) ?_
  refine Rp rfl (pv_build (ps := []) (cs := [_, _, _, _, _, _]) rfl Tryz.zeroValue36 Tryz.runUnderlying36 (.cons Tryz.sizeOf3 (.cons Tryz.sizeOf3 (.cons Tryz.sizeOf3 (.cons Tryz.sizeOf28 (.cons Tryz.sizeOf28 (.cons Tryz.sizeOf29 (.nil))))))) rfl) ?_
  refine Rp rfl (pv_nilCheck rfl) ?_
  refine Rp rfl (pv_fieldAddr (k := 0) rfl Tryz.runUnderlying133 rfl Tryz.sizeOf36 rfl rfl) ?_
  refine rl_op0 rfl rfl (ot_store rfl rfl rfl Tryz.sizeOf36 Z2 (rfl : _ = [_, _, _, _, _, _]) rfl (by rfl) (by rfl) (by first | rfl | assumption) (by exact (rfl : _ = [_, _, _, _, _, _, _, _, _, _, _, _, _]))) ?_
  rintro _ _ rfl
  refine Rp rfl (pv_nilCheck rfl) ?_
  refine Rp rfl (pv_fieldAddr (k := 6) rfl Tryz.runUnderlying133 rfl Tryz.sizeOf49 rfl rfl) ?_
  refine rl_op0 rfl rfl (ot_store rfl rfl rfl Tryz.sizeOf49 Z0 (rfl : _ = [_]) rfl (by rfl) (by rfl) (by first | rfl | assumption) (by exact (rfl : _ = [_, _, _, _, _, _, _, _, _, _, _, _, _]))) ?_
  rintro _ _ rfl
  refine Kn2 3 4 rfl ?_
  refine ct_region ?_
  refine Rp rfl (pv_move rfl) ?_
  refine Rq rfl (oq_loadAgg (us := [_, _, _]) rfl rfl Tryz.isAgg31 Tryz.sizeOf31 Z1 (by rfl) (by rfl) (by rfl)) ?_
  refine rl_callv (l := []) (cp := [_]) rfl rfl (by decide) rfl Tryz.call159 (vs := [_]) rfl Tryz.func159 rfl Tryz.ntmps159 rfl rfl ?_
  refine Cr ?_
  refine Ro rfl (ot_box rfl rfl (rfl : _ = [_, _, _])) ?_
  rintro _ _ ⟨b3, rfl, rfl⟩
  refine Kn1 1 rfl ?_
  refine ct_region ?_
  refine Rq rfl (oq_load rfl rfl Tryz.isAgg1 Z4 (by rfl) (by rfl)) ?_
  refine rl_callv (l := []) (cp := [_, _, _]) rfl rfl (by decide) rfl Tryz.call142 (vs := []) rfl Tryz.func142 rfl Tryz.ntmps142 rfl rfl ?_
  refine ct_region ?_
  refine Rq rfl (oq_load rfl rfl Tryz.isAgg120 Z5 (by rfl) (by rfl)) ?_
  refine Rq rfl (oq_load rfl rfl Tryz.isAgg3 Z6 (by rfl) (by rfl)) ?_
  refine Rq rfl (oq_load rfl rfl Tryz.isAgg28 Z7 (by rfl) (by rfl)) ?_
  refine rl_call rfl rfl (by decide) Tryz.call143 (vs := [_, _, _]) rfl Tryz.func143 rfl Tryz.ntmps143 rfl rfl ?_
  refine Cr ?_
  refine Ro rfl (ot_box rfl rfl (rfl : _ = [_])) ?_
  rintro _ _ ⟨b4, rfl, rfl⟩
  refine Ro rfl (ot_box rfl rfl (rfl : _ = [_])) ?_
  rintro _ _ ⟨b5, rfl, rfl⟩
  refine Ro rfl (ot_box rfl rfl (rfl : _ = [_])) ?_
  rintro _ _ ⟨b6, rfl, rfl⟩
  refine Kn3 3 4 5 rfl ?_
  refine ct_planH [.q 0, .q 1, .q 2, .q 3, .q 4, .q 5, .q 6, .q 7, .q 8, .q 9, .q 10, .q 11, .q 12, .q 13, .q 14, .q 16, .e 15, .b 17] mixed (by decide +kernel) ?_
  refine pw_q rfl rfl rfl rfl (oq_load rfl rfl Tryz.isAgg120 Z2 (by rfl) (by rfl)) ?_
  refine pw_q rfl rfl rfl rfl (oq_pv (pv_nilCheck rfl)) ?_
  refine pw_q rfl rfl rfl rfl (oq_pv (pv_fieldAddr (k := 0) rfl Tryz.runUnderlying211 rfl Tryz.sizeOf133 rfl rfl)) ?_
  refine pw_q rfl rfl rfl rfl (oq_load rfl rfl Tryz.isAgg3 Z1 (by rfl) (by rfl)) ?_
  refine pw_q rfl rfl rfl rfl (oq_load rfl rfl Tryz.isAgg120 Z2 (by rfl) (by rfl)) ?_
  refine pw_q rfl rfl rfl rfl (oq_pv (pv_nilCheck rfl)) ?_
  refine pw_q rfl rfl rfl rfl (oq_pv (pv_fieldAddr (k := 10) rfl Tryz.runUnderlying211 rfl Tryz.sizeOf29 rfl rfl)) ?_
  refine pw_q rfl rfl rfl rfl (oq_load rfl rfl Tryz.isAgg29 Z4 (by rfl) (by rfl)) ?_
  refine pw_q rfl rfl rfl rfl (oq_pv (pv_len_slice rfl rfl Tryz.runUnderlying29)) ?_
  refine pw_q rfl rfl rfl rfl (oq_pv (pv_bin rfl rfl rfl)) ?_
  refine pw_q rfl rfl rfl rfl (oq_pv (pv_convert rfl Tryz.runUnderlying3 Tryz.runUnderlying21)) ?_
  refine pw_q rfl rfl rfl rfl (oq_load rfl rfl Tryz.isAgg120 Z2 (by rfl) (by rfl)) ?_
  refine pw_q rfl rfl rfl rfl (oq_pv (pv_nilCheck rfl)) ?_
  refine pw_q rfl rfl rfl rfl (oq_pv (pv_fieldAddr (k := 9) rfl Tryz.runUnderlying211 rfl Tryz.sizeOf21 rfl rfl)) ?_
  refine pw_q rfl rfl rfl rfl (oq_load rfl rfl Tryz.isAgg21 Z4 (by rfl) (by rfl)) ?_
  refine pw_q rfl rfl rfl rfl (oq_pv (pv_makeFunc (l := []) (c := [_, _, _]) rfl rfl)) ?_
  refine pwe_call rfl rfl rfl rfl Tryz.call145 (vs := [_, _]) rfl Tryz.func145 rfl Tryz.ntmps145 rfl rfl ?_
  refine Cr ?_
  refine Rp rfl (pv_assign rfl) ?_
  refine Kn2 0 1 rfl ?_
  refine Cr ?_
  refine Rp rfl (pv_move rfl) ?_
  refine Rp rfl (pv_convert rfl Tryz.runUnderlying21 Tryz.runUnderlying86) ?_
  refine Rp rfl (pv_convert rfl Tryz.runUnderlying86 Tryz.runUnderlying28) ?_
  refine Rp rfl (pv_shl_lit (n := 4294967296) rfl rfl (by decide) rfl) ?_
  refine Rp rfl (pv_move rfl) ?_
  refine Rp rfl (pv_convert rfl Tryz.runUnderlying21 Tryz.runUnderlying86) ?_
  refine Rp rfl (pv_convert rfl Tryz.runUnderlying86 Tryz.runUnderlying28) ?_
  refine Rp rfl (pv_bin rfl rfl rfl) ?_
  refine Rp rfl (pv_assign rfl) ?_
  refine Kn1 4 rfl ?_
  refine ct_ret ?_
  refine fin_ret1 (RVs.tmp rfl (RVs.nil)) Tryz.results145 ?_ Sees.refl
  refine ⟨[], Sees.cons Z0 (Sees.cons Z0 (Sees.cons Z0 (Sees.cons Z0 (Sees.cons Z0 (Sees.cons Z0 (Sees.cons Z0 (Sees.cons Z0 (Sees.cons Z0 (Sees.cons Z0 (Sees.cons Z0 (Sees.cons Z0 (Sees.cons Z0 (Sees.refl))))))))))))), ?_⟩
  refine pwb_call rfl rfl rfl rfl Tryz.call127 (vs := [_, _, _, _, _]) rfl Tryz.func127 rfl Tryz.ntmps127 rfl rfl ?_
  refine Cr ?_
  refine Ro rfl (ot_box rfl rfl (rfl : _ = [_])) ?_
  rintro _ _ ⟨b7, rfl, rfl⟩
  refine Kn5 0 1 2 3 9 rfl ?_
  refine ct_region ?_
  refine Rp rfl (pv_move rfl) ?_
  refine Rp rfl (pv_move rfl) ?_
  refine Rp rfl (pv_move rfl) ?_
  refine Rp rfl (pv_move rfl) ?_
  refine Rp rfl (pv_build (ps := [(0, _), (1, _), (2, _), (3, _)]) (cs := [_, _, _, _, _, _]) rfl Tryz.zeroValue36 Tryz.runUnderlying36 (.cons Tryz.sizeOf3 (.cons Tryz.sizeOf3 (.cons Tryz.sizeOf3 (.cons Tryz.sizeOf28 (.cons Tryz.sizeOf28 (.cons Tryz.sizeOf29 (.nil))))))) rfl) ?_
  refine Rp rfl (pv_makeFunc (l := []) (c := [_]) rfl rfl) ?_
  refine rl_call rfl rfl (by decide) Tryz.call86 (vs := [_, _, _]) rfl Tryz.func86 rfl Tryz.ntmps86 rfl rfl ?_
  refine Cr ?_
  refine Ro rfl (ot_box rfl rfl (rfl : _ = [_, _, _, _, _, _])) ?_
  rintro _ _ ⟨b8, rfl, rfl⟩
  refine Kn3 0 2 4 rfl ?_
  refine ct_region ?_
  refine Rp rfl (pv_move rfl) ?_
  refine Rp rfl (pv_move rfl) ?_
  refine Rq rfl (oq_loadAgg (us := [_, _, _, _, _, _]) rfl rfl Tryz.isAgg36 Tryz.sizeOf36 Z0 (by rfl) (by rfl) (by rfl)) ?_
  refine Rp rfl (pv_move rfl) ?_
  refine Rp rfl (pv_nilCheck rfl) ?_
  refine Rp rfl (pv_fieldAddr (k := 0) rfl Tryz.runUnderlying133 rfl Tryz.sizeOf36 rfl rfl) ?_
  refine rl_op0 rfl rfl (ot_store rfl rfl rfl Tryz.sizeOf36 Z6 (rfl : _ = [_, _, _, _, _, _]) rfl (by rfl) (by rfl) (by first | rfl | assumption) (by exact (rfl : _ = [_, _, _, _, _, _, _, _, _, _, _, _, _]))) ?_
  rintro _ _ rfl
  refine Rp rfl (pv_nilCheck rfl) ?_
  refine Rp rfl (pv_fieldAddr (k := 6) rfl Tryz.runUnderlying133 rfl Tryz.sizeOf49 rfl rfl) ?_
  refine rl_op0 rfl rfl (ot_store rfl rfl rfl Tryz.sizeOf49 Z0 (rfl : _ = [_]) rfl (by rfl) (by rfl) (by first | rfl | assumption) (by exact (rfl : _ = [_, _, _, _, _, _, _, _, _, _, _, _, _]))) ?_
  rintro _ _ rfl
  refine rl_nil ?_
  refine fin_end (RVs.nil) Tryz.results86 ?_ Sees.refl
  refine rl_nil ?_
  refine fin_end (RVs.nil) Tryz.results127 ?_ Sees.refl
  refine pw_done ?_
  refine fin_end (RVs.nil) Tryz.results143 ?_ Sees.refl
  refine rl_nil ?_
  refine fin_end (RVs.nil) Tryz.results142 ?_ Sees.refl
  refine rl_nil ?_
  refine fin_end (RVs.nil) Tryz.results159 ?_ Sees.refl
  refine rl_nil ?_
  refine fin_end (RVs.nil) Tryz.results68 ?_ Sees.refl
  refine pw_done ?_
  refine fin_end (RVs.nil) Tryz.results195 ⟨rfl, ?_⟩ Sees.refl
  rw [show sndStep s (.st_begin_1 p0 p1 p2 p3) a = (⟨s.rBase, s.rSize, s.typ, s.b, s.tail, s.e⟩, .st_write_1 p0 p1 p0 (ior .u64 (IntKind.u64.wrap ((IntKind.u64.wrap (IntKind.u32.wrap s.typ)) * 4294967296)) (IntKind.u64.wrap (IntKind.u32.wrap (IntKind.i32.wrap (IntKind.i64.wrap (8 + (s.b.length : Int)))))))) from by
    show sndStep_st_begin_1 s p0 p1 p2 p3 a = _; unfold sndStep_st_begin_1; rfl]
  exact Sees.ex ({ fp1 := x.fp1, fc1 := x.fc1, a1 := b7, a2 := b4, a3 := b5, a4 := b6 } : SndX) (Sees.cons Z0 (Sees.cons Z1 (Sees.cons Z3 (Sees.cons Z2 (Sees.cons Z1 (Sees.cons Z8 (Sees.cons Z8 (Sees.skip (Sees.skip (Sees.skip (Sees.skip (Sees.skip (Sees.skip (Sees.skip (Sees.skip (Sees.refl))))))))))))))))
theorem sndTake_st_begin_2 (ω : World) (b : Nat) (s : SndS) (p0 : Int) (p1 : Int) (p2 : Int) (p3 : Int) (p4 : Int) (hok : SndOk s) (a : Ans) (ha : inK .u64 a.v) (X : HP) (ap : Option Addr) (ac : Nat) (F : List HP) : Spec ω Tryz.prog 195 #[.pointer (some ⟨b, 0, none⟩), .agg #[.int .u64 a.v, .bool (a.d), .slice ap a.data.length ac]] (sndRep b s (.st_begin_2 p0 p1 p2 p3 p4) :: X :: F) fun v' H' => v' = .tuple #[] ∧ Sees H' (sndRep b (sndStep s (.st_begin_2 p0 p1 p2 p3 p4) a).1 (sndStep s (.st_begin_2 p0 p1 p2 p3 p4) a).2 :: X :: F) := by
  refine Spec.ex fun x => ?_
  refine Spec.eqH (H1 := row b 0 [.int .i64 2, .int .i64 p3, .int .i64 8, .int .u64 p4, .int .u64 0, .slice none 0 0, .func (.func 159) #[] #[.pointer (some ⟨x.a1, 0, none⟩)], .int .i64 s.rBase, .int .i64 s.rSize, .int .i32 s.typ, .slice x.fp1 s.b.length x.fc1, .int .u64 s.tail, .int .i64 s.e] :: row x.a1 0 [.func (.func 144) #[] #[.pointer (some ⟨x.a2, 0, none⟩), .pointer (some ⟨x.a3, 0, none⟩), .pointer (some ⟨x.a4, 0, none⟩), .pointer (some ⟨x.a5, 0, none⟩)]] :: row x.a2 0 [.pointer (some ⟨b, 0, none⟩)] :: row x.a3 0 [.int .i64 p0] :: row x.a4 0 [.int .u64 p1] :: row x.a5 0 [.int .u64 p2] :: own 1 x.fp1 s.b.length x.fc1 (byteC s.b) :: X :: F) rfl ?_
  refine Spec.own Z6 fun hfc1 => ?_
  refine spec_of_body Tryz.func195 rfl Tryz.ntmps195 rfl ?_
  refine Cr ?_
  refine Ro rfl (ot_box rfl rfl (rfl : _ = [_, _, _])) ?_
  rintro _ _ ⟨b1, rfl, rfl⟩
  refine Kn2 0 3 rfl ?_
  refine Cr ?_
  refine Rp rfl (pv_move rfl) ?_
  refine Rp rfl (pv_neq rfl rfl Tryz.runUnderlying120 rfl) ?_
  refine Kn3 0 3 5 rfl ?_
  refine ct_true rfl ?_
  refine ct_planH [.q 0, .q 1, .q 2, .q 3, .b 4] mixed (by decide +kernel) ?_
  refine pw_q rfl rfl rfl rfl (oq_pv (pv_move rfl)) ?_
  refine pw_q rfl rfl rfl rfl (oq_pv (pv_nilCheck rfl)) ?_
  refine pw_q rfl rfl rfl rfl (oq_pv (pv_fieldAddr (k := 0) rfl Tryz.runUnderlying211 rfl Tryz.sizeOf133 rfl rfl)) ?_
  refine pw_q rfl rfl rfl rfl (oq_loadAgg (us := [_, _, _]) rfl rfl Tryz.isAgg31 Tryz.sizeOf31 Z0 (by rfl) (by rfl) (by rfl)) ?_
  refine pwb_call rfl rfl rfl rfl Tryz.call68 (vs := [_, _]) rfl Tryz.func68 rfl Tryz.ntmps68 rfl rfl ?_
  refine Cr ?_
  refine Ro rfl (ot_box rfl rfl (rfl : _ = [_, _, _])) ?_
  rintro _ _ ⟨b2, rfl, rfl⟩
  refine Kn2 0 3 rfl ?_
  refine ct_seq ?_
  refine Cr ?_
  refine Rp rfl (pv_move rfl) ?_
  refine Rp rfl (pv_eql rfl rfl Tryz.runUnderlying189 rfl) ?_
  refine Rp rfl (pv_move rfl) ?_
  refine Ru rfl (pv_move rfl) ?_
  refine Ru rfl (pv_nilCheck rfl) ?_
  refine Ru rfl (pv_fieldAddr (k := 6) rfl Tryz.runUnderlying133 rfl Tryz.sizeOf49 rfl rfl) ?_
  refine Rv rfl (oq_load rfl rfl Tryz.isAgg49 Z2 (by rfl) (by rfl)) ?_
  refine Ru rfl (pv_eql rfl rfl Tryz.runUnderlying49 rfl) ?_
  refine Rp rfl (pv_pick0 rfl rfl) ?_
  refine Kn3 0 3 13 rfl ?_
  refine ct_false rfl ?_
  refine ct_skip ?_
  refine Kx2 0 3 rfl ?_
  refine Cr ?_
  refine Rp rfl (pv_move rfl) ?_
  refine Rp rfl (pv_nilCheck rfl) ?_
  refine Rp rfl (pv_fieldAddr (k := 6) rfl Tryz.runUnderlying133 rfl Tryz.sizeOf49 rfl rfl) ?_
  refine Rq rfl (oq_load rfl rfl Tryz.isAgg49 Z2 (by rfl) (by rfl)) ?_
  refine Rp rfl (pv_assign rfl) ?_
  refine Kn3 0 3 4 rfl ?_
  refine Cr ?_
  refine Rp rfl (pv_move rfl) ?_
  refine Rp rfl (pv_move rfl) ?_
  refine Rp rfl (pv_build (ps := []) (cs := [_, _, _, _, _, _]) rfl Tryz.zeroValue36 Tryz.runUnderlying36 (.cons Tryz.sizeOf3 (.cons Tryz.sizeOf3 (.cons Tryz.sizeOf3 (.cons Tryz.sizeOf28 (.cons Tryz.sizeOf28 (.cons Tryz.sizeOf29 (.nil))))))) rfl) ?_
  refine Rp rfl (pv_nilCheck rfl) ?_
  refine Rp rfl (pv_fieldAddr (k := 0) rfl Tryz.runUnderlying133 rfl Tryz.sizeOf36 rfl rfl) ?_
  refine rl_op0 rfl rfl (ot_store rfl rfl rfl Tryz.sizeOf36 Z2 (rfl : _ = [_, _, _, _, _, _]) rfl (by rfl) (by rfl) (by first | rfl | assumption) (by exact (rfl : _ = [_, _, _, _, _, _, _, _, _, _, _, _, _]))) ?_
  rintro _ _ rfl
  refine Rp rfl (pv_nilCheck rfl) ?_
  refine Rp rfl (pv_fieldAddr (k := 6) rfl Tryz.runUnderlying133 rfl Tryz.sizeOf49 rfl rfl) ?_
  refine rl_op0 rfl rfl (ot_store rfl rfl rfl Tryz.sizeOf49 Z0 (rfl : _ = [_]) rfl (by rfl) (by rfl) (by first | rfl | assumption) (by exact (rfl : _ = [_, _, _, _, _, _, _, _, _, _, _, _, _]))) ?_
  rintro _ _ rfl
  refine Kn2 3 4 rfl ?_
  refine ct_region ?_
  refine Rp rfl (pv_move rfl) ?_
  refine Rq rfl (oq_loadAgg (us := [_, _, _]) rfl rfl Tryz.isAgg31 Tryz.sizeOf31 Z1 (by rfl) (by rfl) (by rfl)) ?_
  refine rl_callv (l := []) (cp := [_]) rfl rfl (by decide) rfl Tryz.call159 (vs := [_]) rfl Tryz.func159 rfl Tryz.ntmps159 rfl rfl ?_
  refine Cr ?_
  refine Ro rfl (ot_box rfl rfl (rfl : _ = [_, _, _])) ?_
  rintro _ _ ⟨b3, rfl, rfl⟩
  refine Kn1 1 rfl ?_
  refine ct_region ?_
  refine Rq rfl (oq_load rfl rfl Tryz.isAgg1 Z4 (by rfl) (by rfl)) ?_
  refine rl_callv (l := []) (cp := [_, _, _, _]) rfl rfl (by decide) rfl Tryz.call144 (vs := []) rfl Tryz.func144 rfl Tryz.ntmps144 rfl rfl ?_
  refine ct_planH [.q 0, .q 1, .q 2, .q 3, .q 4, .q 5, .q 7, .e 6, .b 8] mixed (by decide +kernel) ?_
  refine pw_q rfl rfl rfl rfl (oq_load rfl rfl Tryz.isAgg120 Z5 (by rfl) (by rfl)) ?_
  refine pw_q rfl rfl rfl rfl (oq_pv (pv_nilCheck rfl)) ?_
  refine pw_q rfl rfl rfl rfl (oq_pv (pv_fieldAddr (k := 0) rfl Tryz.runUnderlying211 rfl Tryz.sizeOf133 rfl rfl)) ?_
  refine pw_q rfl rfl rfl rfl (oq_load rfl rfl Tryz.isAgg3 Z6 (by rfl) (by rfl)) ?_
  refine pw_q rfl rfl rfl rfl (oq_load rfl rfl Tryz.isAgg28 Z7 (by rfl) (by rfl)) ?_
  refine pw_q rfl rfl rfl rfl (oq_pv (pv_convert rfl Tryz.runUnderlying28 Tryz.runUnderlying21)) ?_
  refine pw_q rfl rfl rfl rfl (oq_pv (pv_makeFunc (l := []) (c := [_, _, _]) rfl rfl)) ?_
  refine pwe_call rfl rfl rfl rfl Tryz.call145 (vs := [_, _]) rfl Tryz.func145 rfl Tryz.ntmps145 rfl rfl ?_
  refine Cr ?_
  refine Rp rfl (pv_assign rfl) ?_
  refine Kn2 0 1 rfl ?_
  refine Cr ?_
  refine Rp rfl (pv_move rfl) ?_
  refine Rp rfl (pv_convert_to (v := 4294967295) rfl Tryz.runUnderlying21 Tryz.runUnderlying86 (by rfl)) ?_
  refine Rp rfl (pv_convert_to (v := 4294967295) rfl Tryz.runUnderlying86 Tryz.runUnderlying28 (by rfl)) ?_
  refine Rp rfl (pv_shl_to (v := 18446744069414584320) rfl rfl (by decide) (by rfl)) ?_
  refine Rp rfl (pv_move rfl) ?_
  refine Rp rfl (pv_convert rfl Tryz.runUnderlying21 Tryz.runUnderlying86) ?_
  refine Rp rfl (pv_convert rfl Tryz.runUnderlying86 Tryz.runUnderlying28) ?_
  refine Rp rfl (pv_bin rfl rfl rfl) ?_
  refine Rp rfl (pv_assign rfl) ?_
  refine Kn1 4 rfl ?_
  refine ct_ret ?_
  refine fin_ret1 (RVs.tmp rfl (RVs.nil)) Tryz.results145 ?_ Sees.refl
  refine ⟨[], Sees.cons Z0 (Sees.cons Z0 (Sees.cons Z0 (Sees.cons Z0 (Sees.cons Z0 (Sees.cons Z0 (Sees.cons Z0 (Sees.cons Z0 (Sees.cons Z0 (Sees.cons Z0 (Sees.cons Z0 (Sees.refl))))))))))), ?_⟩
  refine pwb_call rfl rfl rfl rfl Tryz.call127 (vs := [_, _, _, _, _]) rfl Tryz.func127 rfl Tryz.ntmps127 rfl rfl ?_
  refine Cr ?_
  refine Ro rfl (ot_box rfl rfl (rfl : _ = [_])) ?_
  rintro _ _ ⟨b4, rfl, rfl⟩
  refine Kn5 0 1 2 3 9 rfl ?_
  refine ct_region ?_
  refine Rp rfl (pv_move rfl) ?_
  refine Rp rfl (pv_move rfl) ?_
  refine Rp rfl (pv_move rfl) ?_
  refine Rp rfl (pv_move rfl) ?_
  refine Rp rfl (pv_build (ps := [(0, _), (1, _), (2, _), (3, _)]) (cs := [_, _, _, _, _, _]) rfl Tryz.zeroValue36 Tryz.runUnderlying36 (.cons Tryz.sizeOf3 (.cons Tryz.sizeOf3 (.cons Tryz.sizeOf3 (.cons Tryz.sizeOf28 (.cons Tryz.sizeOf28 (.cons Tryz.sizeOf29 (.nil))))))) rfl) ?_
  refine Rp rfl (pv_makeFunc (l := []) (c := [_]) rfl rfl) ?_
  refine rl_call rfl rfl (by decide) Tryz.call86 (vs := [_, _, _]) rfl Tryz.func86 rfl Tryz.ntmps86 rfl rfl ?_
  refine Cr ?_
  refine Ro rfl (ot_box rfl rfl (rfl : _ = [_, _, _, _, _, _])) ?_
  rintro _ _ ⟨b5, rfl, rfl⟩
  refine Kn3 0 2 4 rfl ?_
  refine ct_region ?_
  refine Rp rfl (pv_move rfl) ?_
  refine Rp rfl (pv_move rfl) ?_
  refine Rq rfl (oq_loadAgg (us := [_, _, _, _, _, _]) rfl rfl Tryz.isAgg36 Tryz.sizeOf36 Z0 (by rfl) (by rfl) (by rfl)) ?_
  refine Rp rfl (pv_move rfl) ?_
  refine Rp rfl (pv_nilCheck rfl) ?_
  refine Rp rfl (pv_fieldAddr (k := 0) rfl Tryz.runUnderlying133 rfl Tryz.sizeOf36 rfl rfl) ?_
  refine rl_op0 rfl rfl (ot_store rfl rfl rfl Tryz.sizeOf36 Z3 (rfl : _ = [_, _, _, _, _, _]) rfl (by rfl) (by rfl) (by first | rfl | assumption) (by exact (rfl : _ = [_, _, _, _, _, _, _, _, _, _, _, _, _]))) ?_
  rintro _ _ rfl
  refine Rp rfl (pv_nilCheck rfl) ?_
  refine Rp rfl (pv_fieldAddr (k := 6) rfl Tryz.runUnderlying133 rfl Tryz.sizeOf49 rfl rfl) ?_
  refine rl_op0 rfl rfl (ot_store rfl rfl rfl Tryz.sizeOf49 Z0 (rfl : _ = [_]) rfl (by rfl) (by rfl) (by first | rfl | assumption) (by exact (rfl : _ = [_, _, _, _, _, _, _, _, _, _, _, _, _]))) ?_
  rintro _ _ rfl
  refine rl_nil ?_
  refine fin_end (RVs.nil) Tryz.results86 ?_ Sees.refl
  refine rl_nil ?_
  refine fin_end (RVs.nil) Tryz.results127 ?_ Sees.refl
  refine pw_done ?_
  refine fin_end (RVs.nil) Tryz.results144 ?_ Sees.refl
  refine rl_nil ?_
  refine fin_end (RVs.nil) Tryz.results159 ?_ Sees.refl
  refine rl_nil ?_
  refine fin_end (RVs.nil) Tryz.results68 ?_ Sees.refl
  refine pw_done ?_
  refine fin_end (RVs.nil) Tryz.results195 ⟨rfl, ?_⟩ Sees.refl
  rw [show sndStep s (.st_begin_2 p0 p1 p2 p3 p4) a = (⟨s.rBase, s.rSize, s.typ, s.b, s.tail, s.e⟩, .st_begin_2_1 p1 p2 p0 (ior .u64 18446744069414584320 (IntKind.u64.wrap (IntKind.u32.wrap (IntKind.i32.wrap p1))))) from by
    show sndStep_st_begin_2 s p0 p1 p2 p3 p4 a = _; unfold sndStep_st_begin_2; rfl]
  exact Sees.ex ({ fp1 := x.fp1, fc1 := x.fc1, a1 := b4, a2 := x.a2, a3 := x.a4, a4 := x.a5 } : SndX) (Sees.cons Z0 (Sees.cons Z1 (Sees.cons Z5 (Sees.cons Z6 (Sees.cons Z6 (Sees.cons Z6 (Sees.cons Z6 (Sees.skip (Sees.skip (Sees.skip (Sees.skip (Sees.skip (Sees.skip (Sees.refl))))))))))))))
theorem sndTake_st_write_1 (ω : World) (b : Nat) (s : SndS) (p0 : Int) (p1 : Int) (p2 : Int) (p3 : Int) (hok : SndOk s) (a : Ans) (ha : inK .u64 a.v) (X : HP) (ap : Option Addr) (ac : Nat) (F : List HP) : Spec ω Tryz.prog 195 #[.pointer (some ⟨b, 0, none⟩), .agg #[.int .u64 a.v, .bool (a.d), .slice ap a.data.length ac]] (sndRep b s (.st_write_1 p0 p1 p2 p3) :: X :: F) fun v' H' => v' = .tuple #[] ∧ Sees H' (sndRep b (sndStep s (.st_write_1 p0 p1 p2 p3) a).1 (sndStep s (.st_write_1 p0 p1 p2 p3) a).2 :: X :: F) := by
  refine Spec.ex fun x => ?_
  refine Spec.eqH (H1 := row b 0 [.int .i64 2, .int .i64 p2, .int .i64 8, .int .u64 p3, .int .u64 0, .slice none 0 0, .func (.func 159) #[] #[.pointer (some ⟨x.a1, 0, none⟩)], .int .i64 s.rBase, .int .i64 s.rSize, .int .i32 s.typ, .slice x.fp1 s.b.length x.fc1, .int .u64 s.tail, .int .i64 s.e] :: row x.a1 0 [.func (.func 164) #[] #[.pointer (some ⟨x.a2, 0, none⟩), .pointer (some ⟨x.a3, 0, none⟩), .pointer (some ⟨x.a4, 0, none⟩)]] :: row x.a2 0 [.pointer (some ⟨b, 0, none⟩)] :: row x.a3 0 [.int .i64 p0] :: row x.a4 0 [.int .u64 p1] :: own 1 x.fp1 s.b.length x.fc1 (byteC s.b) :: X :: F) rfl ?_
  refine Spec.own Z5 fun hfc1 => ?_
  refine spec_of_body Tryz.func195 rfl Tryz.ntmps195 rfl ?_
  refine Cr ?_
  refine Ro rfl (ot_box rfl rfl (rfl : _ = [_, _, _])) ?_
  rintro _ _ ⟨b1, rfl, rfl⟩
  refine Kn2 0 3 rfl ?_
  refine Cr ?_
  refine Rp rfl (pv_move rfl) ?_
  refine Rp rfl (pv_neq rfl rfl Tryz.runUnderlying120 rfl) ?_
  refine Kn3 0 3 5 rfl ?_
  refine ct_true rfl ?_
  refine ct_planH [.q 0, .q 1, .q 2, .q 3, .b 4] mixed (by decide +kernel) ?_
  refine pw_q rfl rfl rfl rfl (oq_pv (pv_move rfl)) ?_
  refine pw_q rfl rfl rfl rfl (oq_pv (pv_nilCheck rfl)) ?_
  refine pw_q rfl rfl rfl rfl (oq_pv (pv_fieldAddr (k := 0) rfl Tryz.runUnderlying211 rfl Tryz.sizeOf133 rfl rfl)) ?_
  refine pw_q rfl rfl rfl rfl (oq_loadAgg (us := [_, _, _]) rfl rfl Tryz.isAgg31 Tryz.sizeOf31 Z0 (by rfl) (by rfl) (by rfl)) ?_
  refine pwb_call rfl rfl rfl rfl Tryz.call68 (vs := [_, _]) rfl Tryz.func68 rfl Tryz.ntmps68 rfl rfl ?_
  refine Cr ?_
  refine Ro rfl (ot_box rfl rfl (rfl : _ = [_, _, _])) ?_
  rintro _ _ ⟨b2, rfl, rfl⟩
  refine Kn2 0 3 rfl ?_
  refine ct_seq ?_
  refine Cr ?_
  refine Rp rfl (pv_move rfl) ?_
  refine Rp rfl (pv_eql rfl rfl Tryz.runUnderlying189 rfl) ?_
  refine Rp rfl (pv_move rfl) ?_
  refine Ru rfl (pv_move rfl) ?_
  refine Ru rfl (pv_nilCheck rfl) ?_
  refine Ru rfl (pv_fieldAddr (k := 6) rfl Tryz.runUnderlying133 rfl Tryz.sizeOf49 rfl rfl) ?_
  refine Rv rfl (oq_load rfl rfl Tryz.isAgg49 Z2 (by rfl) (by rfl)) ?_
  refine Ru rfl (pv_eql rfl rfl Tryz.runUnderlying49 rfl) ?_
  refine Rp rfl (pv_pick0 rfl rfl) ?_
  refine Kn3 0 3 13 rfl ?_
  refine ct_false rfl ?_
  refine ct_skip ?_
  refine Kx2 0 3 rfl ?_
  refine Cr ?_
  refine Rp rfl (pv_move rfl) ?_
  refine Rp rfl (pv_nilCheck rfl) ?_
  refine Rp rfl (pv_fieldAddr (k := 6) rfl Tryz.runUnderlying133 rfl Tryz.sizeOf49 rfl rfl) ?_
  refine Rq rfl (oq_load rfl rfl Tryz.isAgg49 Z2 (by rfl) (by rfl)) ?_
  refine Rp rfl (pv_assign rfl) ?_
  refine Kn3 0 3 4 rfl ?_
  refine Cr ?_
  refine Rp rfl (pv_move rfl) ?_
  refine Rp rfl (pv_move rfl) ?_
  refine Rp rfl (pv_build (ps := []) (cs := [_, _, _, _, _, _]) rfl Tryz.zeroValue36 Tryz.runUnderlying36 (.cons Tryz.sizeOf3 (.cons Tryz.sizeOf3 (.cons Tryz.sizeOf3 (.cons Tryz.sizeOf28 (.cons Tryz.sizeOf28 (.cons Tryz.sizeOf29 (.nil))))))) rfl) ?_
  refine Rp rfl (pv_nilCheck rfl) ?_
  refine Rp rfl (pv_fieldAddr (k := 0) rfl Tryz.runUnderlying133 rfl Tryz.sizeOf36 rfl rfl) ?_
  refine rl_op0 rfl rfl (ot_store rfl rfl rfl Tryz.sizeOf36 Z2 (rfl : _ = [_, _, _, _, _, _]) rfl (by rfl) (by rfl) (by first | rfl | assumption) (by exact (rfl : _ = [_, _, _, _, _, _, _, _, _, _, _, _, _]))) ?_
  rintro _ _ rfl
  refine Rp rfl (pv_nilCheck rfl) ?_
  refine Rp rfl (pv_fieldAddr (k := 6) rfl Tryz.runUnderlying133 rfl Tryz.sizeOf49 rfl rfl) ?_
  refine rl_op0 rfl rfl (ot_store rfl rfl rfl Tryz.sizeOf49 Z0 (rfl : _ = [_]) rfl (by rfl) (by rfl) (by first | rfl | assumption) (by exact (rfl : _ = [_, _, _, _, _, _, _, _, _, _, _, _, _]))) ?_
  rintro _ _ rfl
  refine Kn2 3 4 rfl ?_
  refine ct_region ?_
  refine Rp rfl (pv_move rfl) ?_
  refine Rq rfl (oq_loadAgg (us := [_, _, _]) rfl rfl Tryz.isAgg31 Tryz.sizeOf31 Z1 (by rfl) (by rfl) (by rfl)) ?_
  refine rl_callv (l := []) (cp := [_]) rfl rfl (by decide) rfl Tryz.call159 (vs := [_]) rfl Tryz.func159 rfl Tryz.ntmps159 rfl rfl ?_
  refine Cr ?_
  refine Ro rfl (ot_box rfl rfl (rfl : _ = [_, _, _])) ?_
  rintro _ _ ⟨b3, rfl, rfl⟩
  refine Kn1 1 rfl ?_
  refine ct_region ?_
  refine Rq rfl (oq_load rfl rfl Tryz.isAgg1 Z4 (by rfl) (by rfl)) ?_
  refine rl_callv (l := []) (cp := [_, _, _]) rfl rfl (by decide) rfl Tryz.call164 (vs := []) rfl Tryz.func164 rfl Tryz.ntmps164 rfl rfl ?_
  refine ct_planH [.q 0, .q 1, .q 2, .q 3, .q 4, .q 5, .q 6, .q 7, .q 8, .q 9, .b 10] mixed (by decide +kernel) ?_
  refine pw_q rfl rfl rfl rfl (oq_load rfl rfl Tryz.isAgg120 Z5 (by rfl) (by rfl)) ?_
  refine pw_q rfl rfl rfl rfl (oq_pv (pv_nilCheck rfl)) ?_
  refine pw_q rfl rfl rfl rfl (oq_pv (pv_fieldAddr (k := 0) rfl Tryz.runUnderlying211 rfl Tryz.sizeOf133 rfl rfl)) ?_
  refine pw_q rfl rfl rfl rfl (oq_load rfl rfl Tryz.isAgg3 Z6 (by rfl) (by rfl)) ?_
  refine pw_q rfl rfl rfl rfl (oq_pv (pv_bin rfl rfl rfl)) ?_
  refine pw_q rfl rfl rfl rfl (oq_load rfl rfl Tryz.isAgg120 Z5 (by rfl) (by rfl)) ?_
  refine pw_q rfl rfl rfl rfl (oq_pv (pv_nilCheck rfl)) ?_
  refine pw_q rfl rfl rfl rfl (oq_pv (pv_fieldAddr (k := 10) rfl Tryz.runUnderlying211 rfl Tryz.sizeOf29 rfl rfl)) ?_
  refine pw_q rfl rfl rfl rfl (oq_load rfl rfl Tryz.isAgg29 Z1 (by rfl) (by rfl)) ?_
  refine pw_q rfl rfl rfl rfl (oq_pv (pv_makeFunc (l := []) (c := [_, _]) rfl rfl)) ?_
  by_cases hz4 : (s.b).length = 0
  · skip
    refine pw_b rfl rfl rfl rfl (ot_call rfl Tryz.call125 (vs := [_, _, _, _]) rfl (Sees.cons Z1 (Sees.refl)) (in_doneR (l := []) (cp := [.pointer (some ⟨x.a2, 0, none⟩), .pointer (some ⟨x.a4, 0, none⟩)]) hz4 Tryz.call165 (spec_of_list (vs := [_, _]) Tryz.func165 rfl Tryz.ntmps165 rfl ?_))) (fun _ _ h => h)
    refine ct_planH [.q 0, .q 1, .q 2, .q 3, .q 6, .q 7, .q 8, .q 9, .q 10, .e 4, .q 5, .b 11] mixed (by decide +kernel) ?_
    refine pw_q rfl rfl rfl rfl (oq_load rfl rfl Tryz.isAgg120 Z5 (by rfl) (by rfl)) ?_
    refine pw_q rfl rfl rfl rfl (oq_pv (pv_nilCheck rfl)) ?_
    refine pw_q rfl rfl rfl rfl (oq_pv (pv_fieldAddr (k := 0) rfl Tryz.runUnderlying211 rfl Tryz.sizeOf133 rfl rfl)) ?_
    refine pw_q rfl rfl rfl rfl (oq_load rfl rfl Tryz.isAgg120 Z5 (by rfl) (by rfl)) ?_
    refine pw_q rfl rfl rfl rfl (oq_load rfl rfl Tryz.isAgg120 Z5 (by rfl) (by rfl)) ?_
    refine pw_q rfl rfl rfl rfl (oq_pv (pv_nilCheck rfl)) ?_
    refine pw_q rfl rfl rfl rfl (oq_pv (pv_fieldAddr (k := 11) rfl Tryz.runUnderlying211 rfl Tryz.sizeOf28 rfl rfl)) ?_
    refine pw_q rfl rfl rfl rfl (oq_load rfl rfl Tryz.isAgg28 Z0 (by rfl) (by rfl)) ?_
    refine pw_q rfl rfl rfl rfl (oq_pv (pv_makeFunc (l := []) (c := [_, _]) rfl rfl)) ?_
    refine pwe_call rfl rfl rfl rfl Tryz.call111 (vs := [_]) rfl Tryz.func111 rfl Tryz.ntmps111 rfl rfl ?_
    refine Cr ?_
    refine Rp rfl (pv_assign rfl) ?_
    refine Kn1 0 rfl ?_
    refine ct_seq ?_
    refine ct_planH [.q 0, .q 1, .q 2, .q 3, .q 4, .q 5, .q 6, .q 7, .q 8, .q 9, .q 10, .q 11] mixed (by decide +kernel) ?_
    refine pw_q rfl rfl rfl rfl (oq_pv (pv_move rfl)) ?_
    refine pw_q rfl rfl rfl rfl (oq_pv (pv_nilCheck rfl)) ?_
    refine pw_q rfl rfl rfl rfl (oq_pv (pv_fieldAddr (k := 7) rfl Tryz.runUnderlying211 rfl Tryz.sizeOf23 rfl rfl)) ?_
    refine pw_q rfl rfl rfl rfl (oq_pv (pv_fieldAddr (k := 7) rfl Tryz.runUnderlying23 rfl Tryz.sizeOf3 rfl rfl)) ?_
    refine pw_q rfl rfl rfl rfl (oq_load rfl rfl Tryz.isAgg3 Z0 (by rfl) (by rfl)) ?_
    refine pw_q rfl rfl rfl rfl (oq_pv (pv_move rfl)) ?_
    refine pw_q rfl rfl rfl rfl (oq_pv (pv_nilCheck rfl)) ?_
    refine pw_q rfl rfl rfl rfl (oq_pv (pv_fieldAddr (k := 7) rfl Tryz.runUnderlying211 rfl Tryz.sizeOf23 rfl rfl)) ?_
    refine pw_q rfl rfl rfl rfl (oq_pv (pv_fieldAddr (k := 8) rfl Tryz.runUnderlying23 rfl Tryz.sizeOf3 rfl rfl)) ?_
    refine pw_q rfl rfl rfl rfl (oq_load rfl rfl Tryz.isAgg3 Z0 (by rfl) (by rfl)) ?_
    refine pw_q rfl rfl rfl rfl (oq_pv (pv_bin rfl rfl rfl)) ?_
    refine pw_q rfl rfl rfl rfl (oq_pv (pv_assign rfl)) ?_
    refine pw_done ?_
    refine Kx1 2 rfl ?_
    refine ct_ret ?_
    refine fin_ret1 (RVs.tmp rfl (RVs.nil)) Tryz.results111 ?_ Sees.refl
    refine ⟨[], Sees.cons Z0 (Sees.cons Z0 (Sees.cons Z0 (Sees.cons Z0 (Sees.cons Z0 (Sees.cons Z0 (Sees.cons Z0 (Sees.cons Z0 (Sees.cons Z0 (Sees.cons Z0 (Sees.refl)))))))))), ?_⟩
    refine pw_q rfl rfl rfl rfl (oq_pv (pv_bin rfl rfl rfl)) ?_
    refine pwb_call rfl rfl rfl rfl Tryz.call127 (vs := [_, _, _, _, _]) rfl Tryz.func127 rfl Tryz.ntmps127 rfl rfl ?_
    refine Cr ?_
    refine Ro rfl (ot_box rfl rfl (rfl : _ = [_])) ?_
    rintro _ _ ⟨b5, rfl, rfl⟩
    refine Kn5 0 1 2 3 9 rfl ?_
    refine ct_region ?_
    refine Rp rfl (pv_move rfl) ?_
    refine Rp rfl (pv_move rfl) ?_
    refine Rp rfl (pv_move rfl) ?_
    refine Rp rfl (pv_move rfl) ?_
    refine Rp rfl (pv_build (ps := [(0, _), (1, _), (2, _), (3, _)]) (cs := [_, _, _, _, _, _]) rfl Tryz.zeroValue36 Tryz.runUnderlying36 (.cons Tryz.sizeOf3 (.cons Tryz.sizeOf3 (.cons Tryz.sizeOf3 (.cons Tryz.sizeOf28 (.cons Tryz.sizeOf28 (.cons Tryz.sizeOf29 (.nil))))))) rfl) ?_
    refine Rp rfl (pv_makeFunc (l := []) (c := [_]) rfl rfl) ?_
    refine rl_call rfl rfl (by decide) Tryz.call86 (vs := [_, _, _]) rfl Tryz.func86 rfl Tryz.ntmps86 rfl rfl ?_
    refine Cr ?_
    refine Ro rfl (ot_box rfl rfl (rfl : _ = [_, _, _, _, _, _])) ?_
    rintro _ _ ⟨b6, rfl, rfl⟩
    refine Kn3 0 2 4 rfl ?_
    refine ct_region ?_
    refine Rp rfl (pv_move rfl) ?_
    refine Rp rfl (pv_move rfl) ?_
    refine Rq rfl (oq_loadAgg (us := [_, _, _, _, _, _]) rfl rfl Tryz.isAgg36 Tryz.sizeOf36 Z0 (by rfl) (by rfl) (by rfl)) ?_
    refine Rp rfl (pv_move rfl) ?_
    refine Rp rfl (pv_nilCheck rfl) ?_
    refine Rp rfl (pv_fieldAddr (k := 0) rfl Tryz.runUnderlying133 rfl Tryz.sizeOf36 rfl rfl) ?_
    refine rl_op0 rfl rfl (ot_store rfl rfl rfl Tryz.sizeOf36 Z2 (rfl : _ = [_, _, _, _, _, _]) rfl (by rfl) (by rfl) (by first | rfl | assumption) (by exact (rfl : _ = [_, _, _, _, _, _, _, _, _, _, _, _, _]))) ?_
    rintro _ _ rfl
    refine Rp rfl (pv_nilCheck rfl) ?_
    refine Rp rfl (pv_fieldAddr (k := 6) rfl Tryz.runUnderlying133 rfl Tryz.sizeOf49 rfl rfl) ?_
    refine rl_op0 rfl rfl (ot_store rfl rfl rfl Tryz.sizeOf49 Z0 (rfl : _ = [_]) rfl (by rfl) (by rfl) (by first | rfl | assumption) (by exact (rfl : _ = [_, _, _, _, _, _, _, _, _, _, _, _, _]))) ?_
    rintro _ _ rfl
    refine rl_nil ?_
    refine fin_end (RVs.nil) Tryz.results86 ?_ Sees.refl
    refine rl_nil ?_
    refine fin_end (RVs.nil) Tryz.results127 ?_ Sees.refl
    refine pw_done ?_
    refine fin_end (RVs.nil) Tryz.results165 ⟨rfl, ?_⟩ Sees.refl
    refine pw_done ?_
    refine fin_end (RVs.nil) Tryz.results164 ?_ Sees.refl
    refine rl_nil ?_
    refine fin_end (RVs.nil) Tryz.results159 ?_ Sees.refl
    refine rl_nil ?_
    refine fin_end (RVs.nil) Tryz.results68 ?_ Sees.refl
    refine pw_done ?_
    refine fin_end (RVs.nil) Tryz.results195 ⟨rfl, ?_⟩ Sees.refl
    rw [show sndStep s (.st_write_1 p0 p1 p2 p3) a = (⟨s.rBase, s.rSize, s.typ, s.b, s.tail, s.e⟩, .st_write_1_1_1 p1 (IntKind.i64.wrap ((IntKind.i64.wrap (s.rBase + s.rSize)) + 16)) s.tail) from by
      show sndStep_st_write_1 s p0 p1 p2 p3 a = _; unfold sndStep_st_write_1; rw [if_pos hz4]]
    exact Sees.ex ({ fp1 := x.fp1, fc1 := x.fc1, a1 := b5, a2 := x.a2, a3 := x.a4 } : SndX) (Sees.cons Z0 (Sees.cons Z1 (Sees.cons Z5 (Sees.cons Z6 (Sees.cons Z6 (Sees.cons Z6 (Sees.skip (Sees.skip (Sees.skip (Sees.skip (Sees.skip (Sees.skip (Sees.refl)))))))))))))
  · skip
    refine pw_b rfl rfl rfl rfl (ot_call rfl Tryz.call125 (vs := [_, _, _, _]) rfl (Sees.cons Z1 (Sees.refl)) (in_moreR (n := s.b.length) (Nat.pos_of_ne_zero hz4) hok.hl hfc1)) ?_
    rintro _ _ ⟨b7, b8, b9, b10, b11, rfl, rfl⟩
    refine pw_done ?_
    refine fin_end (RVs.nil) Tryz.results164 ?_ Sees.refl
    refine rl_nil ?_
    refine fin_end (RVs.nil) Tryz.results159 ?_ Sees.refl
    refine rl_nil ?_
    refine fin_end (RVs.nil) Tryz.results68 ?_ Sees.refl
    refine pw_done ?_
    refine fin_end (RVs.nil) Tryz.results195 ⟨rfl, ?_⟩ Sees.refl
    rw [show sndStep s (.st_write_1 p0 p1 p2 p3) a = (⟨s.rBase, s.rSize, s.typ, s.b, s.tail, s.e⟩, .in_write_1_1 (IntKind.i64.wrap (p0 + 8)) s.b p1) from by
      show sndStep_st_write_1 s p0 p1 p2 p3 a = _; unfold sndStep_st_write_1; rw [if_neg hz4]]
    exact Sees.ex ({ fp1 := x.fp1, fc1 := x.fc1, q := x.fp1, d := x.fc1, a1 := b7, a2 := b8, a3 := b11, a4 := b9, a5 := b10, a6 := x.a2, a7 := x.a4 } : SndX) (Sees.cons Z0 (Sees.cons Z4 (Sees.cons Z3 (Sees.cons Z0 (Sees.cons Z1 (Sees.cons Z0 (Sees.cons Z4 (Sees.cons Z5 (Sees.fact ⟨vw_own, (Nat.pos_of_ne_zero hz4), hok.hl, hfc1⟩ (Sees.cons Z5 (Sees.cons Z5 (Sees.skip (Sees.skip (Sees.skip (Sees.skip (Sees.skip (Sees.refl)))))))))))))))))
theorem sndTake_st_begin_2_1 (ω : World) (b : Nat) (s : SndS) (p0 : Int) (p1 : Int) (p2 : Int) (p3 : Int) (hok : SndOk s) (a : Ans) (ha : inK .u64 a.v) (X : HP) (ap : Option Addr) (ac : Nat) (F : List HP) : Spec ω Tryz.prog 195 #[.pointer (some ⟨b, 0, none⟩), .agg #[.int .u64 a.v, .bool (a.d), .slice ap a.data.length ac]] (sndRep b s (.st_begin_2_1 p0 p1 p2 p3) :: X :: F) fun v' H' => v' = .tuple #[] ∧ Sees H' (sndRep b (sndStep s (.st_begin_2_1 p0 p1 p2 p3) a).1 (sndStep s (.st_begin_2_1 p0 p1 p2 p3) a).2 :: X :: F) := by
  refine Spec.ex fun x => ?_
  refine Spec.eqH (H1 := row b 0 [.int .i64 2, .int .i64 p2, .int .i64 8, .int .u64 p3, .int .u64 0, .slice none 0 0, .func (.func 159) #[] #[.pointer (some ⟨x.a1, 0, none⟩)], .int .i64 s.rBase, .int .i64 s.rSize, .int .i32 s.typ, .slice x.fp1 s.b.length x.fc1, .int .u64 s.tail, .int .i64 s.e] :: row x.a1 0 [.func (.func 146) #[] #[.pointer (some ⟨x.a2, 0, none⟩), .pointer (some ⟨x.a3, 0, none⟩), .pointer (some ⟨x.a4, 0, none⟩)]] :: row x.a2 0 [.pointer (some ⟨b, 0, none⟩)] :: row x.a3 0 [.int .u64 p0] :: row x.a4 0 [.int .u64 p1] :: own 1 x.fp1 s.b.length x.fc1 (byteC s.b) :: X :: F) rfl ?_
  refine Spec.own Z5 fun hfc1 => ?_
  refine spec_of_body Tryz.func195 rfl Tryz.ntmps195 rfl ?_
  refine Cr ?_
  refine Ro rfl (ot_box rfl rfl (rfl : _ = [_, _, _])) ?_
  rintro _ _ ⟨b1, rfl, rfl⟩
  refine Kn2 0 3 rfl ?_
  refine Cr ?_
  refine Rp rfl (pv_move rfl) ?_
  refine Rp rfl (pv_neq rfl rfl Tryz.runUnderlying120 rfl) ?_
  refine Kn3 0 3 5 rfl ?_
  refine ct_true rfl ?_
  refine ct_planH [.q 0, .q 1, .q 2, .q 3, .b 4] mixed (by decide +kernel) ?_
  refine pw_q rfl rfl rfl rfl (oq_pv (pv_move rfl)) ?_
  refine pw_q rfl rfl rfl rfl (oq_pv (pv_nilCheck rfl)) ?_
  refine pw_q rfl rfl rfl rfl (oq_pv (pv_fieldAddr (k := 0) rfl Tryz.runUnderlying211 rfl Tryz.sizeOf133 rfl rfl)) ?_
  refine pw_q rfl rfl rfl rfl (oq_loadAgg (us := [_, _, _]) rfl rfl Tryz.isAgg31 Tryz.sizeOf31 Z0 (by rfl) (by rfl) (by rfl)) ?_
  refine pwb_call rfl rfl rfl rfl Tryz.call68 (vs := [_, _]) rfl Tryz.func68 rfl Tryz.ntmps68 rfl rfl ?_
  refine Cr ?_
  refine Ro rfl (ot_box rfl rfl (rfl : _ = [_, _, _])) ?_
  rintro _ _ ⟨b2, rfl, rfl⟩
  refine Kn2 0 3 rfl ?_
  refine ct_seq ?_
  refine Cr ?_
  refine Rp rfl (pv_move rfl) ?_
  refine Rp rfl (pv_eql rfl rfl Tryz.runUnderlying189 rfl) ?_
  refine Rp rfl (pv_move rfl) ?_
  refine Ru rfl (pv_move rfl) ?_
  refine Ru rfl (pv_nilCheck rfl) ?_
  refine Ru rfl (pv_fieldAddr (k := 6) rfl Tryz.runUnderlying133 rfl Tryz.sizeOf49 rfl rfl) ?_
  refine Rv rfl (oq_load rfl rfl Tryz.isAgg49 Z2 (by rfl) (by rfl)) ?_
  refine Ru rfl (pv_eql rfl rfl Tryz.runUnderlying49 rfl) ?_
  refine Rp rfl (pv_pick0 rfl rfl) ?_
  refine Kn3 0 3 13 rfl ?_
  refine ct_false rfl ?_
  refine ct_skip ?_
  refine Kx2 0 3 rfl ?_
  refine Cr ?_
  refine Rp rfl (pv_move rfl) ?_
  refine Rp rfl (pv_nilCheck rfl) ?_
  refine Rp rfl (pv_fieldAddr (k := 6) rfl Tryz.runUnderlying133 rfl Tryz.sizeOf49 rfl rfl) ?_
  refine Rq rfl (oq_load rfl rfl Tryz.isAgg49 Z2 (by rfl) (by rfl)) ?_
  refine Rp rfl (pv_assign rfl) ?_
  refine Kn3 0 3 4 rfl ?_
  refine Cr ?_
  refine Rp rfl (pv_move rfl) ?_
  refine Rp rfl (pv_move rfl) ?_
  refine Rp rfl (pv_build (ps := []) (cs := [_, _, _, _, _, _]) rfl Tryz.zeroValue36 Tryz.runUnderlying36 (.cons Tryz.sizeOf3 (.cons Tryz.sizeOf3 (.cons Tryz.sizeOf3 (.cons Tryz.sizeOf28 (.cons Tryz.sizeOf28 (.cons Tryz.sizeOf29 (.nil))))))) rfl) ?_
  refine Rp rfl (pv_nilCheck rfl) ?_
  refine Rp rfl (pv_fieldAddr (k := 0) rfl Tryz.runUnderlying133 rfl Tryz.sizeOf36 rfl rfl) ?_
  refine rl_op0 rfl rfl (ot_store rfl rfl rfl Tryz.sizeOf36 Z2 (rfl : _ = [_, _, _, _, _, _]) rfl (by rfl) (by rfl) (by first | rfl | assumption) (by exact (rfl : _ = [_, _, _, _, _, _, _, _, _, _, _, _, _]))) ?_
  rintro _ _ rfl
  refine Rp rfl (pv_nilCheck rfl) ?_
  refine Rp rfl (pv_fieldAddr (k := 6) rfl Tryz.runUnderlying133 rfl Tryz.sizeOf49 rfl rfl) ?_
  refine rl_op0 rfl rfl (ot_store rfl rfl rfl Tryz.sizeOf49 Z0 (rfl : _ = [_]) rfl (by rfl) (by rfl) (by first | rfl | assumption) (by exact (rfl : _ = [_, _, _, _, _, _, _, _, _, _, _, _, _]))) ?_
  rintro _ _ rfl
  refine Kn2 3 4 rfl ?_
  refine ct_region ?_
  refine Rp rfl (pv_move rfl) ?_
  refine Rq rfl (oq_loadAgg (us := [_, _, _]) rfl rfl Tryz.isAgg31 Tryz.sizeOf31 Z1 (by rfl) (by rfl) (by rfl)) ?_
  refine rl_callv (l := []) (cp := [_]) rfl rfl (by decide) rfl Tryz.call159 (vs := [_]) rfl Tryz.func159 rfl Tryz.ntmps159 rfl rfl ?_
  refine Cr ?_
  refine Ro rfl (ot_box rfl rfl (rfl : _ = [_, _, _])) ?_
  rintro _ _ ⟨b3, rfl, rfl⟩
  refine Kn1 1 rfl ?_
  refine ct_region ?_
  refine Rq rfl (oq_load rfl rfl Tryz.isAgg1 Z4 (by rfl) (by rfl)) ?_
  refine rl_callv (l := []) (cp := [_, _, _]) rfl rfl (by decide) rfl Tryz.call146 (vs := []) rfl Tryz.func146 rfl Tryz.ntmps146 rfl rfl ?_
  refine ct_seq ?_
  refine ct_planH [.q 0, .q 1, .q 2, .q 3, .q 4, .q 5, .q 6, .q 7, .b 8] mixed (by decide +kernel) ?_
  refine pw_q rfl rfl rfl rfl (oq_load rfl rfl Tryz.isAgg120 Z5 (by rfl) (by rfl)) ?_
  refine pw_q rfl rfl rfl rfl (oq_pv (pv_nilCheck rfl)) ?_
  refine pw_q rfl rfl rfl rfl (oq_pv (pv_fieldAddr (k := 11) rfl Tryz.runUnderlying211 rfl Tryz.sizeOf28 rfl rfl)) ?_
  refine pw_q rfl rfl rfl rfl (oq_load rfl rfl Tryz.isAgg28 Z1 (by rfl) (by rfl)) ?_
  refine pw_q rfl rfl rfl rfl (oq_load rfl rfl Tryz.isAgg28 Z6 (by rfl) (by rfl)) ?_
  refine pw_q rfl rfl rfl rfl (oq_pv (pv_bin rfl rfl rfl)) ?_
  refine pw_q rfl rfl rfl rfl (oq_pv (pv_nilCheck rfl)) ?_
  refine pw_q rfl rfl rfl rfl (oq_pv (pv_fieldAddr (k := 11) rfl Tryz.runUnderlying211 rfl Tryz.sizeOf28 rfl rfl)) ?_
  refine pw_b0 rfl rfl rfl (ot_store rfl rfl rfl Tryz.sizeOf28 Z1 (rfl : _ = [_]) rfl (by rfl) (by rfl) (by first | rfl | assumption) (by exact (rfl : _ = [_, _, _, _, _, _, _, _, _, _, _, _, _]))) ?_
  rintro _ _ rfl
  refine pw_done ?_
  refine Kx2 0 2 rfl ?_
  refine ct_planH [.q 0, .q 1, .q 2, .q 3, .q 4, .q 5, .q 6, .b 7] mixed (by decide +kernel) ?_
  refine pw_q rfl rfl rfl rfl (oq_load rfl rfl Tryz.isAgg120 Z5 (by rfl) (by rfl)) ?_
  refine pw_q rfl rfl rfl rfl (oq_load rfl rfl Tryz.isAgg120 Z5 (by rfl) (by rfl)) ?_
  refine pw_q rfl rfl rfl rfl (oq_pv (pv_nilCheck rfl)) ?_
  refine pw_q rfl rfl rfl rfl (oq_pv (pv_fieldAddr (k := 7) rfl Tryz.runUnderlying211 rfl Tryz.sizeOf23 rfl rfl)) ?_
  refine pw_q rfl rfl rfl rfl (oq_pv (pv_fieldAddr (k := 7) rfl Tryz.runUnderlying23 rfl Tryz.sizeOf3 rfl rfl)) ?_
  refine pw_q rfl rfl rfl rfl (oq_load rfl rfl Tryz.isAgg3 Z0 (by rfl) (by rfl)) ?_
  refine pw_q rfl rfl rfl rfl (oq_load rfl rfl Tryz.isAgg28 Z7 (by rfl) (by rfl)) ?_
  refine pwb_call rfl rfl rfl rfl Tryz.call143 (vs := [_, _, _]) rfl Tryz.func143 rfl Tryz.ntmps143 rfl rfl ?_
  refine Cr ?_
  refine Ro rfl (ot_box rfl rfl (rfl : _ = [_])) ?_
  rintro _ _ ⟨b4, rfl, rfl⟩
  refine Ro rfl (ot_box rfl rfl (rfl : _ = [_])) ?_
  rintro _ _ ⟨b5, rfl, rfl⟩
  refine Ro rfl (ot_box rfl rfl (rfl : _ = [_])) ?_
  rintro _ _ ⟨b6, rfl, rfl⟩
  refine Kn3 3 4 5 rfl ?_
  refine ct_planH [.q 0, .q 1, .q 2, .q 3, .q 4, .q 5, .q 6, .q 7, .q 8, .q 9, .q 10, .q 11, .q 12, .q 13, .q 14, .q 16, .e 15, .b 17] mixed (by decide +kernel) ?_
  refine pw_q rfl rfl rfl rfl (oq_load rfl rfl Tryz.isAgg120 Z2 (by rfl) (by rfl)) ?_
  refine pw_q rfl rfl rfl rfl (oq_pv (pv_nilCheck rfl)) ?_
  refine pw_q rfl rfl rfl rfl (oq_pv (pv_fieldAddr (k := 0) rfl Tryz.runUnderlying211 rfl Tryz.sizeOf133 rfl rfl)) ?_
  refine pw_q rfl rfl rfl rfl (oq_load rfl rfl Tryz.isAgg3 Z1 (by rfl) (by rfl)) ?_
  refine pw_q rfl rfl rfl rfl (oq_load rfl rfl Tryz.isAgg120 Z2 (by rfl) (by rfl)) ?_
  refine pw_q rfl rfl rfl rfl (oq_pv (pv_nilCheck rfl)) ?_
  refine pw_q rfl rfl rfl rfl (oq_pv (pv_fieldAddr (k := 10) rfl Tryz.runUnderlying211 rfl Tryz.sizeOf29 rfl rfl)) ?_
  refine pw_q rfl rfl rfl rfl (oq_load rfl rfl Tryz.isAgg29 Z3 (by rfl) (by rfl)) ?_
  refine pw_q rfl rfl rfl rfl (oq_pv (pv_len_slice rfl rfl Tryz.runUnderlying29)) ?_
  refine pw_q rfl rfl rfl rfl (oq_pv (pv_bin rfl rfl rfl)) ?_
  refine pw_q rfl rfl rfl rfl (oq_pv (pv_convert rfl Tryz.runUnderlying3 Tryz.runUnderlying21)) ?_
  refine pw_q rfl rfl rfl rfl (oq_load rfl rfl Tryz.isAgg120 Z2 (by rfl) (by rfl)) ?_
  refine pw_q rfl rfl rfl rfl (oq_pv (pv_nilCheck rfl)) ?_
  refine pw_q rfl rfl rfl rfl (oq_pv (pv_fieldAddr (k := 9) rfl Tryz.runUnderlying211 rfl Tryz.sizeOf21 rfl rfl)) ?_
  refine pw_q rfl rfl rfl rfl (oq_load rfl rfl Tryz.isAgg21 Z3 (by rfl) (by rfl)) ?_
  refine pw_q rfl rfl rfl rfl (oq_pv (pv_makeFunc (l := []) (c := [_, _, _]) rfl rfl)) ?_
  refine pwe_call rfl rfl rfl rfl Tryz.call145 (vs := [_, _]) rfl Tryz.func145 rfl Tryz.ntmps145 rfl rfl ?_
  refine Cr ?_
  refine Rp rfl (pv_assign rfl) ?_
  refine Kn2 0 1 rfl ?_
  refine Cr ?_
  refine Rp rfl (pv_move rfl) ?_
  refine Rp rfl (pv_convert rfl Tryz.runUnderlying21 Tryz.runUnderlying86) ?_
  refine Rp rfl (pv_convert rfl Tryz.runUnderlying86 Tryz.runUnderlying28) ?_
  refine Rp rfl (pv_shl_lit (n := 4294967296) rfl rfl (by decide) rfl) ?_
  refine Rp rfl (pv_move rfl) ?_
  refine Rp rfl (pv_convert rfl Tryz.runUnderlying21 Tryz.runUnderlying86) ?_
  refine Rp rfl (pv_convert rfl Tryz.runUnderlying86 Tryz.runUnderlying28) ?_
  refine Rp rfl (pv_bin rfl rfl rfl) ?_
  refine Rp rfl (pv_assign rfl) ?_
  refine Kn1 4 rfl ?_
  refine ct_ret ?_
  refine fin_ret1 (RVs.tmp rfl (RVs.nil)) Tryz.results145 ?_ Sees.refl
  refine ⟨[], Sees.cons Z0 (Sees.cons Z0 (Sees.cons Z0 (Sees.cons Z0 (Sees.cons Z0 (Sees.cons Z0 (Sees.cons Z0 (Sees.cons Z0 (Sees.cons Z0 (Sees.cons Z0 (Sees.cons Z0 (Sees.cons Z0 (Sees.cons Z0 (Sees.refl))))))))))))), ?_⟩
  refine pwb_call rfl rfl rfl rfl Tryz.call127 (vs := [_, _, _, _, _]) rfl Tryz.func127 rfl Tryz.ntmps127 rfl rfl ?_
  refine Cr ?_
  refine Ro rfl (ot_box rfl rfl (rfl : _ = [_])) ?_
  rintro _ _ ⟨b7, rfl, rfl⟩
  refine Kn5 0 1 2 3 9 rfl ?_
  refine ct_region ?_
  refine Rp rfl (pv_move rfl) ?_
  refine Rp rfl (pv_move rfl) ?_
  refine Rp rfl (pv_move rfl) ?_
  refine Rp rfl (pv_move rfl) ?_
  refine Rp rfl (pv_build (ps := [(0, _), (1, _), (2, _), (3, _)]) (cs := [_, _, _, _, _, _]) rfl Tryz.zeroValue36 Tryz.runUnderlying36 (.cons Tryz.sizeOf3 (.cons Tryz.sizeOf3 (.cons Tryz.sizeOf3 (.cons Tryz.sizeOf28 (.cons Tryz.sizeOf28 (.cons Tryz.sizeOf29 (.nil))))))) rfl) ?_
  refine Rp rfl (pv_makeFunc (l := []) (c := [_]) rfl rfl) ?_
  refine rl_call rfl rfl (by decide) Tryz.call86 (vs := [_, _, _]) rfl Tryz.func86 rfl Tryz.ntmps86 rfl rfl ?_
  refine Cr ?_
  refine Ro rfl (ot_box rfl rfl (rfl : _ = [_, _, _, _, _, _])) ?_
  rintro _ _ ⟨b8, rfl, rfl⟩
  refine Kn3 0 2 4 rfl ?_
  refine ct_region ?_
  refine Rp rfl (pv_move rfl) ?_
  refine Rp rfl (pv_move rfl) ?_
  refine Rq rfl (oq_loadAgg (us := [_, _, _, _, _, _]) rfl rfl Tryz.isAgg36 Tryz.sizeOf36 Z0 (by rfl) (by rfl) (by rfl)) ?_
  refine Rp rfl (pv_move rfl) ?_
  refine Rp rfl (pv_nilCheck rfl) ?_
  refine Rp rfl (pv_fieldAddr (k := 0) rfl Tryz.runUnderlying133 rfl Tryz.sizeOf36 rfl rfl) ?_
  refine rl_op0 rfl rfl (ot_store rfl rfl rfl Tryz.sizeOf36 Z5 (rfl : _ = [_, _, _, _, _, _]) rfl (by rfl) (by rfl) (by first | rfl | assumption) (by exact (rfl : _ = [_, _, _, _, _, _, _, _, _, _, _, _, _]))) ?_
  rintro _ _ rfl
  refine Rp rfl (pv_nilCheck rfl) ?_
  refine Rp rfl (pv_fieldAddr (k := 6) rfl Tryz.runUnderlying133 rfl Tryz.sizeOf49 rfl rfl) ?_
  refine rl_op0 rfl rfl (ot_store rfl rfl rfl Tryz.sizeOf49 Z0 (rfl : _ = [_]) rfl (by rfl) (by rfl) (by first | rfl | assumption) (by exact (rfl : _ = [_, _, _, _, _, _, _, _, _, _, _, _, _]))) ?_
  rintro _ _ rfl
  refine rl_nil ?_
  refine fin_end (RVs.nil) Tryz.results86 ?_ Sees.refl
  refine rl_nil ?_
  refine fin_end (RVs.nil) Tryz.results127 ?_ Sees.refl
  refine pw_done ?_
  refine fin_end (RVs.nil) Tryz.results143 ?_ Sees.refl
  refine pw_done ?_
  refine fin_end (RVs.nil) Tryz.results146 ?_ Sees.refl
  refine rl_nil ?_
  refine fin_end (RVs.nil) Tryz.results159 ?_ Sees.refl
  refine rl_nil ?_
  refine fin_end (RVs.nil) Tryz.results68 ?_ Sees.refl
  refine pw_done ?_
  refine fin_end (RVs.nil) Tryz.results195 ⟨rfl, ?_⟩ Sees.refl
  rw [show sndStep s (.st_begin_2_1 p0 p1 p2 p3) a = (⟨s.rBase, s.rSize, s.typ, s.b, IntKind.u64.wrap (s.tail + p0), s.e⟩, .st_write_1 s.rBase p1 s.rBase (ior .u64 (IntKind.u64.wrap ((IntKind.u64.wrap (IntKind.u32.wrap s.typ)) * 4294967296)) (IntKind.u64.wrap (IntKind.u32.wrap (IntKind.i32.wrap (IntKind.i64.wrap (8 + (s.b.length : Int)))))))) from by
    show sndStep_st_begin_2_1 s p0 p1 p2 p3 a = _; unfold sndStep_st_begin_2_1; rfl]
  exact Sees.ex ({ fp1 := x.fp1, fc1 := x.fc1, a1 := b7, a2 := b4, a3 := b5, a4 := b6 } : SndX) (Sees.cons Z0 (Sees.cons Z1 (Sees.cons Z3 (Sees.cons Z2 (Sees.cons Z1 (Sees.cons Z8 (Sees.cons Z8 (Sees.skip (Sees.skip (Sees.skip (Sees.skip (Sees.skip (Sees.skip (Sees.skip (Sees.skip (Sees.refl))))))))))))))))
theorem sndTake_st_write_1_1_1 (ω : World) (b : Nat) (s : SndS) (p0 : Int) (p1 : Int) (p2 : Int) (hok : SndOk s) (a : Ans) (ha : inK .u64 a.v) (X : HP) (ap : Option Addr) (ac : Nat) (F : List HP) : Spec ω Tryz.prog 195 #[.pointer (some ⟨b, 0, none⟩), .agg #[.int .u64 a.v, .bool (a.d), .slice ap a.data.length ac]] (sndRep b s (.st_write_1_1_1 p0 p1 p2) :: X :: F) fun v' H' => v' = .tuple #[] ∧ Sees H' (sndRep b (sndStep s (.st_write_1_1_1 p0 p1 p2) a).1 (sndStep s (.st_write_1_1_1 p0 p1 p2) a).2 :: X :: F) := by
  refine Spec.ex fun x => ?_
  refine Spec.eqH (H1 := row b 0 [.int .i64 2, .int .i64 p1, .int .i64 8, .int .u64 p2, .int .u64 0, .slice none 0 0, .func (.func 159) #[] #[.pointer (some ⟨x.a1, 0, none⟩)], .int .i64 s.rBase, .int .i64 s.rSize, .int .i32 s.typ, .slice x.fp1 s.b.length x.fc1, .int .u64 s.tail, .int .i64 s.e] :: row x.a1 0 [.func (.func 166) #[] #[.pointer (some ⟨x.a2, 0, none⟩), .pointer (some ⟨x.a3, 0, none⟩)]] :: row x.a2 0 [.pointer (some ⟨b, 0, none⟩)] :: row x.a3 0 [.int .u64 p0] :: own 1 x.fp1 s.b.length x.fc1 (byteC s.b) :: X :: F) rfl ?_
  refine Spec.own Z4 fun hfc1 => ?_
  refine spec_of_body Tryz.func195 rfl Tryz.ntmps195 rfl ?_
  refine Cr ?_
  refine Ro rfl (ot_box rfl rfl (rfl : _ = [_, _, _])) ?_
  rintro _ _ ⟨b1, rfl, rfl⟩
  refine Kn2 0 3 rfl ?_
  refine Cr ?_
  refine Rp rfl (pv_move rfl) ?_
  refine Rp rfl (pv_neq rfl rfl Tryz.runUnderlying120 rfl) ?_
  refine Kn3 0 3 5 rfl ?_
  refine ct_true rfl ?_
  refine ct_planH [.q 0, .q 1, .q 2, .q 3, .b 4] mixed (by decide +kernel) ?_
  refine pw_q rfl rfl rfl rfl (oq_pv (pv_move rfl)) ?_
  refine pw_q rfl rfl rfl rfl (oq_pv (pv_nilCheck rfl)) ?_
  refine pw_q rfl rfl rfl rfl (oq_pv (pv_fieldAddr (k := 0) rfl Tryz.runUnderlying211 rfl Tryz.sizeOf133 rfl rfl)) ?_
  refine pw_q rfl rfl rfl rfl (oq_loadAgg (us := [_, _, _]) rfl rfl Tryz.isAgg31 Tryz.sizeOf31 Z0 (by rfl) (by rfl) (by rfl)) ?_
  refine pwb_call rfl rfl rfl rfl Tryz.call68 (vs := [_, _]) rfl Tryz.func68 rfl Tryz.ntmps68 rfl rfl ?_
  refine Cr ?_
  refine Ro rfl (ot_box rfl rfl (rfl : _ = [_, _, _])) ?_
  rintro _ _ ⟨b2, rfl, rfl⟩
  refine Kn2 0 3 rfl ?_
  refine ct_seq ?_
  refine Cr ?_
  refine Rp rfl (pv_move rfl) ?_
  refine Rp rfl (pv_eql rfl rfl Tryz.runUnderlying189 rfl) ?_
  refine Rp rfl (pv_move rfl) ?_
  refine Ru rfl (pv_move rfl) ?_
  refine Ru rfl (pv_nilCheck rfl) ?_
  refine Ru rfl (pv_fieldAddr (k := 6) rfl Tryz.runUnderlying133 rfl Tryz.sizeOf49 rfl rfl) ?_
  refine Rv rfl (oq_load rfl rfl Tryz.isAgg49 Z2 (by rfl) (by rfl)) ?_
  refine Ru rfl (pv_eql rfl rfl Tryz.runUnderlying49 rfl) ?_
  refine Rp rfl (pv_pick0 rfl rfl) ?_
  refine Kn3 0 3 13 rfl ?_
  refine ct_false rfl ?_
  refine ct_skip ?_
  refine Kx2 0 3 rfl ?_
  refine Cr ?_
  refine Rp rfl (pv_move rfl) ?_
  refine Rp rfl (pv_nilCheck rfl) ?_
  refine Rp rfl (pv_fieldAddr (k := 6) rfl Tryz.runUnderlying133 rfl Tryz.sizeOf49 rfl rfl) ?_
  refine Rq rfl (oq_load rfl rfl Tryz.isAgg49 Z2 (by rfl) (by rfl)) ?_
  refine Rp rfl (pv_assign rfl) ?_
  refine Kn3 0 3 4 rfl ?_
  refine Cr ?_
  refine Rp rfl (pv_move rfl) ?_
  refine Rp rfl (pv_move rfl) ?_
  refine Rp rfl (pv_build (ps := []) (cs := [_, _, _, _, _, _]) rfl Tryz.zeroValue36 Tryz.runUnderlying36 (.cons Tryz.sizeOf3 (.cons Tryz.sizeOf3 (.cons Tryz.sizeOf3 (.cons Tryz.sizeOf28 (.cons Tryz.sizeOf28 (.cons Tryz.sizeOf29 (.nil))))))) rfl) ?_
  refine Rp rfl (pv_nilCheck rfl) ?_
  refine Rp rfl (pv_fieldAddr (k := 0) rfl Tryz.runUnderlying133 rfl Tryz.sizeOf36 rfl rfl) ?_
  refine rl_op0 rfl rfl (ot_store rfl rfl rfl Tryz.sizeOf36 Z2 (rfl : _ = [_, _, _, _, _, _]) rfl (by rfl) (by rfl) (by first | rfl | assumption) (by exact (rfl : _ = [_, _, _, _, _, _, _, _, _, _, _, _, _]))) ?_
  rintro _ _ rfl
  refine Rp rfl (pv_nilCheck rfl) ?_
  refine Rp rfl (pv_fieldAddr (k := 6) rfl Tryz.runUnderlying133 rfl Tryz.sizeOf49 rfl rfl) ?_
  refine rl_op0 rfl rfl (ot_store rfl rfl rfl Tryz.sizeOf49 Z0 (rfl : _ = [_]) rfl (by rfl) (by rfl) (by first | rfl | assumption) (by exact (rfl : _ = [_, _, _, _, _, _, _, _, _, _, _, _, _]))) ?_
  rintro _ _ rfl
  refine Kn2 3 4 rfl ?_
  refine ct_region ?_
  refine Rp rfl (pv_move rfl) ?_
  refine Rq rfl (oq_loadAgg (us := [_, _, _]) rfl rfl Tryz.isAgg31 Tryz.sizeOf31 Z1 (by rfl) (by rfl) (by rfl)) ?_
  refine rl_callv (l := []) (cp := [_]) rfl rfl (by decide) rfl Tryz.call159 (vs := [_]) rfl Tryz.func159 rfl Tryz.ntmps159 rfl rfl ?_
  refine Cr ?_
  refine Ro rfl (ot_box rfl rfl (rfl : _ = [_, _, _])) ?_
  rintro _ _ ⟨b3, rfl, rfl⟩
  refine Kn1 1 rfl ?_
  refine ct_region ?_
  refine Rq rfl (oq_load rfl rfl Tryz.isAgg1 Z4 (by rfl) (by rfl)) ?_
  refine rl_callv (l := []) (cp := [_, _]) rfl rfl (by decide) rfl Tryz.call166 (vs := []) rfl Tryz.func166 rfl Tryz.ntmps166 rfl rfl ?_
  refine ct_planH [.q 0, .q 1, .q 2, .q 3, .q 6, .q 7, .q 8, .q 9, .q 10, .q 11, .q 12, .e 4, .q 5, .b 13] mixed (by decide +kernel) ?_
  refine pw_q rfl rfl rfl rfl (oq_load rfl rfl Tryz.isAgg120 Z5 (by rfl) (by rfl)) ?_
  refine pw_q rfl rfl rfl rfl (oq_pv (pv_nilCheck rfl)) ?_
  refine pw_q rfl rfl rfl rfl (oq_pv (pv_fieldAddr (k := 0) rfl Tryz.runUnderlying211 rfl Tryz.sizeOf133 rfl rfl)) ?_
  refine pw_q rfl rfl rfl rfl (oq_load rfl rfl Tryz.isAgg120 Z5 (by rfl) (by rfl)) ?_
  refine pw_q rfl rfl rfl rfl (oq_load rfl rfl Tryz.isAgg120 Z5 (by rfl) (by rfl)) ?_
  refine pw_q rfl rfl rfl rfl (oq_pv (pv_nilCheck rfl)) ?_
  refine pw_q rfl rfl rfl rfl (oq_pv (pv_fieldAddr (k := 11) rfl Tryz.runUnderlying211 rfl Tryz.sizeOf28 rfl rfl)) ?_
  refine pw_q rfl rfl rfl rfl (oq_load rfl rfl Tryz.isAgg28 Z1 (by rfl) (by rfl)) ?_
  refine pw_q rfl rfl rfl rfl (oq_load rfl rfl Tryz.isAgg28 Z6 (by rfl) (by rfl)) ?_
  refine pw_q rfl rfl rfl rfl (oq_pv (pv_bin rfl rfl rfl)) ?_
  refine pw_q rfl rfl rfl rfl (oq_pv (pv_makeFunc (l := []) (c := [_]) rfl rfl)) ?_
  refine pwe_call rfl rfl rfl rfl Tryz.call111 (vs := [_]) rfl Tryz.func111 rfl Tryz.ntmps111 rfl rfl ?_
  refine Cr ?_
  refine Rp rfl (pv_assign rfl) ?_
  refine Kn1 0 rfl ?_
  refine ct_seq ?_
  refine ct_planH [.q 0, .q 1, .q 2, .q 3, .q 4, .q 5, .q 6, .q 7, .q 8, .q 9, .q 10, .q 11] mixed (by decide +kernel) ?_
  refine pw_q rfl rfl rfl rfl (oq_pv (pv_move rfl)) ?_
  refine pw_q rfl rfl rfl rfl (oq_pv (pv_nilCheck rfl)) ?_
  refine pw_q rfl rfl rfl rfl (oq_pv (pv_fieldAddr (k := 7) rfl Tryz.runUnderlying211 rfl Tryz.sizeOf23 rfl rfl)) ?_
  refine pw_q rfl rfl rfl rfl (oq_pv (pv_fieldAddr (k := 7) rfl Tryz.runUnderlying23 rfl Tryz.sizeOf3 rfl rfl)) ?_
  refine pw_q rfl rfl rfl rfl (oq_load rfl rfl Tryz.isAgg3 Z1 (by rfl) (by rfl)) ?_
  refine pw_q rfl rfl rfl rfl (oq_pv (pv_move rfl)) ?_
  refine pw_q rfl rfl rfl rfl (oq_pv (pv_nilCheck rfl)) ?_
  refine pw_q rfl rfl rfl rfl (oq_pv (pv_fieldAddr (k := 7) rfl Tryz.runUnderlying211 rfl Tryz.sizeOf23 rfl rfl)) ?_
  refine pw_q rfl rfl rfl rfl (oq_pv (pv_fieldAddr (k := 8) rfl Tryz.runUnderlying23 rfl Tryz.sizeOf3 rfl rfl)) ?_
  refine pw_q rfl rfl rfl rfl (oq_load rfl rfl Tryz.isAgg3 Z1 (by rfl) (by rfl)) ?_
  refine pw_q rfl rfl rfl rfl (oq_pv (pv_bin rfl rfl rfl)) ?_
  refine pw_q rfl rfl rfl rfl (oq_pv (pv_assign rfl)) ?_
  refine pw_done ?_
  refine Kx1 2 rfl ?_
  refine ct_ret ?_
  refine fin_ret1 (RVs.tmp rfl (RVs.nil)) Tryz.results111 ?_ Sees.refl
  refine ⟨[], Sees.cons Z0 (Sees.cons Z0 (Sees.cons Z0 (Sees.cons Z0 (Sees.cons Z0 (Sees.cons Z0 (Sees.cons Z0 (Sees.cons Z0 (Sees.cons Z0 (Sees.refl))))))))), ?_⟩
  refine pw_q rfl rfl rfl rfl (oq_pv (pv_bin rfl rfl rfl)) ?_
  refine pwb_call rfl rfl rfl rfl Tryz.call127 (vs := [_, _, _, _, _]) rfl Tryz.func127 rfl Tryz.ntmps127 rfl rfl ?_
  refine Cr ?_
  refine Ro rfl (ot_box rfl rfl (rfl : _ = [_])) ?_
  rintro _ _ ⟨b4, rfl, rfl⟩
  refine Kn5 0 1 2 3 9 rfl ?_
  refine ct_region ?_
  refine Rp rfl (pv_move rfl) ?_
  refine Rp rfl (pv_move rfl) ?_
  refine Rp rfl (pv_move rfl) ?_
  refine Rp rfl (pv_move rfl) ?_
  refine Rp rfl (pv_build (ps := [(0, _), (1, _), (2, _), (3, _)]) (cs := [_, _, _, _, _, _]) rfl Tryz.zeroValue36 Tryz.runUnderlying36 (.cons Tryz.sizeOf3 (.cons Tryz.sizeOf3 (.cons Tryz.sizeOf3 (.cons Tryz.sizeOf28 (.cons Tryz.sizeOf28 (.cons Tryz.sizeOf29 (.nil))))))) rfl) ?_
  refine Rp rfl (pv_makeFunc (l := []) (c := [_]) rfl rfl) ?_
  refine rl_call rfl rfl (by decide) Tryz.call86 (vs := [_, _, _]) rfl Tryz.func86 rfl Tryz.ntmps86 rfl rfl ?_
  refine Cr ?_
  refine Ro rfl (ot_box rfl rfl (rfl : _ = [_, _, _, _, _, _])) ?_
  rintro _ _ ⟨b5, rfl, rfl⟩
  refine Kn3 0 2 4 rfl ?_
  refine ct_region ?_
  refine Rp rfl (pv_move rfl) ?_
  refine Rp rfl (pv_move rfl) ?_
  refine Rq rfl (oq_loadAgg (us := [_, _, _, _, _, _]) rfl rfl Tryz.isAgg36 Tryz.sizeOf36 Z0 (by rfl) (by rfl) (by rfl)) ?_
  refine Rp rfl (pv_move rfl) ?_
  refine Rp rfl (pv_nilCheck rfl) ?_
  refine Rp rfl (pv_fieldAddr (k := 0) rfl Tryz.runUnderlying133 rfl Tryz.sizeOf36 rfl rfl) ?_
  refine rl_op0 rfl rfl (ot_store rfl rfl rfl Tryz.sizeOf36 Z3 (rfl : _ = [_, _, _, _, _, _]) rfl (by rfl) (by rfl) (by first | rfl | assumption) (by exact (rfl : _ = [_, _, _, _, _, _, _, _, _, _, _, _, _]))) ?_
  rintro _ _ rfl
  refine Rp rfl (pv_nilCheck rfl) ?_
  refine Rp rfl (pv_fieldAddr (k := 6) rfl Tryz.runUnderlying133 rfl Tryz.sizeOf49 rfl rfl) ?_
  refine rl_op0 rfl rfl (ot_store rfl rfl rfl Tryz.sizeOf49 Z0 (rfl : _ = [_]) rfl (by rfl) (by rfl) (by first | rfl | assumption) (by exact (rfl : _ = [_, _, _, _, _, _, _, _, _, _, _, _, _]))) ?_
  rintro _ _ rfl
  refine rl_nil ?_
  refine fin_end (RVs.nil) Tryz.results86 ?_ Sees.refl
  refine rl_nil ?_
  refine fin_end (RVs.nil) Tryz.results127 ?_ Sees.refl
  refine pw_done ?_
  refine fin_end (RVs.nil) Tryz.results166 ?_ Sees.refl
  refine rl_nil ?_
  refine fin_end (RVs.nil) Tryz.results159 ?_ Sees.refl
  refine rl_nil ?_
  refine fin_end (RVs.nil) Tryz.results68 ?_ Sees.refl
  refine pw_done ?_
  refine fin_end (RVs.nil) Tryz.results195 ⟨rfl, ?_⟩ Sees.refl
  rw [show sndStep s (.st_write_1_1_1 p0 p1 p2) a = (⟨s.rBase, s.rSize, s.typ, s.b, s.tail, s.e⟩, .st_write_1_1_1_1 (IntKind.i64.wrap ((IntKind.i64.wrap (s.rBase + s.rSize)) + 8)) (IntKind.u64.wrap (s.tail + p0))) from by
    show sndStep_st_write_1_1_1 s p0 p1 p2 a = _; unfold sndStep_st_write_1_1_1; rfl]
  exact Sees.ex ({ fp1 := x.fp1, fc1 := x.fc1, a1 := b4, a2 := x.a2 } : SndX) (Sees.cons Z0 (Sees.cons Z1 (Sees.cons Z5 (Sees.cons Z6 (Sees.cons Z6 (Sees.skip (Sees.skip (Sees.skip (Sees.skip (Sees.skip (Sees.skip (Sees.refl))))))))))))
theorem sndTake_in_write_1_1 (ω : World) (b : Nat) (s : SndS) (p0 : Int) (p1 : List UInt8) (p2 : Int) (hok : SndOk s) (a : Ans) (ha : inK .u64 a.v) (X : HP) (ap : Option Addr) (ac : Nat) (F : List HP) : Spec ω Tryz.prog 195 #[.pointer (some ⟨b, 0, none⟩), .agg #[.int .u64 a.v, .bool (a.d), .slice ap a.data.length ac]] (sndRep b s (.in_write_1_1 p0 p1 p2) :: X :: F) fun v' H' => v' = .tuple #[] ∧ Sees H' (sndRep b (sndStep s (.in_write_1_1 p0 p1 p2) a).1 (sndStep s (.in_write_1_1 p0 p1 p2) a).2 :: X :: F) := by
  refine Spec.ex fun x => ?_
  refine Spec.eqH (H1 := row b 0 [.int .i64 6, .int .i64 p0, .int .i64 (chk p1.length : Int), .int .u64 0, .int .u64 0, .slice x.q (chk p1.length) (chk p1.length), .func (.func 158) #[] #[.pointer (some ⟨x.a1, 0, none⟩), .pointer (some ⟨x.a2, 0, none⟩), .pointer (some ⟨x.a3, 0, none⟩), .pointer (some ⟨x.a4, 0, none⟩), .pointer (some ⟨x.a5, 0, none⟩)], .int .i64 s.rBase, .int .i64 s.rSize, .int .i32 s.typ, .slice x.fp1 s.b.length x.fc1, .int .u64 s.tail, .int .i64 s.e] :: row x.a1 0 [.pointer (some ⟨b, 0, none⟩)] :: row x.a2 0 [.int .i64 p0] :: row x.a3 0 [.int .i64 (chk p1.length : Int)] :: row x.a4 0 [.slice x.q p1.length x.d] :: row x.a5 0 [.func (.func 165) #[] #[.pointer (some ⟨x.a6, 0, none⟩), .pointer (some ⟨x.a7, 0, none⟩)]] :: row x.a6 0 [.pointer (some ⟨b, 0, none⟩)] :: row x.a7 0 [.int .u64 p2] :: fact (Vw (own 1 x.fp1 s.b.length x.fc1 (byteC s.b)) x.q p1.length (byteC p1) ∧ 1 ≤ p1.length ∧ p1.length ≤ 131072 ∧ p1.length ≤ x.d) :: own 1 x.fp1 s.b.length x.fc1 (byteC s.b) :: X :: F) rfl ?_
  refine Spec.fact (p := Vw (own 1 x.fp1 s.b.length x.fc1 (byteC s.b)) x.q p1.length (byteC p1) ∧ 1 ≤ p1.length ∧ p1.length ≤ 131072 ∧ p1.length ≤ x.d) Z8 fun hf0 => ?_
  refine Spec.own Z9 fun hfc1 => ?_
  refine spec_of_body Tryz.func195 rfl Tryz.ntmps195 rfl ?_
  refine Cr ?_
  refine Ro rfl (ot_box rfl rfl (rfl : _ = [_, _, _])) ?_
  rintro _ _ ⟨b1, rfl, rfl⟩
  refine Kn2 0 3 rfl ?_
  refine Cr ?_
  refine Rp rfl (pv_move rfl) ?_
  refine Rp rfl (pv_neq rfl rfl Tryz.runUnderlying120 rfl) ?_
  refine Kn3 0 3 5 rfl ?_
  refine ct_true rfl ?_
  refine ct_planH [.q 0, .q 1, .q 2, .q 3, .b 4] mixed (by decide +kernel) ?_
  refine pw_q rfl rfl rfl rfl (oq_pv (pv_move rfl)) ?_
  refine pw_q rfl rfl rfl rfl (oq_pv (pv_nilCheck rfl)) ?_
  refine pw_q rfl rfl rfl rfl (oq_pv (pv_fieldAddr (k := 0) rfl Tryz.runUnderlying211 rfl Tryz.sizeOf133 rfl rfl)) ?_
  refine pw_q rfl rfl rfl rfl (oq_loadAgg (us := [_, _, _]) rfl rfl Tryz.isAgg31 Tryz.sizeOf31 Z0 (by rfl) (by rfl) (by rfl)) ?_
  refine pwb_call rfl rfl rfl rfl Tryz.call68 (vs := [_, _]) rfl Tryz.func68 rfl Tryz.ntmps68 rfl rfl ?_
  refine Cr ?_
  refine Ro rfl (ot_box rfl rfl (rfl : _ = [_, _, _])) ?_
  rintro _ _ ⟨b2, rfl, rfl⟩
  refine Kn2 0 3 rfl ?_
  refine ct_seq ?_
  refine Cr ?_
  refine Rp rfl (pv_move rfl) ?_
  refine Rp rfl (pv_eql rfl rfl Tryz.runUnderlying189 rfl) ?_
  refine Rp rfl (pv_move rfl) ?_
  refine Ru rfl (pv_move rfl) ?_
  refine Ru rfl (pv_nilCheck rfl) ?_
  refine Ru rfl (pv_fieldAddr (k := 6) rfl Tryz.runUnderlying133 rfl Tryz.sizeOf49 rfl rfl) ?_
  refine Rv rfl (oq_load rfl rfl Tryz.isAgg49 Z2 (by rfl) (by rfl)) ?_
  refine Ru rfl (pv_eql rfl rfl Tryz.runUnderlying49 rfl) ?_
  refine Rp rfl (pv_pick0 rfl rfl) ?_
  refine Kn3 0 3 13 rfl ?_
  refine ct_false rfl ?_
  refine ct_skip ?_
  refine Kx2 0 3 rfl ?_
  refine Cr ?_
  refine Rp rfl (pv_move rfl) ?_
  refine Rp rfl (pv_nilCheck rfl) ?_
  refine Rp rfl (pv_fieldAddr (k := 6) rfl Tryz.runUnderlying133 rfl Tryz.sizeOf49 rfl rfl) ?_
  refine Rq rfl (oq_load rfl rfl Tryz.isAgg49 Z2 (by rfl) (by rfl)) ?_
  refine Rp rfl (pv_assign rfl) ?_
  refine Kn3 0 3 4 rfl ?_
  refine Cr ?_
  refine Rp rfl (pv_move rfl) ?_
  refine Rp rfl (pv_move rfl) ?_
  refine Rp rfl (pv_build (ps := []) (cs := [_, _, _, _, _, _]) rfl Tryz.zeroValue36 Tryz.runUnderlying36 (.cons Tryz.sizeOf3 (.cons Tryz.sizeOf3 (.cons Tryz.sizeOf3 (.cons Tryz.sizeOf28 (.cons Tryz.sizeOf28 (.cons Tryz.sizeOf29 (.nil))))))) rfl) ?_
  refine Rp rfl (pv_nilCheck rfl) ?_
  refine Rp rfl (pv_fieldAddr (k := 0) rfl Tryz.runUnderlying133 rfl Tryz.sizeOf36 rfl rfl) ?_
  refine rl_op0 rfl rfl (ot_store rfl rfl rfl Tryz.sizeOf36 Z2 (rfl : _ = [_, _, _, _, _, _]) rfl (by rfl) (by rfl) (by first | rfl | assumption) (by exact (rfl : _ = [_, _, _, _, _, _, _, _, _, _, _, _, _]))) ?_
  rintro _ _ rfl
  refine Rp rfl (pv_nilCheck rfl) ?_
  refine Rp rfl (pv_fieldAddr (k := 6) rfl Tryz.runUnderlying133 rfl Tryz.sizeOf49 rfl rfl) ?_
  refine rl_op0 rfl rfl (ot_store rfl rfl rfl Tryz.sizeOf49 Z0 (rfl : _ = [_]) rfl (by rfl) (by rfl) (by first | rfl | assumption) (by exact (rfl : _ = [_, _, _, _, _, _, _, _, _, _, _, _, _]))) ?_
  rintro _ _ rfl
  refine Kn2 3 4 rfl ?_
  refine ct_region ?_
  refine Rp rfl (pv_move rfl) ?_
  refine Rq rfl (oq_loadAgg (us := [_, _, _]) rfl rfl Tryz.isAgg31 Tryz.sizeOf31 Z1 (by rfl) (by rfl) (by rfl)) ?_
  by_cases hz3 : p1.length - chk p1.length = 0
  · skip
    refine Ro rfl (ot_callv (l := []) (c := [_, _, _, _, _]) (vs := [_]) rfl rfl Tryz.call158 rfl (Sees.cons Z0 (Sees.cons Z4 (Sees.cons Z5 (Sees.cons Z4 (Sees.cons Z3 (Sees.cons Z2 (Sees.refl))))))) (in1_doneR (l := []) (cp := [.pointer (some ⟨x.a6, 0, none⟩), .pointer (some ⟨x.a7, 0, none⟩)]) hf0.2.2.1 hf0.2.2.2 hz3 Tryz.call165 (spec_of_list (vs := [_, _]) Tryz.func165 rfl Tryz.ntmps165 rfl ?_))) (fun _ _ h => h)
    refine ct_planH [.q 0, .q 1, .q 2, .q 3, .q 6, .q 7, .q 8, .q 9, .q 10, .e 4, .q 5, .b 11] mixed (by decide +kernel) ?_
    refine pw_q rfl rfl rfl rfl (oq_load rfl rfl Tryz.isAgg120 Z3 (by rfl) (by rfl)) ?_
    refine pw_q rfl rfl rfl rfl (oq_pv (pv_nilCheck rfl)) ?_
    refine pw_q rfl rfl rfl rfl (oq_pv (pv_fieldAddr (k := 0) rfl Tryz.runUnderlying211 rfl Tryz.sizeOf133 rfl rfl)) ?_
    refine pw_q rfl rfl rfl rfl (oq_load rfl rfl Tryz.isAgg120 Z3 (by rfl) (by rfl)) ?_
    refine pw_q rfl rfl rfl rfl (oq_load rfl rfl Tryz.isAgg120 Z3 (by rfl) (by rfl)) ?_
    refine pw_q rfl rfl rfl rfl (oq_pv (pv_nilCheck rfl)) ?_
    refine pw_q rfl rfl rfl rfl (oq_pv (pv_fieldAddr (k := 11) rfl Tryz.runUnderlying211 rfl Tryz.sizeOf28 rfl rfl)) ?_
    refine pw_q rfl rfl rfl rfl (oq_load rfl rfl Tryz.isAgg28 Z0 (by rfl) (by rfl)) ?_
    refine pw_q rfl rfl rfl rfl (oq_pv (pv_makeFunc (l := []) (c := [_, _]) rfl rfl)) ?_
    refine pwe_call rfl rfl rfl rfl Tryz.call111 (vs := [_]) rfl Tryz.func111 rfl Tryz.ntmps111 rfl rfl ?_
    refine Cr ?_
    refine Rp rfl (pv_assign rfl) ?_
    refine Kn1 0 rfl ?_
    refine ct_seq ?_
    refine ct_planH [.q 0, .q 1, .q 2, .q 3, .q 4, .q 5, .q 6, .q 7, .q 8, .q 9, .q 10, .q 11] mixed (by decide +kernel) ?_
    refine pw_q rfl rfl rfl rfl (oq_pv (pv_move rfl)) ?_
    refine pw_q rfl rfl rfl rfl (oq_pv (pv_nilCheck rfl)) ?_
    refine pw_q rfl rfl rfl rfl (oq_pv (pv_fieldAddr (k := 7) rfl Tryz.runUnderlying211 rfl Tryz.sizeOf23 rfl rfl)) ?_
    refine pw_q rfl rfl rfl rfl (oq_pv (pv_fieldAddr (k := 7) rfl Tryz.runUnderlying23 rfl Tryz.sizeOf3 rfl rfl)) ?_
    refine pw_q rfl rfl rfl rfl (oq_load rfl rfl Tryz.isAgg3 Z0 (by rfl) (by rfl)) ?_
    refine pw_q rfl rfl rfl rfl (oq_pv (pv_move rfl)) ?_
    refine pw_q rfl rfl rfl rfl (oq_pv (pv_nilCheck rfl)) ?_
    refine pw_q rfl rfl rfl rfl (oq_pv (pv_fieldAddr (k := 7) rfl Tryz.runUnderlying211 rfl Tryz.sizeOf23 rfl rfl)) ?_
    refine pw_q rfl rfl rfl rfl (oq_pv (pv_fieldAddr (k := 8) rfl Tryz.runUnderlying23 rfl Tryz.sizeOf3 rfl rfl)) ?_
    refine pw_q rfl rfl rfl rfl (oq_load rfl rfl Tryz.isAgg3 Z0 (by rfl) (by rfl)) ?_
    refine pw_q rfl rfl rfl rfl (oq_pv (pv_bin rfl rfl rfl)) ?_
    refine pw_q rfl rfl rfl rfl (oq_pv (pv_assign rfl)) ?_
    refine pw_done ?_
    refine Kx1 2 rfl ?_
    refine ct_ret ?_
    refine fin_ret1 (RVs.tmp rfl (RVs.nil)) Tryz.results111 ?_ Sees.refl
    refine ⟨[], Sees.cons Z0 (Sees.cons Z0 (Sees.cons Z0 (Sees.cons Z0 (Sees.cons Z0 (Sees.cons Z0 (Sees.cons Z0 (Sees.cons Z0 (Sees.refl)))))))), ?_⟩
    refine pw_q rfl rfl rfl rfl (oq_pv (pv_bin rfl rfl rfl)) ?_
    refine pwb_call rfl rfl rfl rfl Tryz.call127 (vs := [_, _, _, _, _]) rfl Tryz.func127 rfl Tryz.ntmps127 rfl rfl ?_
    refine Cr ?_
    refine Ro rfl (ot_box rfl rfl (rfl : _ = [_])) ?_
    rintro _ _ ⟨b4, rfl, rfl⟩
    refine Kn5 0 1 2 3 9 rfl ?_
    refine ct_region ?_
    refine Rp rfl (pv_move rfl) ?_
    refine Rp rfl (pv_move rfl) ?_
    refine Rp rfl (pv_move rfl) ?_
    refine Rp rfl (pv_move rfl) ?_
    refine Rp rfl (pv_build (ps := [(0, _), (1, _), (2, _), (3, _)]) (cs := [_, _, _, _, _, _]) rfl Tryz.zeroValue36 Tryz.runUnderlying36 (.cons Tryz.sizeOf3 (.cons Tryz.sizeOf3 (.cons Tryz.sizeOf3 (.cons Tryz.sizeOf28 (.cons Tryz.sizeOf28 (.cons Tryz.sizeOf29 (.nil))))))) rfl) ?_
    refine Rp rfl (pv_makeFunc (l := []) (c := [_]) rfl rfl) ?_
    refine rl_call rfl rfl (by decide) Tryz.call86 (vs := [_, _, _]) rfl Tryz.func86 rfl Tryz.ntmps86 rfl rfl ?_
    refine Cr ?_
    refine Ro rfl (ot_box rfl rfl (rfl : _ = [_, _, _, _, _, _])) ?_
    rintro _ _ ⟨b5, rfl, rfl⟩
    refine Kn3 0 2 4 rfl ?_
    refine ct_region ?_
    refine Rp rfl (pv_move rfl) ?_
    refine Rp rfl (pv_move rfl) ?_
    refine Rq rfl (oq_loadAgg (us := [_, _, _, _, _, _]) rfl rfl Tryz.isAgg36 Tryz.sizeOf36 Z0 (by rfl) (by rfl) (by rfl)) ?_
    refine Rp rfl (pv_move rfl) ?_
    refine Rp rfl (pv_nilCheck rfl) ?_
    refine Rp rfl (pv_fieldAddr (k := 0) rfl Tryz.runUnderlying133 rfl Tryz.sizeOf36 rfl rfl) ?_
    refine rl_op0 rfl rfl (ot_store rfl rfl rfl Tryz.sizeOf36 Z2 (rfl : _ = [_, _, _, _, _, _]) rfl (by rfl) (by rfl) (by first | rfl | assumption) (by exact (rfl : _ = [_, _, _, _, _, _, _, _, _, _, _, _, _]))) ?_
    rintro _ _ rfl
    refine Rp rfl (pv_nilCheck rfl) ?_
    refine Rp rfl (pv_fieldAddr (k := 6) rfl Tryz.runUnderlying133 rfl Tryz.sizeOf49 rfl rfl) ?_
    refine rl_op0 rfl rfl (ot_store rfl rfl rfl Tryz.sizeOf49 Z0 (rfl : _ = [_]) rfl (by rfl) (by rfl) (by first | rfl | assumption) (by exact (rfl : _ = [_, _, _, _, _, _, _, _, _, _, _, _, _]))) ?_
    rintro _ _ rfl
    refine rl_nil ?_
    refine fin_end (RVs.nil) Tryz.results86 ?_ Sees.refl
    refine rl_nil ?_
    refine fin_end (RVs.nil) Tryz.results127 ?_ Sees.refl
    refine pw_done ?_
    refine fin_end (RVs.nil) Tryz.results165 ⟨rfl, ?_⟩ Sees.refl
    refine rl_nil ?_
    refine fin_end (RVs.nil) Tryz.results68 ?_ Sees.refl
    refine pw_done ?_
    refine fin_end (RVs.nil) Tryz.results195 ⟨rfl, ?_⟩ Sees.refl
    rw [show sndStep s (.in_write_1_1 p0 p1 p2) a = (⟨s.rBase, s.rSize, s.typ, s.b, s.tail, s.e⟩, .st_write_1_1_1 p2 (IntKind.i64.wrap ((IntKind.i64.wrap (s.rBase + s.rSize)) + 16)) s.tail) from by
      show sndStep_in_write_1_1 s p0 p1 p2 a = _; unfold sndStep_in_write_1_1; rw [if_pos hz3]]
    exact Sees.ex ({ fp1 := x.fp1, fc1 := x.fc1, a1 := b4, a2 := x.a6, a3 := x.a7 } : SndX) (Sees.cons Z0 (Sees.cons Z1 (Sees.cons Z3 (Sees.cons Z3 (Sees.cons Z4 (Sees.cons Z4 (Sees.skip (Sees.skip (Sees.skip (Sees.skip (Sees.refl)))))))))))
  · skip
    refine Ro rfl (ot_callv (l := []) (c := [_, _, _, _, _]) (vs := [_]) rfl rfl Tryz.call158 rfl (Sees.cons Z0 (Sees.cons Z4 (Sees.cons Z5 (Sees.cons Z4 (Sees.cons Z3 (Sees.cons Z2 (Sees.refl))))))) (in1_moreR (lb := p1) (Nat.pos_of_ne_zero hz3) hf0.2.2.1 hf0.2.2.2)) ?_
    rintro _ _ ⟨b6, b7, b8, b9, b10, rfl, rfl⟩
    refine rl_nil ?_
    refine fin_end (RVs.nil) Tryz.results68 ?_ Sees.refl
    refine pw_done ?_
    refine fin_end (RVs.nil) Tryz.results195 ⟨rfl, ?_⟩ Sees.refl
    rw [show sndStep s (.in_write_1_1 p0 p1 p2) a = (⟨s.rBase, s.rSize, s.typ, s.b, s.tail, s.e⟩, .in_write_1_1 (IntKind.i64.wrap (p0 + (chk p1.length : Int))) (p1.drop (chk p1.length)) p2) from by
      show sndStep_in_write_1_1 s p0 p1 p2 a = _; unfold sndStep_in_write_1_1; rw [if_neg hz3]]
    exact Sees.ex ({ fp1 := x.fp1, fc1 := x.fc1, q := (cutp x.q (chk p1.length) x.d 1), d := x.d - chk p1.length, a1 := b6, a2 := b7, a3 := b10, a4 := b8, a5 := b9, a6 := x.a6, a7 := x.a7 } : SndX) (Sees.cons Z0 (Sees.cons Z4 (Sees.cons Z3 (Sees.cons Z0 (Sees.cons Z1 (Sees.cons Z0 (Sees.cons Z2 (Sees.cons Z2 (Sees.fact ⟨(vw_sufL hf0.1 hf0.2.2.2), (drop_pos hz3), (drop_le1 hf0.2.2.1), (drop_le2 hf0.2.2.2)⟩ (Sees.cons Z3 (Sees.cons Z3 (Sees.skip (Sees.skip (Sees.skip (Sees.refl)))))))))))))))
theorem sndTake_st_write_1_1_1_1 (ω : World) (b : Nat) (s : SndS) (p0 : Int) (p1 : Int) (hok : SndOk s) (a : Ans) (ha : inK .u64 a.v) (X : HP) (ap : Option Addr) (ac : Nat) (F : List HP) : Spec ω Tryz.prog 195 #[.pointer (some ⟨b, 0, none⟩), .agg #[.int .u64 a.v, .bool (a.d), .slice ap a.data.length ac]] (sndRep b s (.st_write_1_1_1_1 p0 p1) :: X :: F) fun v' H' => v' = .tuple #[] ∧ Sees H' (sndRep b (sndStep s (.st_write_1_1_1_1 p0 p1) a).1 (sndStep s (.st_write_1_1_1_1 p0 p1) a).2 :: X :: F) := by
  refine Spec.ex fun x => ?_
  refine Spec.eqH (H1 := row b 0 [.int .i64 2, .int .i64 p0, .int .i64 8, .int .u64 p1, .int .u64 0, .slice none 0 0, .func (.func 159) #[] #[.pointer (some ⟨x.a1, 0, none⟩)], .int .i64 s.rBase, .int .i64 s.rSize, .int .i32 s.typ, .slice x.fp1 s.b.length x.fc1, .int .u64 s.tail, .int .i64 s.e] :: row x.a1 0 [.func (.func 167) #[] #[.pointer (some ⟨x.a2, 0, none⟩)]] :: row x.a2 0 [.pointer (some ⟨b, 0, none⟩)] :: own 1 x.fp1 s.b.length x.fc1 (byteC s.b) :: X :: F) rfl ?_
  refine Spec.own Z3 fun hfc1 => ?_
  refine spec_of_body Tryz.func195 rfl Tryz.ntmps195 rfl ?_
  refine Cr ?_
  refine Ro rfl (ot_box rfl rfl (rfl : _ = [_, _, _])) ?_
  rintro _ _ ⟨b1, rfl, rfl⟩
  refine Kn2 0 3 rfl ?_
  refine Cr ?_
  refine Rp rfl (pv_move rfl) ?_
  refine Rp rfl (pv_neq rfl rfl Tryz.runUnderlying120 rfl) ?_
  refine Kn3 0 3 5 rfl ?_
  refine ct_true rfl ?_
  refine ct_planH [.q 0, .q 1, .q 2, .q 3, .b 4] mixed (by decide +kernel) ?_
  refine pw_q rfl rfl rfl rfl (oq_pv (pv_move rfl)) ?_
  refine pw_q rfl rfl rfl rfl (oq_pv (pv_nilCheck rfl)) ?_
  refine pw_q rfl rfl rfl rfl (oq_pv (pv_fieldAddr (k := 0) rfl Tryz.runUnderlying211 rfl Tryz.sizeOf133 rfl rfl)) ?_
  refine pw_q rfl rfl rfl rfl (oq_loadAgg (us := [_, _, _]) rfl rfl Tryz.isAgg31 Tryz.sizeOf31 Z0 (by rfl) (by rfl) (by rfl)) ?_
  refine pwb_call rfl rfl rfl rfl Tryz.call68 (vs := [_, _]) rfl Tryz.func68 rfl Tryz.ntmps68 rfl rfl ?_
  refine Cr ?_
  refine Ro rfl (ot_box rfl rfl (rfl : _ = [_, _, _])) ?_
  rintro _ _ ⟨b2, rfl, rfl⟩
  refine Kn2 0 3 rfl ?_
  refine ct_seq ?_
  refine Cr ?_
  refine Rp rfl (pv_move rfl) ?_
  refine Rp rfl (pv_eql rfl rfl Tryz.runUnderlying189 rfl) ?_
  refine Rp rfl (pv_move rfl) ?_
  refine Ru rfl (pv_move rfl) ?_
  refine Ru rfl (pv_nilCheck rfl) ?_
  refine Ru rfl (pv_fieldAddr (k := 6) rfl Tryz.runUnderlying133 rfl Tryz.sizeOf49 rfl rfl) ?_
  refine Rv rfl (oq_load rfl rfl Tryz.isAgg49 Z2 (by rfl) (by rfl)) ?_
  refine Ru rfl (pv_eql rfl rfl Tryz.runUnderlying49 rfl) ?_
  refine Rp rfl (pv_pick0 rfl rfl) ?_
  refine Kn3 0 3 13 rfl ?_
  refine ct_false rfl ?_
  refine ct_skip ?_
  refine Kx2 0 3 rfl ?_
  refine Cr ?_
  refine Rp rfl (pv_move rfl) ?_
  refine Rp rfl (pv_nilCheck rfl) ?_
  refine Rp rfl (pv_fieldAddr (k := 6) rfl Tryz.runUnderlying133 rfl Tryz.sizeOf49 rfl rfl) ?_
  refine Rq rfl (oq_load rfl rfl Tryz.isAgg49 Z2 (by rfl) (by rfl)) ?_
  refine Rp rfl (pv_assign rfl) ?_
  refine Kn3 0 3 4 rfl ?_
  refine Cr ?_
  refine Rp rfl (pv_move rfl) ?_
  refine Rp rfl (pv_move rfl) ?_
  refine Rp rfl (pv_build (ps := []) (cs := [_, _, _, _, _, _]) rfl Tryz.zeroValue36 Tryz.runUnderlying36 (.cons Tryz.sizeOf3 (.cons Tryz.sizeOf3 (.cons Tryz.sizeOf3 (.cons Tryz.sizeOf28 (.cons Tryz.sizeOf28 (.cons Tryz.sizeOf29 (.nil))))))) rfl) ?_
  refine Rp rfl (pv_nilCheck rfl) ?_
  refine Rp rfl (pv_fieldAddr (k := 0) rfl Tryz.runUnderlying133 rfl Tryz.sizeOf36 rfl rfl) ?_
  refine rl_op0 rfl rfl (ot_store rfl rfl rfl Tryz.sizeOf36 Z2 (rfl : _ = [_, _, _, _, _, _]) rfl (by rfl) (by rfl) (by first | rfl | assumption) (by exact (rfl : _ = [_, _, _, _, _, _, _, _, _, _, _, _, _]))) ?_
  rintro _ _ rfl
  refine Rp rfl (pv_nilCheck rfl) ?_
  refine Rp rfl (pv_fieldAddr (k := 6) rfl Tryz.runUnderlying133 rfl Tryz.sizeOf49 rfl rfl) ?_
  refine rl_op0 rfl rfl (ot_store rfl rfl rfl Tryz.sizeOf49 Z0 (rfl : _ = [_]) rfl (by rfl) (by rfl) (by first | rfl | assumption) (by exact (rfl : _ = [_, _, _, _, _, _, _, _, _, _, _, _, _]))) ?_
  rintro _ _ rfl
  refine Kn2 3 4 rfl ?_
  refine ct_region ?_
  refine Rp rfl (pv_move rfl) ?_
  refine Rq rfl (oq_loadAgg (us := [_, _, _]) rfl rfl Tryz.isAgg31 Tryz.sizeOf31 Z1 (by rfl) (by rfl) (by rfl)) ?_
  refine rl_callv (l := []) (cp := [_]) rfl rfl (by decide) rfl Tryz.call159 (vs := [_]) rfl Tryz.func159 rfl Tryz.ntmps159 rfl rfl ?_
  refine Cr ?_
  refine Ro rfl (ot_box rfl rfl (rfl : _ = [_, _, _])) ?_
  rintro _ _ ⟨b3, rfl, rfl⟩
  refine Kn1 1 rfl ?_
  refine ct_region ?_
  refine Rq rfl (oq_load rfl rfl Tryz.isAgg1 Z4 (by rfl) (by rfl)) ?_
  refine rl_callv (l := []) (cp := [_]) rfl rfl (by decide) rfl Tryz.call167 (vs := []) rfl Tryz.func167 rfl Tryz.ntmps167 rfl rfl ?_
  refine ct_region ?_
  refine Rq rfl (oq_load rfl rfl Tryz.isAgg120 Z5 (by rfl) (by rfl)) ?_
  refine Rp rfl (pv_nilCheck rfl) ?_
  refine Rp rfl (pv_fieldAddr (k := 12) rfl Tryz.runUnderlying211 rfl Tryz.sizeOf54 rfl rfl) ?_
  refine rl_op0 rfl rfl (ot_store rfl rfl rfl Tryz.sizeOf54 Z1 (rfl : _ = [_]) rfl (by rfl) (by rfl) (by first | rfl | assumption) (by exact (rfl : _ = [_, _, _, _, _, _, _, _, _, _, _, _, _]))) ?_
  rintro _ _ rfl
  refine rl_nil ?_
  refine fin_end (RVs.nil) Tryz.results167 ?_ Sees.refl
  refine rl_nil ?_
  refine fin_end (RVs.nil) Tryz.results159 ?_ Sees.refl
  refine rl_nil ?_
  refine fin_end (RVs.nil) Tryz.results68 ?_ Sees.refl
  refine pw_done ?_
  refine fin_end (RVs.nil) Tryz.results195 ⟨rfl, ?_⟩ Sees.refl
  rw [show sndStep s (.st_write_1_1_1_1 p0 p1) a = (⟨s.rBase, s.rSize, s.typ, s.b, s.tail, 0⟩, .fin) from by
    show sndStep_st_write_1_1_1_1 s p0 p1 a = _; unfold sndStep_st_write_1_1_1_1; rfl]
  exact Sees.ex ({ fp1 := x.fp1, fc1 := x.fc1 } : SndX) (Sees.cons Z0 (Sees.cons Z5 (Sees.cons Z5 (Sees.skip (Sees.skip (Sees.skip (Sees.skip (Sees.skip (Sees.refl)))))))))
theorem sndTake_spec (ω : World) (b : Nat) (s : SndS) (ph : SndPh) (hne : ph ≠ .fin) (hok : SndOk s) (a : Ans) (ha : inK .u64 a.v) (X : HP) (ap : Option Addr) (ac : Nat) (F : List HP) : Spec ω Tryz.prog 195 #[.pointer (some ⟨b, 0, none⟩), .agg #[.int .u64 a.v, .bool (a.d), .slice ap a.data.length ac]] (sndRep b s ph :: X :: F) fun v' H' => v' = .tuple #[] ∧ Sees H' (sndRep b (sndStep s ph a).1 (sndStep s ph a).2 :: X :: F) := by
  cases ph with
  | fin =>
    exact absurd rfl hne
  | ld_begin p0 => exact sndTake_ld_begin ω b s p0 hok a ha X ap ac F
  | st_begin_1 p0 p1 p2 p3 => exact sndTake_st_begin_1 ω b s p0 p1 p2 p3 hok a ha X ap ac F
  | st_begin_2 p0 p1 p2 p3 p4 => exact sndTake_st_begin_2 ω b s p0 p1 p2 p3 p4 hok a ha X ap ac F
  | st_write_1 p0 p1 p2 p3 => exact sndTake_st_write_1 ω b s p0 p1 p2 p3 hok a ha X ap ac F
  | st_begin_2_1 p0 p1 p2 p3 => exact sndTake_st_begin_2_1 ω b s p0 p1 p2 p3 hok a ha X ap ac F
  | st_write_1_1_1 p0 p1 p2 => exact sndTake_st_write_1_1_1 ω b s p0 p1 p2 hok a ha X ap ac F
  | in_write_1_1 p0 p1 p2 => exact sndTake_in_write_1_1 ω b s p0 p1 p2 hok a ha X ap ac F
  | st_write_1_1_1_1 p0 p1 => exact sndTake_st_write_1_1_1_1 ω b s p0 p1 hok a ha X ap ac F
end Go.Proofs.YtnjljfjncfbinaaGreat
