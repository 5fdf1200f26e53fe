/- Pieces of the code of functions, compiled for the symbolic interpreter, each checked against the program; no conditions. -/
import Derived.Test.YtaejdljgfmclpaaGreatH1
import Derived.Test.YtaejdljgfmclpaaGreatRows
import Derived.KernelRfl
import Derived.Test.YtaejdljgfmclpaaGreatSxDat
import Derived.Test.YtaejdljgfmclpaaGreatQ39
import Derived.Test.YtaejdljgfmclpaaGreatQ39
import Derived.Test.YtaejdljgfmclpaaGreatSxArg
import Derived.Test.YtaejdljgfmclpaaGreatN5
set_option linter.all false
set_option linter.unusedVariables false
set_option linter.unusedSimpArgs false
set_option linter.unnecessarySimpa false
namespace Go.Sx.Pr
open Go Go.Sx Go.Proofs
set_option maxRecDepth 100000
def K1172_1 : CC := .ret
def K1172_2 : CC := .reg false [⟨some 29, .mv (.t 5), none, 0⟩,
   ⟨some 30, .len (.t 29), none, 0⟩,
   ⟨some 31, .eq .int false (.t 30) (.c (.d (.v (.int .i64 16)))), none, 0⟩,
   ⟨some 32, .mv (.t 31), none, 0⟩,
   ⟨some 33, .mv (.t 5), some (32, true), 0⟩,
   ⟨some 34, .ixs 20 (.t 33) (.c (.d (.v (.int .i64 0)))), some (32, true), 0⟩,
   ⟨some 35, .fa 3 (.t 34), some (32, true), 0⟩,
   ⟨some 36, .ld 1 false (.t 35), some (32, true), 0⟩,
   ⟨some 37, .eq .int false (.t 36) (.c (.d (.v (.int .i64 1)))), some (32, true), 0⟩,
   ⟨some 38, .pick (.t 32) (.t 37) (.c (.d (.v (.bool false)))), none, 0⟩,
   ⟨some 39, .mv (.t 38), none, 0⟩,
   ⟨some 40, .mv (.t 5), some (39, true), 0⟩,
   ⟨some 41, .ixs 20 (.t 40) (.c (.d (.v (.int .i64 15)))), some (39, true), 0⟩,
   ⟨some 42, .fa 3 (.t 41), some (39, true), 0⟩,
   ⟨some 43, .ld 1 false (.t 42), some (39, true), 0⟩,
   ⟨some 44, .eq .int false (.t 43) (.c (.d (.v (.int .i64 4)))), some (39, true), 0⟩,
   ⟨some 45, .pick (.t 39) (.t 44) (.c (.d (.v (.bool false)))), none, 0⟩,
   ⟨some 46, .mv (.t 45), none, 0⟩,
   ⟨some 47, .mv (.t 5), some (46, true), 0⟩,
   ⟨some 48, .ixs 20 (.t 47) (.c (.d (.v (.int .i64 15)))), some (46, true), 0⟩,
   ⟨some 49, .fa 4 (.t 48), some (46, true), 0⟩,
   ⟨some 50, .fa 7 (.t 49), some (46, true), 0⟩,
   ⟨some 51, .ld 1 false (.t 50), some (46, true), 0⟩,
   ⟨some 52, .eq .int false (.t 51) (.c (.d (.v (.int .u64 65537)))), some (46, true), 0⟩,
   ⟨some 53, .pick (.t 46) (.t 52) (.c (.d (.v (.bool false)))), none, 0⟩,
   ⟨some 0, .mv (.t 53), none, 0⟩]
def K1172_3 : CC := .reg false [⟨some 27, .mv (.t 2), none, 0⟩,
   ⟨some 28, .call (.c (.fn (.func 10) [] [])) [.t 27], none, 0⟩,
   ⟨some 5, .mv (.t 28), none, 0⟩]
def L1172_4 : CC := .seq (.seq (.reg false [⟨some 21, .mv (.t 4), none, 0⟩,
   ⟨some 22, .bin .lss (.t 21) (.c (.d (.v (.int .i64 14)))), none, 0⟩])
 (.cond 22 (.skip)
   (.exit 0)))
 (.seq (.block 1 (.reg false [⟨some 25, .mv (.t 2), none, 0⟩,
     ⟨some 26, .call (.c (.fn (.func 11) [] [])) [.t 25, .c (.d (.v (.int .i64 0)))], none, 0⟩]))
 (.reg false [⟨some 23, .mv (.t 4), none, 0⟩,
   ⟨some 24, .bin .add (.t 23) (.c (.d (.v (.int .i64 1)))), none, 0⟩,
   ⟨some 4, .mv (.t 24), none, 0⟩]))
def K1172_5 : CC := .reg false [⟨some 4, .mv (.c (.d (.v (.int .i64 0)))), none, 0⟩]
def K1172_6 : CC := .seq (.reg false [⟨some 15, .mv (.t 3), none, 0⟩,
   ⟨some 16, .eq .int true (.t 15) (.c (.d (.v (.int .i64 0)))), none, 0⟩,
   ⟨some 17, .mv (.t 16), none, 0⟩,
   ⟨some 18, .mv (.t 2), some (17, false), 0⟩,
   ⟨some 19, .eq .ptr false (.t 18) (.c (.d (.v (.pointer none)))), some (17, false), 0⟩,
   ⟨some 20, .pick (.t 17) (.c (.d (.v (.bool true)))) (.t 19), none, 0⟩])
 (.cond 20 (.seq (.reg false [⟨some 0, .mv (.c (.d (.v (.bool false)))), none, 0⟩])
   (.ret))
   (.skip))
def K1172_7 : CC := .reg false [⟨some 8, .ld 8 true (.t 1), none, 0⟩,
   ⟨some 9, .bld [.d (.v (.int .i64 0)), .d (.v (.int .u64 0)), .d (.v (.int .u64 0)), .d (.v (.int .i64 0)), .d (.v (.bool false)), .d (.v (.int .i64 0)), .d (.v (.int .i64 0))] [(0, 1, .c (.d (.v (.int .i64 3)))), (2, 1, .c (.d (.v (.int .u64 7))))], none, 0⟩,
   ⟨some 10, .bsl 37 7 1 [.d (.v (.int .i64 0)), .d (.v (.int .u64 0)), .d (.v (.int .u64 0)), .d (.v (.int .i64 0)), .d (.v (.bool false)), .d (.v (.int .i64 0)), .d (.v (.int .i64 0))] [(0, 7, .t 9)], none, 0⟩,
   ⟨some 11, .bsl 45 1 1 [.d (.v (.slice none 0 0))] [(0, 1, .t 10)], none, 0⟩,
   ⟨some 12, .call (.c (.fn (.func 7) [] [])) [.t 8, .t 11], none, 0⟩,
   ⟨some 7, .mv (.t 12), none, 0⟩,
   ⟨some 13, .ext 0 (.t 7), none, 0⟩,
   ⟨some 14, .ext 1 (.t 7), none, 0⟩,
   ⟨some 2, .mv (.t 13), none, 0⟩,
   ⟨some 3, .mv (.t 14), none, 0⟩]
def K1172_8 : CC := .reg false [⟨some 6, .bld [.d (.v (.int .i64 0)), .d (.v (.int .i64 0)), .d (.v (.int .i64 0)), .d (.v (.int .i64 0)), .d (.v (.int .i64 0)), .d (.v (.int .i64 0)), .d (.v (.int .i64 0)), .d (.v (.int .u64 0))] [(0, 1, .c (.d (.v (.int .i64 1)))), (1, 1, .c (.d (.v (.int .i64 1)))), (2, 1, .c (.d (.v (.int .i64 1)))), (3, 1, .c (.d (.v (.int .i64 1)))), (4, 1, .c (.d (.v (.int .i64 1)))), (6, 1, .c (.d (.v (.int .i64 1)))), (7, 1, .c (.d (.v (.int .u64 1))))], none, 0⟩,
   ⟨some 1, .newc 24 [.d (.v (.int .i64 0)), .d (.v (.int .i64 0)), .d (.v (.int .i64 0)), .d (.v (.int .i64 0)), .d (.v (.int .i64 0)), .d (.v (.int .i64 0)), .d (.v (.int .i64 0)), .d (.v (.int .u64 0))], none, 0⟩,
   ⟨none, .st 8 (.t 1) (.t 6), none, 0⟩]
def K1172_9 : CC := .reg false [⟨some 0, .mv (.c (.d (.v (.bool false)))), none, 0⟩]
/-- coatcheck/coatchecklaw15.awake -/
def C1172 : CF := ⟨0, [(0, none)],
 .seq K1172_9 (.seq K1172_8 (.seq K1172_7 (.seq K1172_6 (.seq (.seq K1172_5 (.block 0 (.loop L1172_4))) (.seq K1172_3 (.seq K1172_2 K1172_1))))))⟩
theorem c1172 : coF Tryz.prog Tryz.f6 = some C1172 := by kernel_rfl
def A1172 : Ann := { keep := [0, 1, 2, 3, 4, 5, 20, 22], live := [(0, [2, 4])] }
def E1172 {Ω : Type} : Env Ω := econs 11 S1173 (econs 10 S1175 (econs 7 S1182c (enil)))
theorem e1172 : GoodE Tryz.prog E1172 := GoodE.cons g1173 (GoodE.cons g1175 (GoodE.cons g1182c (GoodE.nil)))
def Z1172_4 {Ω : Type} (it : Itr Ω) (K : SV → SH → Option Ω) : SE → SS → Option Ω := kblk 0 (kseq it E1172 A1172 (.seq K1172_3 (.seq K1172_2 K1172_1)) 0 (kfn C1172 K))
def S1172 {Ω : Type} : Spec Ω := conSpec [] FTrue
end Go.Sx.Pr

/- Events and operations as rows of data. -/
namespace Go.Sx.Pr
open Go Go.Sx Go.Sx.Md Go.Proofs
set_option maxRecDepth 100000
structure Op where
  (kind T X slab : Int)
  use : Bool
  (by_ nth : Int)
structure Ev where
  (tick who n kind : Int)
  op : Op
  (T ret : Int)
  read : List Int
  line : Int
  acc : Ac
def op0 : Op := ⟨0, 0, 0, 0, false, 0, 0⟩
def i64 (x : Int) : DV := .v (.int .i64 x)
def u64 (x : Int) : DV := .v (.int .u64 x)
def dEv (e : Ev) : List DV := [i64 e.tick, i64 e.who, i64 e.n, i64 e.kind, i64 e.op.kind, u64 e.op.T, u64 e.op.X, i64 e.op.slab, .v (.bool e.op.use), i64 e.op.by_, i64 e.op.nth, u64 e.T, i64 e.ret, bif e.kind == 4 then .ints .u64 e.read else .v (.slice none 0 0), i64 e.line,
  i64 e.acc.k, i64 e.acc.a, u64 e.acc.x, u64 e.acc.y, u64 e.acc.o]
def ev0 : Ev := ⟨0, 0, 0, 0, op0, 0, 0, [], 0, ac0⟩
end Go.Sx.Pr

/- law 15's awake: the picks of its run, one by one. -/
namespace Go.Sx.Pr
open Go Go.Sx Go.Sx.Md Go.Proofs
set_option maxRecDepth 100000
def evA : List Ev := [⟨1, 0, 0, 1, ⟨3, 0, 7, 0, false, 0, 0⟩, 0, 0, [], 0, ⟨0, 0, 0, 0, 0⟩⟩,
  ⟨2, 0, 0, 2, ⟨3, 0, 7, 0, false, 0, 0⟩, 0, 0, [], 1, ⟨1, 0, 0, 0, 2⟩⟩,
  ⟨3, 0, 0, 2, ⟨3, 0, 7, 0, false, 0, 0⟩, 0, 0, [], 2, ⟨2, 3, 5, 0, 0⟩⟩,
  ⟨4, 0, 0, 2, ⟨3, 0, 7, 0, false, 0, 0⟩, 0, 0, [], 3, ⟨1, 0, 0, 0, 2⟩⟩,
  ⟨5, 0, 0, 2, ⟨3, 0, 7, 0, false, 0, 0⟩, 0, 0, [], 10, ⟨1, 1, 0, 0, 0⟩⟩,
  ⟨6, 0, 0, 2, ⟨3, 0, 7, 0, false, 0, 0⟩, 0, 0, [], 33, ⟨1, 4, 0, 0, 0⟩⟩,
  ⟨7, 0, 0, 2, ⟨3, 0, 7, 0, false, 0, 0⟩, 0, 0, [], 34, ⟨3, 4, 0, 1, 0⟩⟩,
  ⟨8, 0, 0, 2, ⟨3, 0, 7, 0, false, 0, 0⟩, 0, 0, [], 50, ⟨2, 8, 7, 0, 0⟩⟩,
  ⟨9, 0, 0, 2, ⟨3, 0, 7, 0, false, 0, 0⟩, 0, 0, [], 20, ⟨1, 2, 0, 0, 1⟩⟩,
  ⟨10, 0, 0, 2, ⟨3, 0, 7, 0, false, 0, 0⟩, 0, 0, [], 21, ⟨1, 6, 0, 0, 0⟩⟩,
  ⟨11, 0, 0, 2, ⟨3, 0, 7, 0, false, 0, 0⟩, 0, 0, [], 22, ⟨3, 2, 1, 4294967296, 1⟩⟩,
  ⟨12, 0, 0, 2, ⟨3, 0, 7, 0, false, 0, 0⟩, 0, 0, [], 40, ⟨1, 5, 0, 0, 1048576⟩⟩,
  ⟨13, 0, 0, 2, ⟨3, 0, 7, 0, false, 0, 0⟩, 65537, 0, [], 41, ⟨2, 5, 1048593, 0, 1048576⟩⟩,
  ⟨13, 0, 0, 3, ⟨3, 0, 7, 0, false, 0, 0⟩, 65537, 0, [], 0, ⟨0, 0, 0, 0, 0⟩⟩,
  ⟨14, 0, 0, 2, ⟨3, 0, 7, 0, false, 0, 0⟩, 65537, 0, [], 90, ⟨2, 3, 4, 0, 5⟩⟩,
  ⟨14, 0, 0, 4, ⟨3, 0, 7, 0, false, 0, 0⟩, 65537, 0, [], 0, ⟨0, 0, 0, 0, 0⟩⟩]
def rwA : Nat → Nat → Nat → DV
  | 0 => fun _ _ => .v undef
  | k + 1 => catF k (rwA k) fun i j => lkD (dEv (evA.getD k ev0)) (i * 20 + j)
def hA15_0 : SH := [.cells 24 [I 1, I 1, I 1, I 1, I 1, I 0, I 1, U 1], .cells 37 [I 3, U 0, U 7, I 0, B false, I 0, I 0], .cells 45 [.cs 1 0 7 1 1], .dead, .dead, .dead, .dead, .dead, .dead, .dead, .rowi 22 .u64 [2, 0, 1, 0, 0, 1048576, 0, 0, 0], .cells 89 [I 1, I 1, I 1, I 1, I 1, I 0, I 1, U 1, I 0, I 0, U 0, U 0, U 0, .own 10], .cells 74 [I 0, I 0, U 0, U 0, I 0, B false, I 0, I 0, B false, U 0, .d (DV.v (Value.slice none 0 0)), U 0, .d (DV.v (Value.slice none 0 0)), U 0, .d (DV.v (Value.slice none 0 0)), U 0, .d (DV.v (Value.slice none 0 0)), .d (DV.v (Value.slice none 0 0)), I 0, I 0, I 0, I 0, I 0, U 0, U 0, U 0, U 0, U 0, I 0, .d (DV.v (Value.slice none 0 0)), U 0, I 0, B false, .own 15, I 0, .d (DV.v (Value.slice none 0 0))], .cells 71 [.ptr 11 0, .cs 12 0 36 1 1, .d (DV.v (Value.slice none 0 0)), I 0], .dead, .row 37 7 1 (catF 0 (fun i j => lkD [] (i * 7 + j)) fun i j => lkD [DV.v (Value.int .i64 3), DV.v (Value.int .u64 0), DV.v (Value.int .u64 7), DV.v (Value.int .i64 0), DV.v (Value.bool false), DV.v (Value.int .i64 0), DV.v (Value.int .i64 0)] (i * 7 + j))]
def hA15_1 : SH := [.cells 24 [I 1, I 1, I 1, I 1, I 1, I 0, I 1, U 1], .cells 37 [I 3, U 0, U 7, I 0, B false, I 0, I 0], .cells 45 [.cs 1 0 7 1 1], .dead, .dead, .dead, .dead, .dead, .dead, .dead, .rowi 22 .u64 [2, 0, 1, 0, 0, 1048576, 0, 0, 0], .cells 89 [I 1, I 1, I 1, I 1, I 1, I 0, I 1, U 1, I 0, I 0, U 0, U 0, U 0, .own 10], .cells 74 [I 1, I 3, U 0, U 7, I 0, B false, I 0, I 0, B false, U 0, .d (DV.v (Value.slice none 0 0)), U 0, .d (DV.v (Value.slice none 0 0)), U 0, .d (DV.v (Value.slice none 0 0)), U 0, .d (DV.v (Value.slice none 0 0)), .d (DV.v (Value.slice none 0 0)), I 0, I 0, I 0, I 0, I 0, U 0, U 0, U 0, U 0, U 0, I 0, .d (DV.v (Value.slice none 0 0)), U 0, I 0, B false, .own 15, I 1, .d (DV.v (Value.slice none 0 0))], .cells 71 [.ptr 11 0, .cs 12 0 36 1 1, .own 21, I 1], .dead, .row 37 7 1 (catF 0 (fun i j => lkD [] (i * 7 + j)) fun i j => lkD [DV.v (Value.int .i64 3), DV.v (Value.int .u64 0), DV.v (Value.int .u64 7), DV.v (Value.int .i64 0), DV.v (Value.bool false), DV.v (Value.int .i64 0), DV.v (Value.int .i64 0)] (i * 7 + j)), .dead, .dead, .dead, .dead, .dead, .row 44 20 1 (rwA 1)]
def hA15_2 : SH := [.cells 24 [I 1, I 1, I 1, I 1, I 1, I 0, I 1, U 1], .cells 37 [I 3, U 0, U 7, I 0, B false, I 0, I 0], .cells 45 [.cs 1 0 7 1 1], .dead, .dead, .dead, .dead, .dead, .dead, .dead, .rowi 22 .u64 [2, 0, 1, 0, 0, 1048576, 0, 0, 0], .cells 89 [I 1, I 1, I 1, I 1, I 1, I 0, I 1, U 1, I 1, I 0, U 0, U 0, U 2, .own 10], .cells 74 [I 2, I 3, U 0, U 7, I 0, B false, I 0, I 0, B false, U 2, .d (DV.v (Value.slice none 0 0)), U 0, .d (DV.v (Value.slice none 0 0)), U 0, .d (DV.v (Value.slice none 0 0)), U 0, .d (DV.v (Value.slice none 0 0)), .d (DV.v (Value.slice none 0 0)), I 0, I 0, I 0, I 0, I 0, U 0, U 0, U 0, U 0, U 0, I 0, .d (DV.v (Value.slice none 0 0)), U 0, I 0, B false, .own 15, I 1, .d (DV.v (Value.slice none 0 0))], .cells 71 [.ptr 11 0, .cs 12 0 36 1 1, .own 28, I 2], .dead, .row 37 7 1 (catF 0 (fun i j => lkD [] (i * 7 + j)) fun i j => lkD [DV.v (Value.int .i64 3), DV.v (Value.int .u64 0), DV.v (Value.int .u64 7), DV.v (Value.int .i64 0), DV.v (Value.bool false), DV.v (Value.int .i64 0), DV.v (Value.int .i64 0)] (i * 7 + j)), .dead, .dead, .dead, .dead, .dead, .dead, .dead, .dead, .dead, .dead, .dead, .dead, .row 44 20 2 (rwA 2)]
def hA15_3 : SH := [.cells 24 [I 1, I 1, I 1, I 1, I 1, I 0, I 1, U 1], .cells 37 [I 3, U 0, U 7, I 0, B false, I 0, I 0], .cells 45 [.cs 1 0 7 1 1], .dead, .dead, .dead, .dead, .dead, .dead, .dead, .rowi 22 .u64 [2, 0, 1, 5, 0, 1048576, 0, 0, 0], .cells 89 [I 1, I 1, I 1, I 1, I 1, I 0, I 1, U 1, I 2, I 3, U 5, U 0, U 0, .own 10], .cells 74 [I 3, I 3, U 0, U 7, I 0, B false, I 0, I 0, B false, U 2, .d (DV.v (Value.slice none 0 0)), U 0, .d (DV.v (Value.slice none 0 0)), U 0, .d (DV.v (Value.slice none 0 0)), U 0, .d (DV.v (Value.slice none 0 0)), .d (DV.v (Value.slice none 0 0)), I 0, I 0, I 0, I 0, I 0, U 0, U 0, U 0, U 0, U 0, I 0, .d (DV.v (Value.slice none 0 0)), U 0, I 0, B false, .own 15, I 1, .d (DV.v (Value.slice none 0 0))], .cells 71 [.ptr 11 0, .cs 12 0 36 1 1, .own 35, I 3], .dead, .row 37 7 1 (catF 0 (fun i j => lkD [] (i * 7 + j)) fun i j => lkD [DV.v (Value.int .i64 3), DV.v (Value.int .u64 0), DV.v (Value.int .u64 7), DV.v (Value.int .i64 0), DV.v (Value.bool false), DV.v (Value.int .i64 0), DV.v (Value.int .i64 0)] (i * 7 + j)), .dead, .dead, .dead, .dead, .dead, .dead, .dead, .dead, .dead, .dead, .dead, .dead, .dead, .dead, .dead, .dead, .dead, .dead, .dead, .row 44 20 3 (rwA 3)]
def hA15_4 : SH := [.cells 24 [I 1, I 1, I 1, I 1, I 1, I 0, I 1, U 1], .cells 37 [I 3, U 0, U 7, I 0, B false, I 0, I 0], .cells 45 [.cs 1 0 7 1 1], .dead, .dead, .dead, .dead, .dead, .dead, .dead, .rowi 22 .u64 [2, 0, 1, 5, 0, 1048576, 0, 0, 0], .cells 89 [I 1, I 1, I 1, I 1, I 1, I 0, I 1, U 1, I 1, I 0, U 0, U 0, U 2, .own 10], .cells 74 [I 10, I 3, U 0, U 7, I 0, B false, I 0, I 0, B false, U 2, .d (DV.v (Value.slice none 0 0)), U 0, .d (DV.v (Value.slice none 0 0)), U 0, .d (DV.v (Value.slice none 0 0)), U 0, .d (DV.v (Value.slice none 0 0)), .d (DV.v (Value.slice none 0 0)), I 0, I 0, I 0, I 0, I 0, U 0, U 0, U 0, U 0, U 0, I 0, .d (DV.v (Value.slice none 0 0)), U 0, I 0, B false, .own 15, I 1, .d (DV.v (Value.slice none 0 0))], .cells 71 [.ptr 11 0, .cs 12 0 36 1 1, .own 42, I 4], .dead, .row 37 7 1 (catF 0 (fun i j => lkD [] (i * 7 + j)) fun i j => lkD [DV.v (Value.int .i64 3), DV.v (Value.int .u64 0), DV.v (Value.int .u64 7), DV.v (Value.int .i64 0), DV.v (Value.bool false), DV.v (Value.int .i64 0), DV.v (Value.int .i64 0)] (i * 7 + j)), .dead, .dead, .dead, .dead, .dead, .dead, .dead, .dead, .dead, .dead, .dead, .dead, .dead, .dead, .dead, .dead, .dead, .dead, .dead, .dead, .dead, .dead, .dead, .dead, .dead, .dead, .row 44 20 4 (rwA 4)]
def hA15_5 : SH := [.cells 24 [I 1, I 1, I 1, I 1, I 1, I 0, I 1, U 1], .cells 37 [I 3, U 0, U 7, I 0, B false, I 0, I 0], .cells 45 [.cs 1 0 7 1 1], .dead, .dead, .dead, .dead, .dead, .dead, .dead, .rowi 22 .u64 [2, 0, 1, 5, 0, 1048576, 0, 0, 0], .cells 89 [I 1, I 1, I 1, I 1, I 1, I 0, I 1, U 1, I 1, I 1, U 0, U 0, U 0, .own 10], .cells 74 [I 33, I 3, U 0, U 7, I 0, B false, I 0, I 0, B false, U 2, .d (DV.v (Value.slice none 0 0)), U 0, .d (DV.v (Value.slice none 0 0)), U 0, .d (DV.v (Value.slice none 0 0)), U 0, .d (DV.v (Value.slice none 0 0)), .d (DV.v (Value.slice none 0 0)), I 0, I 0, I 0, I 0, I 0, U 0, U 0, U 0, U 0, U 0, I 0, .d (DV.v (Value.slice none 0 0)), U 0, I 0, B false, .own 15, I 1, .d (DV.v (Value.slice none 0 0))], .cells 71 [.ptr 11 0, .cs 12 0 36 1 1, .own 49, I 5], .dead, .row 37 7 1 (catF 0 (fun i j => lkD [] (i * 7 + j)) fun i j => lkD [DV.v (Value.int .i64 3), DV.v (Value.int .u64 0), DV.v (Value.int .u64 7), DV.v (Value.int .i64 0), DV.v (Value.bool false), DV.v (Value.int .i64 0), DV.v (Value.int .i64 0)] (i * 7 + j)), .dead, .dead, .dead, .dead, .dead, .dead, .dead, .dead, .dead, .dead, .dead, .dead, .dead, .dead, .dead, .dead, .dead, .dead, .dead, .dead, .dead, .dead, .dead, .dead, .dead, .dead, .dead, .dead, .dead, .dead, .dead, .dead, .dead, .row 44 20 5 (rwA 5)]
def hA15_6 : SH := [.cells 24 [I 1, I 1, I 1, I 1, I 1, I 0, I 1, U 1], .cells 37 [I 3, U 0, U 7, I 0, B false, I 0, I 0], .cells 45 [.cs 1 0 7 1 1], .dead, .dead, .dead, .dead, .dead, .dead, .dead, .rowi 22 .u64 [2, 0, 1, 5, 0, 1048576, 0, 0, 0], .cells 89 [I 1, I 1, I 1, I 1, I 1, I 0, I 1, U 1, I 1, I 4, U 0, U 0, U 0, .own 10], .cells 74 [I 34, I 3, U 0, U 7, I 0, B false, I 0, I 0, B false, U 2, .d (DV.v (Value.slice none 0 0)), U 0, .d (DV.v (Value.slice none 0 0)), U 0, .d (DV.v (Value.slice none 0 0)), U 0, .d (DV.v (Value.slice none 0 0)), .d (DV.v (Value.slice none 0 0)), I 0, I 0, I 0, I 0, I 0, U 0, U 0, U 0, U 0, U 0, I 0, .d (DV.v (Value.slice none 0 0)), U 0, I 0, B false, .own 15, I 1, .d (DV.v (Value.slice none 0 0))], .cells 71 [.ptr 11 0, .cs 12 0 36 1 1, .own 56, I 6], .dead, .row 37 7 1 (catF 0 (fun i j => lkD [] (i * 7 + j)) fun i j => lkD [DV.v (Value.int .i64 3), DV.v (Value.int .u64 0), DV.v (Value.int .u64 7), DV.v (Value.int .i64 0), DV.v (Value.bool false), DV.v (Value.int .i64 0), DV.v (Value.int .i64 0)] (i * 7 + j)), .dead, .dead, .dead, .dead, .dead, .dead, .dead, .dead, .dead, .dead, .dead, .dead, .dead, .dead, .dead, .dead, .dead, .dead, .dead, .dead, .dead, .dead, .dead, .dead, .dead, .dead, .dead, .dead, .dead, .dead, .dead, .dead, .dead, .dead, .dead, .dead, .dead, .dead, .dead, .dead, .row 44 20 6 (rwA 6)]
def hA15_7 : SH := [.cells 24 [I 1, I 1, I 1, I 1, I 1, I 0, I 1, U 1], .cells 37 [I 3, U 0, U 7, I 0, B false, I 0, I 0], .cells 45 [.cs 1 0 7 1 1], .dead, .dead, .dead, .dead, .dead, .dead, .dead, .rowi 22 .u64 [2, 0, 1, 5, 1, 1048576, 0, 0, 0], .cells 89 [I 1, I 1, I 1, I 1, I 1, I 0, I 1, U 1, I 3, I 4, U 0, U 1, U 0, .own 10], .cells 74 [I 50, I 3, U 0, U 7, I 0, B false, I 0, I 0, B false, U 2, .d (DV.v (Value.slice none 0 0)), U 0, .d (DV.v (Value.slice none 0 0)), U 0, .d (DV.v (Value.slice none 0 0)), U 0, .d (DV.v (Value.slice none 0 0)), .d (DV.v (Value.slice none 0 0)), I 1, I 0, I 0, I 0, I 0, U 0, U 0, U 0, U 0, U 0, I 0, .d (DV.v (Value.slice none 0 0)), U 0, I 0, B false, .own 15, I 1, .d (DV.v (Value.slice none 0 0))], .cells 71 [.ptr 11 0, .cs 12 0 36 1 1, .own 63, I 7], .dead, .row 37 7 1 (catF 0 (fun i j => lkD [] (i * 7 + j)) fun i j => lkD [DV.v (Value.int .i64 3), DV.v (Value.int .u64 0), DV.v (Value.int .u64 7), DV.v (Value.int .i64 0), DV.v (Value.bool false), DV.v (Value.int .i64 0), DV.v (Value.int .i64 0)] (i * 7 + j)), .dead, .dead, .dead, .dead, .dead, .dead, .dead, .dead, .dead, .dead, .dead, .dead, .dead, .dead, .dead, .dead, .dead, .dead, .dead, .dead, .dead, .dead, .dead, .dead, .dead, .dead, .dead, .dead, .dead, .dead, .dead, .dead, .dead, .dead, .dead, .dead, .dead, .dead, .dead, .dead, .dead, .dead, .dead, .dead, .dead, .dead, .dead, .row 44 20 7 (rwA 7)]
def hA15_8 : SH := [.cells 24 [I 1, I 1, I 1, I 1, I 1, I 0, I 1, U 1], .cells 37 [I 3, U 0, U 7, I 0, B false, I 0, I 0], .cells 45 [.cs 1 0 7 1 1], .dead, .dead, .dead, .dead, .dead, .dead, .dead, .rowi 22 .u64 [2, 0, 1, 5, 1, 1048576, 0, 0, 7], .cells 89 [I 1, I 1, I 1, I 1, I 1, I 0, I 1, U 1, I 2, I 8, U 7, U 0, U 0, .own 10], .cells 74 [I 20, I 3, U 0, U 7, I 0, B false, I 0, I 0, B false, U 2, .d (DV.v (Value.slice none 0 0)), U 0, .d (DV.v (Value.slice none 0 0)), U 0, .d (DV.v (Value.slice none 0 0)), U 0, .d (DV.v (Value.slice none 0 0)), .d (DV.v (Value.slice none 0 0)), I 1, I 0, I 0, I 0, I 0, U 0, U 0, U 0, U 0, U 0, I 1, .d (DV.v (Value.slice none 0 0)), U 0, I 0, B false, .own 15, I 1, .d (DV.v (Value.slice none 0 0))], .cells 71 [.ptr 11 0, .cs 12 0 36 1 1, .own 70, I 8], .dead, .row 37 7 1 (catF 0 (fun i j => lkD [] (i * 7 + j)) fun i j => lkD [DV.v (Value.int .i64 3), DV.v (Value.int .u64 0), DV.v (Value.int .u64 7), DV.v (Value.int .i64 0), DV.v (Value.bool false), DV.v (Value.int .i64 0), DV.v (Value.int .i64 0)] (i * 7 + j)), .dead, .dead, .dead, .dead, .dead, .dead, .dead, .dead, .dead, .dead, .dead, .dead, .dead, .dead, .dead, .dead, .dead, .dead, .dead, .dead, .dead, .dead, .dead, .dead, .dead, .dead, .dead, .dead, .dead, .dead, .dead, .dead, .dead, .dead, .dead, .dead, .dead, .dead, .dead, .dead, .dead, .dead, .dead, .dead, .dead, .dead, .dead, .dead, .dead, .dead, .dead, .dead, .dead, .dead, .row 44 20 8 (rwA 8)]
def hA15_9 : SH := [.cells 24 [I 1, I 1, I 1, I 1, I 1, I 0, I 1, U 1], .cells 37 [I 3, U 0, U 7, I 0, B false, I 0, I 0], .cells 45 [.cs 1 0 7 1 1], .dead, .dead, .dead, .dead, .dead, .dead, .dead, .rowi 22 .u64 [2, 0, 1, 5, 1, 1048576, 0, 0, 7], .cells 89 [I 1, I 1, I 1, I 1, I 1, I 0, I 1, U 1, I 1, I 2, U 0, U 0, U 1, .own 10], .cells 74 [I 21, I 3, U 0, U 7, I 0, B false, I 0, I 0, B false, U 2, .d (DV.v (Value.slice none 0 0)), U 0, .d (DV.v (Value.slice none 0 0)), U 0, .d (DV.v (Value.slice none 0 0)), U 0, .d (DV.v (Value.slice none 0 0)), .d (DV.v (Value.slice none 0 0)), I 1, I 0, I 0, I 0, I 0, U 1, U 0, U 1, U 0, U 0, I 1, .d (DV.v (Value.slice none 0 0)), U 0, I 0, B false, .own 15, I 1, .d (DV.v (Value.slice none 0 0))], .cells 71 [.ptr 11 0, .cs 12 0 36 1 1, .own 77, I 9], .dead, .row 37 7 1 (catF 0 (fun i j => lkD [] (i * 7 + j)) fun i j => lkD [DV.v (Value.int .i64 3), DV.v (Value.int .u64 0), DV.v (Value.int .u64 7), DV.v (Value.int .i64 0), DV.v (Value.bool false), DV.v (Value.int .i64 0), DV.v (Value.int .i64 0)] (i * 7 + j)), .dead, .dead, .dead, .dead, .dead, .dead, .dead, .dead, .dead, .dead, .dead, .dead, .dead, .dead, .dead, .dead, .dead, .dead, .dead, .dead, .dead, .dead, .dead, .dead, .dead, .dead, .dead, .dead, .dead, .dead, .dead, .dead, .dead, .dead, .dead, .dead, .dead, .dead, .dead, .dead, .dead, .dead, .dead, .dead, .dead, .dead, .dead, .dead, .dead, .dead, .dead, .dead, .dead, .dead, .dead, .dead, .dead, .dead, .dead, .dead, .dead, .row 44 20 9 (rwA 9)]
def hA15_10 : SH := [.cells 24 [I 1, I 1, I 1, I 1, I 1, I 0, I 1, U 1], .cells 37 [I 3, U 0, U 7, I 0, B false, I 0, I 0], .cells 45 [.cs 1 0 7 1 1], .dead, .dead, .dead, .dead, .dead, .dead, .dead, .rowi 22 .u64 [2, 0, 1, 5, 1, 1048576, 0, 0, 7], .cells 89 [I 1, I 1, I 1, I 1, I 1, I 0, I 1, U 1, I 1, I 6, U 0, U 0, U 0, .own 10], .cells 74 [I 22, I 3, U 0, U 7, I 0, B false, I 0, I 0, B false, U 2, .d (DV.v (Value.slice none 0 0)), U 0, .d (DV.v (Value.slice none 0 0)), U 0, .d (DV.v (Value.slice none 0 0)), U 0, .d (DV.v (Value.slice none 0 0)), .d (DV.v (Value.slice none 0 0)), I 1, I 0, I 0, I 0, I 0, U 1, U 0, U 1, U 0, U 0, I 1, .d (DV.v (Value.slice none 0 0)), U 0, I 0, B false, .own 15, I 1, .d (DV.v (Value.slice none 0 0))], .cells 71 [.ptr 11 0, .cs 12 0 36 1 1, .own 84, I 10], .dead, .row 37 7 1 (catF 0 (fun i j => lkD [] (i * 7 + j)) fun i j => lkD [DV.v (Value.int .i64 3), DV.v (Value.int .u64 0), DV.v (Value.int .u64 7), DV.v (Value.int .i64 0), DV.v (Value.bool false), DV.v (Value.int .i64 0), DV.v (Value.int .i64 0)] (i * 7 + j)), .dead, .dead, .dead, .dead, .dead, .dead, .dead, .dead, .dead, .dead, .dead, .dead, .dead, .dead, .dead, .dead, .dead, .dead, .dead, .dead, .dead, .dead, .dead, .dead, .dead, .dead, .dead, .dead, .dead, .dead, .dead, .dead, .dead, .dead, .dead, .dead, .dead, .dead, .dead, .dead, .dead, .dead, .dead, .dead, .dead, .dead, .dead, .dead, .dead, .dead, .dead, .dead, .dead, .dead, .dead, .dead, .dead, .dead, .dead, .dead, .dead, .dead, .dead, .dead, .dead, .dead, .dead, .dead, .row 44 20 10 (rwA 10)]
def hA15_11 : SH := [.cells 24 [I 1, I 1, I 1, I 1, I 1, I 0, I 1, U 1], .cells 37 [I 3, U 0, U 7, I 0, B false, I 0, I 0], .cells 45 [.cs 1 0 7 1 1], .dead, .dead, .dead, .dead, .dead, .dead, .dead, .rowi 22 .u64 [2, 0, 4294967296, 5, 1, 1048576, 0, 0, 7], .cells 89 [I 1, I 1, I 1, I 1, I 1, I 0, I 1, U 1, I 3, I 2, U 1, U 4294967296, U 1, .own 10], .cells 74 [I 40, I 3, U 0, U 7, I 0, B false, I 0, I 0, B false, U 2, .d (DV.v (Value.slice none 0 0)), U 0, .d (DV.v (Value.slice none 0 0)), U 0, .d (DV.v (Value.slice none 0 0)), U 0, .d (DV.v (Value.slice none 0 0)), .d (DV.v (Value.slice none 0 0)), I 1, I 0, I 1, I 0, I 0, U 1, U 0, U 1, U 0, U 0, I 1, .d (DV.v (Value.slice none 0 0)), U 0, I 0, B false, .own 15, I 1, .d (DV.v (Value.slice none 0 0))], .cells 71 [.ptr 11 0, .cs 12 0 36 1 1, .own 91, I 11], .dead, .row 37 7 1 (catF 0 (fun i j => lkD [] (i * 7 + j)) fun i j => lkD [DV.v (Value.int .i64 3), DV.v (Value.int .u64 0), DV.v (Value.int .u64 7), DV.v (Value.int .i64 0), DV.v (Value.bool false), DV.v (Value.int .i64 0), DV.v (Value.int .i64 0)] (i * 7 + j)), .dead, .dead, .dead, .dead, .dead, .dead, .dead, .dead, .dead, .dead, .dead, .dead, .dead, .dead, .dead, .dead, .dead, .dead, .dead, .dead, .dead, .dead, .dead, .dead, .dead, .dead, .dead, .dead, .dead, .dead, .dead, .dead, .dead, .dead, .dead, .dead, .dead, .dead, .dead, .dead, .dead, .dead, .dead, .dead, .dead, .dead, .dead, .dead, .dead, .dead, .dead, .dead, .dead, .dead, .dead, .dead, .dead, .dead, .dead, .dead, .dead, .dead, .dead, .dead, .dead, .dead, .dead, .dead, .dead, .dead, .dead, .dead, .dead, .dead, .dead, .row 44 20 11 (rwA 11)]
def hA15_12 : SH := [.cells 24 [I 1, I 1, I 1, I 1, I 1, I 0, I 1, U 1], .cells 37 [I 3, U 0, U 7, I 0, B false, I 0, I 0], .cells 45 [.cs 1 0 7 1 1], .dead, .dead, .dead, .dead, .dead, .dead, .dead, .rowi 22 .u64 [2, 0, 4294967296, 5, 1, 1048576, 0, 0, 7], .cells 89 [I 1, I 1, I 1, I 1, I 1, I 0, I 1, U 1, I 1, I 5, U 0, U 0, U 1048576, .own 10], .cells 74 [I 41, I 3, U 0, U 7, I 0, B false, I 0, I 0, B false, U 2, .d (DV.v (Value.slice none 0 0)), U 0, .d (DV.v (Value.slice none 0 0)), U 0, .d (DV.v (Value.slice none 0 0)), U 0, .d (DV.v (Value.slice none 0 0)), .d (DV.v (Value.slice none 0 0)), I 1, I 0, I 1, I 0, I 0, U 1, U 0, U 1, U 0, U 1, I 1, .d (DV.v (Value.slice none 0 0)), U 0, I 0, B false, .own 15, I 1, .d (DV.v (Value.slice none 0 0))], .cells 71 [.ptr 11 0, .cs 12 0 36 1 1, .own 98, I 12], .dead, .row 37 7 1 (catF 0 (fun i j => lkD [] (i * 7 + j)) fun i j => lkD [DV.v (Value.int .i64 3), DV.v (Value.int .u64 0), DV.v (Value.int .u64 7), DV.v (Value.int .i64 0), DV.v (Value.bool false), DV.v (Value.int .i64 0), DV.v (Value.int .i64 0)] (i * 7 + j)), .dead, .dead, .dead, .dead, .dead, .dead, .dead, .dead, .dead, .dead, .dead, .dead, .dead, .dead, .dead, .dead, .dead, .dead, .dead, .dead, .dead, .dead, .dead, .dead, .dead, .dead, .dead, .dead, .dead, .dead, .dead, .dead, .dead, .dead, .dead, .dead, .dead, .dead, .dead, .dead, .dead, .dead, .dead, .dead, .dead, .dead, .dead, .dead, .dead, .dead, .dead, .dead, .dead, .dead, .dead, .dead, .dead, .dead, .dead, .dead, .dead, .dead, .dead, .dead, .dead, .dead, .dead, .dead, .dead, .dead, .dead, .dead, .dead, .dead, .dead, .dead, .dead, .dead, .dead, .dead, .dead, .dead, .row 44 20 12 (rwA 12)]
def hA15_13 : SH := [.cells 24 [I 1, I 1, I 1, I 1, I 1, I 0, I 1, U 1], .cells 37 [I 3, U 0, U 7, I 0, B false, I 0, I 0], .cells 45 [.cs 1 0 7 1 1], .dead, .dead, .dead, .dead, .dead, .dead, .dead, .rowi 22 .u64 [2, 0, 4294967296, 5, 1, 1048593, 0, 0, 7], .cells 89 [I 1, I 1, I 1, I 1, I 1, I 0, I 1, U 1, I 2, I 5, U 1048593, U 0, U 1048576, .own 10], .cells 74 [I 90, I 3, U 0, U 7, I 0, B false, I 0, I 0, B false, U 2, .d (DV.v (Value.slice none 0 0)), U 0, .d (DV.v (Value.slice none 0 0)), U 0, .d (DV.v (Value.slice none 0 0)), U 0, .d (DV.v (Value.slice none 0 0)), .d (DV.v (Value.slice none 0 0)), I 0, I 0, I 0, I 0, I 0, U 1, U 0, U 1, U 0, U 1, I 1, .d (DV.v (Value.slice none 0 0)), U 65537, I 0, B false, .own 15, I 1, .d (DV.v (Value.slice none 0 0))], .cells 71 [.ptr 11 0, .cs 12 0 36 1 1, .own 110, I 13], .dead, .row 37 7 1 (catF 0 (fun i j => lkD [] (i * 7 + j)) fun i j => lkD [DV.v (Value.int .i64 3), DV.v (Value.int .u64 0), DV.v (Value.int .u64 7), DV.v (Value.int .i64 0), DV.v (Value.bool false), DV.v (Value.int .i64 0), DV.v (Value.int .i64 0)] (i * 7 + j)), .dead, .dead, .dead, .dead, .dead, .dead, .dead, .dead, .dead, .dead, .dead, .dead, .dead, .dead, .dead, .dead, .dead, .dead, .dead, .dead, .dead, .dead, .dead, .dead, .dead, .dead, .dead, .dead, .dead, .dead, .dead, .dead, .dead, .dead, .dead, .dead, .dead, .dead, .dead, .dead, .dead, .dead, .dead, .dead, .dead, .dead, .dead, .dead, .dead, .dead, .dead, .dead, .dead, .dead, .dead, .dead, .dead, .dead, .dead, .dead, .dead, .dead, .dead, .dead, .dead, .dead, .dead, .dead, .dead, .dead, .dead, .dead, .dead, .dead, .dead, .dead, .dead, .dead, .dead, .dead, .dead, .dead, .dead, .dead, .dead, .dead, .dead, .dead, .dead, .dead, .dead, .dead, .dead, .dead, .row 44 20 14 (rwA 14)]
def hA15_14 : SH := [.cells 24 [I 1, I 1, I 1, I 1, I 1, I 0, I 1, U 1], .cells 37 [I 3, U 0, U 7, I 0, B false, I 0, I 0], .cells 45 [.cs 1 0 7 1 1], .dead, .dead, .dead, .dead, .dead, .dead, .dead, .rowi 22 .u64 [2, 0, 4294967296, 4, 1, 1048593, 0, 0, 7], .cells 89 [I 1, I 1, I 1, I 1, I 1, I 0, I 1, U 1, I 2, I 3, U 4, U 0, U 5, .own 10], .cells 74 [I 0, I 3, U 0, U 7, I 0, B false, I 0, I 0, B false, U 2, .d (DV.v (Value.slice none 0 0)), U 0, .d (DV.v (Value.slice none 0 0)), U 0, .d (DV.v (Value.slice none 0 0)), U 0, .d (DV.v (Value.slice none 0 0)), .d (DV.v (Value.slice none 0 0)), I 0, I 0, I 0, I 0, I 0, U 1, U 0, U 1, U 0, U 1, I 1, .d (DV.v (Value.slice none 0 0)), U 65537, I 0, B false, .own 15, I 1, .own 119], .cells 71 [.ptr 11 0, .cs 12 0 36 1 1, .own 124, I 14], .dead, .row 37 7 1 (catF 0 (fun i j => lkD [] (i * 7 + j)) fun i j => lkD [DV.v (Value.int .i64 3), DV.v (Value.int .u64 0), DV.v (Value.int .u64 7), DV.v (Value.int .i64 0), DV.v (Value.bool false), DV.v (Value.int .i64 0), DV.v (Value.int .i64 0)] (i * 7 + j)), .dead, .dead, .dead, .dead, .dead, .dead, .dead, .dead, .dead, .dead, .dead, .dead, .dead, .dead, .dead, .dead, .dead, .dead, .dead, .dead, .dead, .dead, .dead, .dead, .dead, .dead, .dead, .dead, .dead, .dead, .dead, .dead, .dead, .dead, .dead, .dead, .dead, .dead, .dead, .dead, .dead, .dead, .dead, .dead, .dead, .dead, .dead, .dead, .dead, .dead, .dead, .dead, .dead, .dead, .dead, .dead, .dead, .dead, .dead, .dead, .dead, .dead, .dead, .dead, .dead, .dead, .dead, .dead, .dead, .dead, .dead, .dead, .dead, .dead, .dead, .dead, .dead, .dead, .dead, .dead, .dead, .dead, .dead, .dead, .dead, .dead, .dead, .dead, .dead, .dead, .dead, .dead, .dead, .dead, .dead, .dead, .dead, .dead, .dead, .dead, .dead, .dead, .dead, .rowi 22 .u64 [65537], .dead, .dead, .dead, .dead, .row 44 20 16 (rwA 16)]
end Go.Sx.Pr

/- law 15's awake: pick 0. -/
namespace Go.Sx.Pr
open Go Go.Sx Go.Sx.Md Go.Proofs
set_option maxRecDepth 100000
theorem ar15_0 {Ω : Type} (it : Itr Ω) (IT : SS → Option Ω) (K : SV → SH → Option Ω) : sxI it E1172 A1172 L1172_4 0 ⟨[(2, .ptr 13 0), (4, I 0)], hA15_0⟩ (kitV [2, 4] 16 IT (Z1172_4 it K)) = IT ⟨[(2, .ptr 13 0), (4, I 1)], hA15_1⟩ := by kernel_rfl
end Go.Sx.Pr

/- law 15's awake: pick 1. -/
namespace Go.Sx.Pr
open Go Go.Sx Go.Sx.Md Go.Proofs
set_option maxRecDepth 100000
theorem ar15_1 {Ω : Type} (it : Itr Ω) (IT : SS → Option Ω) (K : SV → SH → Option Ω) : sxI it E1172 A1172 L1172_4 0 ⟨[(2, .ptr 13 0), (4, I 1)], hA15_1⟩ (kitV [2, 4] 16 IT (Z1172_4 it K)) = IT ⟨[(2, .ptr 13 0), (4, I 2)], hA15_2⟩ := by kernel_rfl
end Go.Sx.Pr

/- law 15's awake: pick 2. -/
namespace Go.Sx.Pr
open Go Go.Sx Go.Sx.Md Go.Proofs
set_option maxRecDepth 100000
theorem ar15_2 {Ω : Type} (it : Itr Ω) (IT : SS → Option Ω) (K : SV → SH → Option Ω) : sxI it E1172 A1172 L1172_4 0 ⟨[(2, .ptr 13 0), (4, I 2)], hA15_2⟩ (kitV [2, 4] 16 IT (Z1172_4 it K)) = IT ⟨[(2, .ptr 13 0), (4, I 3)], hA15_3⟩ := by kernel_rfl
end Go.Sx.Pr

/- law 15's awake: pick 3. -/
namespace Go.Sx.Pr
open Go Go.Sx Go.Sx.Md Go.Proofs
set_option maxRecDepth 100000
theorem ar15_3 {Ω : Type} (it : Itr Ω) (IT : SS → Option Ω) (K : SV → SH → Option Ω) : sxI it E1172 A1172 L1172_4 0 ⟨[(2, .ptr 13 0), (4, I 3)], hA15_3⟩ (kitV [2, 4] 16 IT (Z1172_4 it K)) = IT ⟨[(2, .ptr 13 0), (4, I 4)], hA15_4⟩ := by kernel_rfl
end Go.Sx.Pr

/- law 15's awake: pick 4. -/
namespace Go.Sx.Pr
open Go Go.Sx Go.Sx.Md Go.Proofs
set_option maxRecDepth 100000
theorem ar15_4 {Ω : Type} (it : Itr Ω) (IT : SS → Option Ω) (K : SV → SH → Option Ω) : sxI it E1172 A1172 L1172_4 0 ⟨[(2, .ptr 13 0), (4, I 4)], hA15_4⟩ (kitV [2, 4] 16 IT (Z1172_4 it K)) = IT ⟨[(2, .ptr 13 0), (4, I 5)], hA15_5⟩ := by kernel_rfl
end Go.Sx.Pr

/- law 15's awake: pick 5. -/
namespace Go.Sx.Pr
open Go Go.Sx Go.Sx.Md Go.Proofs
set_option maxRecDepth 100000
theorem ar15_5 {Ω : Type} (it : Itr Ω) (IT : SS → Option Ω) (K : SV → SH → Option Ω) : sxI it E1172 A1172 L1172_4 0 ⟨[(2, .ptr 13 0), (4, I 5)], hA15_5⟩ (kitV [2, 4] 16 IT (Z1172_4 it K)) = IT ⟨[(2, .ptr 13 0), (4, I 6)], hA15_6⟩ := by kernel_rfl
end Go.Sx.Pr

/- law 15's awake: pick 6. -/
namespace Go.Sx.Pr
open Go Go.Sx Go.Sx.Md Go.Proofs
set_option maxRecDepth 100000
theorem ar15_6 {Ω : Type} (it : Itr Ω) (IT : SS → Option Ω) (K : SV → SH → Option Ω) : sxI it E1172 A1172 L1172_4 0 ⟨[(2, .ptr 13 0), (4, I 6)], hA15_6⟩ (kitV [2, 4] 16 IT (Z1172_4 it K)) = IT ⟨[(2, .ptr 13 0), (4, I 7)], hA15_7⟩ := by kernel_rfl
end Go.Sx.Pr

/- law 15's awake: pick 7. -/
namespace Go.Sx.Pr
open Go Go.Sx Go.Sx.Md Go.Proofs
set_option maxRecDepth 100000
theorem ar15_7 {Ω : Type} (it : Itr Ω) (IT : SS → Option Ω) (K : SV → SH → Option Ω) : sxI it E1172 A1172 L1172_4 0 ⟨[(2, .ptr 13 0), (4, I 7)], hA15_7⟩ (kitV [2, 4] 16 IT (Z1172_4 it K)) = IT ⟨[(2, .ptr 13 0), (4, I 8)], hA15_8⟩ := by kernel_rfl
end Go.Sx.Pr

/- law 15's awake: pick 8. -/
namespace Go.Sx.Pr
open Go Go.Sx Go.Sx.Md Go.Proofs
set_option maxRecDepth 100000
theorem ar15_8 {Ω : Type} (it : Itr Ω) (IT : SS → Option Ω) (K : SV → SH → Option Ω) : sxI it E1172 A1172 L1172_4 0 ⟨[(2, .ptr 13 0), (4, I 8)], hA15_8⟩ (kitV [2, 4] 16 IT (Z1172_4 it K)) = IT ⟨[(2, .ptr 13 0), (4, I 9)], hA15_9⟩ := by kernel_rfl
end Go.Sx.Pr

/- law 15's awake: pick 9. -/
namespace Go.Sx.Pr
open Go Go.Sx Go.Sx.Md Go.Proofs
set_option maxRecDepth 100000
theorem ar15_9 {Ω : Type} (it : Itr Ω) (IT : SS → Option Ω) (K : SV → SH → Option Ω) : sxI it E1172 A1172 L1172_4 0 ⟨[(2, .ptr 13 0), (4, I 9)], hA15_9⟩ (kitV [2, 4] 16 IT (Z1172_4 it K)) = IT ⟨[(2, .ptr 13 0), (4, I 10)], hA15_10⟩ := by kernel_rfl
end Go.Sx.Pr

/- law 15's awake: pick 10. -/
namespace Go.Sx.Pr
open Go Go.Sx Go.Sx.Md Go.Proofs
set_option maxRecDepth 100000
theorem ar15_10 {Ω : Type} (it : Itr Ω) (IT : SS → Option Ω) (K : SV → SH → Option Ω) : sxI it E1172 A1172 L1172_4 0 ⟨[(2, .ptr 13 0), (4, I 10)], hA15_10⟩ (kitV [2, 4] 16 IT (Z1172_4 it K)) = IT ⟨[(2, .ptr 13 0), (4, I 11)], hA15_11⟩ := by kernel_rfl
end Go.Sx.Pr

/- law 15's awake: pick 11. -/
namespace Go.Sx.Pr
open Go Go.Sx Go.Sx.Md Go.Proofs
set_option maxRecDepth 100000
theorem ar15_11 {Ω : Type} (it : Itr Ω) (IT : SS → Option Ω) (K : SV → SH → Option Ω) : sxI it E1172 A1172 L1172_4 0 ⟨[(2, .ptr 13 0), (4, I 11)], hA15_11⟩ (kitV [2, 4] 16 IT (Z1172_4 it K)) = IT ⟨[(2, .ptr 13 0), (4, I 12)], hA15_12⟩ := by kernel_rfl
end Go.Sx.Pr

/- law 15's awake: pick 12. -/
namespace Go.Sx.Pr
open Go Go.Sx Go.Sx.Md Go.Proofs
set_option maxRecDepth 100000
theorem ar15_12 {Ω : Type} (it : Itr Ω) (IT : SS → Option Ω) (K : SV → SH → Option Ω) : sxI it E1172 A1172 L1172_4 0 ⟨[(2, .ptr 13 0), (4, I 12)], hA15_12⟩ (kitV [2, 4] 16 IT (Z1172_4 it K)) = IT ⟨[(2, .ptr 13 0), (4, I 13)], hA15_13⟩ := by kernel_rfl
end Go.Sx.Pr

/- law 15's awake: pick 13. -/
namespace Go.Sx.Pr
open Go Go.Sx Go.Sx.Md Go.Proofs
set_option maxRecDepth 100000
theorem ar15_13 {Ω : Type} (it : Itr Ω) (IT : SS → Option Ω) (K : SV → SH → Option Ω) : sxI it E1172 A1172 L1172_4 0 ⟨[(2, .ptr 13 0), (4, I 13)], hA15_13⟩ (kitV [2, 4] 16 IT (Z1172_4 it K)) = IT ⟨[(2, .ptr 13 0), (4, I 14)], hA15_14⟩ := by kernel_rfl
end Go.Sx.Pr

/- law 15's awake answers true: its run, pick by pick. -/
namespace Go.Sx.Pr
open Go Go.Sx Go.Sx.Md Go.Proofs
set_option maxRecDepth 100000
section
variable {Ω : Type} {it : Itr Ω} {E : Env Ω} {A : Ann}
theorem aSeq (a b : CC) (n : Nat) (s : SS) (k : SE → SS → Option Ω) : sxI it E A (.seq a b) n s k = sxI it E A a n s (kseq it E A b n k) := id (Eq.refl _)
theorem aNrm (b : CC) (n : Nat) (s : SS) (k : SE → SS → Option Ω) : kseq it E A b n k .norm s = sxI it E A b n s k := id (Eq.refl _)
theorem aBlk (i : Nat) (a : CC) (n : Nat) (s : SS) (k : SE → SS → Option Ω) : sxI it E A (.block i a) n s k = sxI it E A a i s (kblk i k) := id (Eq.refl _)
theorem aLoop (a : CC) (n : Nat) (s : SS) (k : SE → SS → Option Ω) : sxI it E A (.loop a) n s k = it (A.at n) s.h.length (sxI it E A a n) (gc (A.at n) s.h.length s) k := id (Eq.refl _)
end
theorem kseqA' {Ω : Type} {it : Itr Ω} {E : Env Ω} {A : Ann} (a b : CC) (n : Nat) (k : SE → SS → Option Ω) : kseq it E A (.seq a b) n k = kseq it E A a n (kseq it E A b n k) := by
  funext e s; cases e <;> rfl
theorem aFn {Ω : Type} {it : Itr Ω} {E : Env Ω} {A : Ann} (f : CF) (h : SH) (k : SV → SH → Option Ω) (hp : f.np = 0) : sxFnI it E A f [] h k = sxI it E A f.code 0 ⟨[], h⟩ (kfn f k) := by
  unfold sxFnI
  rw [hp]
  rfl
/-- Rounds that are known, one after the other. -/
theorem chainI {Ω : Type} {lv : List Nat} {n0 T : Nat} {f : SS → (SE → SS → Option Ω) → Option Ω} {k : SE → SS → Option Ω} (S : Nat → SS) (hs : ∀ i, i < T → ∀ IT, f (S i) (kitV lv n0 IT k) = IT (S (i + 1))) :
    ∀ (r i N : Nat), i + r = T → iter lv n0 f (N + r) (S i) k = iter lv n0 f N (S T) k
  | 0, i, N, h => by
    obtain rfl : i = T := by omega
    rfl
  | r + 1, i, N, h => by
    rw [show N + (r + 1) = (N + r) + 1 from rfl, iter_succ, hs i (by omega)]
    exact chainI S hs r (i + 1) N (by omega)
def hA15 : Nat → SH
  | 0 => hA15_0
  | 1 => hA15_1
  | 2 => hA15_2
  | 3 => hA15_3
  | 4 => hA15_4
  | 5 => hA15_5
  | 6 => hA15_6
  | 7 => hA15_7
  | 8 => hA15_8
  | 9 => hA15_9
  | 10 => hA15_10
  | 11 => hA15_11
  | 12 => hA15_12
  | 13 => hA15_13
  | _ => hA15_14
theorem ap15_9 {Ω : Type} (it : Itr Ω) (KK : SE → SS → Option Ω) : sxI it E1172 A1172 K1172_9 0 ⟨[], []⟩ KK = KK .norm ⟨[(0, B false)], []⟩ := by kernel_rfl
theorem ap15_8 {Ω : Type} (KK : SE → SS → Option Ω) : sxI itB E1172 A1172 (.seq K1172_8 K1172_7) 0 ⟨[(0, B false)], []⟩ KK = KK .norm ⟨[(0, B false), (1, .ptr 0 0), (2, .ptr 13 0), (3, I 0)], hA15_0⟩ := by kernel_rfl
theorem ap15_6 {Ω : Type} (KK : SE → SS → Option Ω) : sxI itB E1172 A1172 (.seq K1172_6 K1172_5) 0 ⟨[(0, B false), (1, .ptr 0 0), (2, .ptr 13 0), (3, I 0)], hA15_0⟩ KK = KK .norm ⟨[(0, B false), (1, .ptr 0 0), (2, .ptr 13 0), (3, I 0), (4, I 0)], hA15_0⟩ := by kernel_rfl
theorem ap15_g : gc (A1172.at 0) hA15_0.length ⟨[(0, B false), (1, .ptr 0 0), (2, .ptr 13 0), (3, I 0), (4, I 0)], hA15_0⟩ = ⟨[(2, .ptr 13 0), (4, I 0)], hA15_0⟩ := by kernel_rfl
theorem ap15_e (IT : SS → Option SV) : sxI itB E1172 A1172 L1172_4 0 ⟨[(2, .ptr 13 0), (4, I 14)], hA15_14⟩ (kitV [2, 4] 16 IT (Z1172_4 itB fun r _ => some r)) = some (B true) := by kernel_rfl
end Go.Sx.Pr

/- law 15's awake answers true. -/
namespace Go.Sx.Pr
open Go Go.Sx Go.Sx.Md Go.Proofs
set_option maxRecDepth 100000
theorem aw15 : sxFn (E1172 (Ω := SV)) A1172 C1172 [] [] (fun r _ => some r) = some (B true) := by
  rw [← sxFnI_eq]
  rw [aFn _ _ _ rfl, show C1172.code = .seq K1172_9 (.seq K1172_8 (.seq K1172_7 (.seq K1172_6 (.seq (.seq K1172_5 (.block 0 (.loop L1172_4))) (.seq K1172_3 (.seq K1172_2 K1172_1)))))) from rfl]
  rw [aSeq, ap15_9, aNrm, aSeq]
  have e1 : ∀ (s : SS) (k : SE → SS → Option SV), sxI itB E1172 A1172 K1172_8 0 s (kseq itB E1172 A1172 (.seq K1172_7 (.seq K1172_6 (.seq (.seq K1172_5 (.block 0 (.loop L1172_4))) (.seq K1172_3 (.seq K1172_2 K1172_1))))) 0 k) = sxI itB E1172 A1172 (.seq K1172_8 K1172_7) 0 s (kseq itB E1172 A1172 (.seq K1172_6 (.seq (.seq K1172_5 (.block 0 (.loop L1172_4))) (.seq K1172_3 (.seq K1172_2 K1172_1)))) 0 k) := fun s k => by
    rw [aSeq, kseqA']
  rw [e1, ap15_8, aNrm, aSeq]
  have e2 : ∀ (s : SS) (k : SE → SS → Option SV), sxI itB E1172 A1172 K1172_6 0 s (kseq itB E1172 A1172 (.seq (.seq K1172_5 (.block 0 (.loop L1172_4))) (.seq K1172_3 (.seq K1172_2 K1172_1))) 0 k) = sxI itB E1172 A1172 (.seq K1172_6 K1172_5) 0 s (kseq itB E1172 A1172 (.block 0 (.loop L1172_4)) 0 (kseq itB E1172 A1172 (.seq K1172_3 (.seq K1172_2 K1172_1)) 0 k)) := fun s k => by
    rw [aSeq, kseqA', kseqA']
  rw [e2, ap15_6, aNrm, aBlk, aLoop, ap15_g, itB_def]
  obtain ⟨N, hN⟩ : ∃ N, big = (N + 1) + 14 := ⟨big - 15, by unfold big; omega⟩
  rw [hN]
  have hc := chainI (Ω := SV) (lv := A1172.at 0) (n0 := hA15_0.length) (T := 14) (f := sxI itB E1172 A1172 L1172_4 0) (k := Z1172_4 itB fun r _ => some r) (fun i => ⟨[(2, .ptr 13 0), (4, I i)], hA15 i⟩) (fun i hi IT => by
    match i, hi with
    | 0, _ => exact ar15_0 itB IT _
    | 1, _ => exact ar15_1 itB IT _
    | 2, _ => exact ar15_2 itB IT _
    | 3, _ => exact ar15_3 itB IT _
    | 4, _ => exact ar15_4 itB IT _
    | 5, _ => exact ar15_5 itB IT _
    | 6, _ => exact ar15_6 itB IT _
    | 7, _ => exact ar15_7 itB IT _
    | 8, _ => exact ar15_8 itB IT _
    | 9, _ => exact ar15_9 itB IT _
    | 10, _ => exact ar15_10 itB IT _
    | 11, _ => exact ar15_11 itB IT _
    | 12, _ => exact ar15_12 itB IT _
    | 13, _ => exact ar15_13 itB IT _
    | i + 14, h => omega) 14 0 (N + 1) rfl
  refine Eq.trans hc ?_
  rw [iter_succ]
  exact ap15_e _
theorem g1172 : Good1 Tryz.prog 6 S1172 := trueGood Tryz.func6 (by kernel_rfl) c1172 (A := A1172) e1172 mix aw15
end Go.Sx.Pr

/- Contracts whose argument, a struct, may hold rows of the caller's own, or literal slices of integers: these become data. -/
namespace Go.Sx

/-- As frz; literal slices of integers as well. -/
def frzC (h : SH) : SV → Option (SV × SH)
  | .cs l 0 1 n c => match hget h l with
    | .cells _ cs => match asInts .i64 cs with
      | some xs => bif Nat.beq n xs.length && Nat.ble n c then some (.d (.ints .i64 xs), h.set l .dead) else none
      | none => none
    | _ => none
  | x => frz h x
def frzCL (h : SH) : List SV → Option (List SV × SH)
  | [] => some ([], h)
  | x :: r => match frzC h x with
    | some (y, h1) => match frzCL h1 r with
      | some (ys, h2) => some (y :: ys, h2)
      | none => none
    | none => none
theorem frzC_sound {cx : Cx} {h h1 : SH} {w : World} (g : Gam cx h w) {x y : SV} {u : Value} (hx : SRep cx w x u) (hf : frzC h x = some (y, h1)) :
    ∃ cx1, Gam cx1 h1 w ∧ Grow0 cx w cx1 w ∧ SRep cx1 w y u := by
  unfold frzC at hf
  split at hf
  · rename_i l n c
    split at hf
    · rename_i t cs hgt
      split at hf
      · rename_i xs hxs
        obtain ⟨hb, hf⟩ := cond_some hf
        simp only [Option.some.injEq, Prod.mk.injEq] at hf
        obtain ⟨rfl, rfl⟩ := hf
        simp only [Bool.and_eq_true] at hb
        have hn := Nat.eq_of_beq_eq_true hb.1
        have hc := Nat.le_of_ble_eq_true hb.2
        have ho := g.obj l
        rw [hgt] at ho
        obtain ⟨t', c', hblk, hcs⟩ := ho
        have hv : liv cx h l := by simp [liv, hgt]
        have e := asInts_map hxs hcs
        subst e
        obtain ⟨hG, gr⟩ := g.kill hv
        simp only [SRep] at hx
        obtain ⟨_, rfl⟩ := hx
        refine ⟨_, hG, gr, ?_⟩
        simp only [SRep, DRep]
        refine ⟨_, _, by rw [hn], by omega, fun _ => ⟨cx.th l, 0, rfl, .inr rfl, fun i hi => ?_⟩⟩
        simp [World.cell?, ad, hblk, hi]
      · cases hf
    · cases hf
  · obtain ⟨cx1, g1, gr1, h1, _⟩ := frz_sound g hx hf
    exact ⟨cx1, g1, gr1, h1⟩
theorem frzCL_sound {w : World} : ∀ {xs ys : List SV} {h h1 : SH} {cx : Cx} {us : List Value}, Gam cx h w → SRepL cx w xs us → frzCL h xs = some (ys, h1) →
    ∃ cx1, Gam cx1 h1 w ∧ Grow0 cx w cx1 w ∧ SRepL cx1 w ys us
  | [], ys, h, h1, cx, us, g, hr, hf => by
    simp only [frzCL, Option.some.injEq, Prod.mk.injEq] at hf; obtain ⟨rfl, rfl⟩ := hf
    exact ⟨cx, g, Grow.refl _ _ _, hr⟩
  | x :: r, ys, h, h1, cx, u :: us, g, hr, hf => by
    simp only [frzCL] at hf
    simp only [SRepL] at hr
    split at hf
    · rename_i y h2 h3
      split at hf
      · rename_i zs h4 h5
        simp only [Option.some.injEq, Prod.mk.injEq] at hf; obtain ⟨rfl, rfl⟩ := hf
        obtain ⟨cx1, g1, gr1, hy⟩ := frzC_sound g hr.1 h3
        obtain ⟨cx2, g2, gr2, hz⟩ := frzCL_sound (h := h2) g1 (hr.2.grow gr1) h5
        refine ⟨cx2, g2, gr1.trans gr2, ?_⟩
        simp only [SRepL]; exact ⟨hy.grow gr2, hz⟩
      · simp at hf
    · simp at hf
  | _ :: _, _, _, _, _, [], _, hr, _ => by simp [SRepL] at hr
theorem set_keeps {h : SH} {l : Nat} {o : SO} {m : List Nat} (hl : l ∈ m) : Keeps m h (h.set l o) := by
  refine ⟨by simp, fun k hk hm => hget_set_ne fun e => ?_⟩
  subst e
  have : ∀ {m : List Nat}, k ∈ m → nmem k m = true := by
    intro m hm
    induction m with
    | nil => cases hm
    | cons x r ih =>
      simp only [nmem]
      cases e : Nat.beq x k with
      | true => rfl
      | false =>
        rcases List.mem_cons.1 hm with rfl | q
        · rw [Nat.beq_refl] at e; cases e
        · exact ih q
  rw [this hl] at hm; cases hm
theorem frzC_keeps {h h' : SH} {x y : SV} {m : List Nat} (hf : frzC h x = some (y, h')) (hm : ∀ l ∈ locsOf x, l ∈ m) : Keeps m h h' := by
  unfold frzC at hf
  split at hf
  · split at hf
    · split at hf
      · obtain ⟨_, hf⟩ := cond_some hf
        simp only [Option.some.injEq, Prod.mk.injEq] at hf
        obtain ⟨rfl, rfl⟩ := hf
        exact set_keeps (hm _ (by simp [locsOf]))
      · cases hf
    · cases hf
  · exact frz_keeps hf hm
theorem frzCL_keeps : ∀ {c ys : List SV} {h h' : SH} {m : List Nat}, frzCL h c = some (ys, h') → (∀ l ∈ c.flatMap locsOf, l ∈ m) → Keeps m h h'
  | [], ys, h, h', m, hf, hm => by
    simp only [frzCL, Option.some.injEq, Prod.mk.injEq] at hf; obtain ⟨rfl, rfl⟩ := hf
    exact Keeps.refl _ _
  | x :: r, ys, h, h', m, hf, hm => by
    simp only [frzCL] at hf
    split at hf
    · rename_i y h2 h3
      split at hf
      · rename_i zs h4 h5
        simp only [Option.some.injEq, Prod.mk.injEq] at hf; obtain ⟨rfl, rfl⟩ := hf
        simp only [List.flatMap_cons, List.mem_append] at hm
        exact (frzC_keeps h3 fun l hl => hm l (.inl hl)).trans (frzCL_keeps h5 fun l hl => hm l (.inr hl))
      · simp at hf
    · simp at hf

theorem nmem_app {l : Nat} : ∀ {a b : List Nat}, nmem l (a ++ b) = false → nmem l a = false ∧ nmem l b = false
  | [], b, h => ⟨rfl, h⟩
  | x :: a, b, h => by
    simp only [List.cons_append, nmem] at h ⊢
    cases e : Nat.beq x l with
    | true => rw [e] at h; cases h
    | false =>
      rw [e, cond_false] at h
      exact nmem_app h

end Go.Sx

/- A contract whose result, a struct, holds rows of its own, or literal slices of integers: these become data. -/
namespace Go.Sx

/-- The rows of the struct that S returns become data. -/
def frzRes {Ω : Type} (S : Spec Ω) : Spec Ω := fun args h k => S args h fun r m sc H => match r with
  | .agg c => match frzCL H c with
    | some (ys, H1) => k (.agg ys) (c.flatMap locsOf ++ m) sc H1
    | none => none
  | _ => none

theorem frzRes_good {P : Program} {g : Nat} {S : {Ω : Type} → Spec Ω} (hS : Good1 P g S) : Good1 P g (fun {Ω} => frzRes (S (Ω := Ω))) := by
  refine ⟨fun Ω => ⟨(hS.ok Ω).1, fun args h k out hs => ?_⟩, fun Ω Ω' args h k out hs => ?_⟩
  · unfold frzRes at hs
    obtain ⟨r, m, sc, h', hk, hK, hC⟩ := (hS.ok Ω).2 _ _ _ _ hs
    split at hk
    · rename_i c
      split at hk
      · rename_i ys H1 hf
        have k1 := frzCL_keeps (m := c.flatMap locsOf) hf (fun l hl => hl)
        refine ⟨_, _, sc, H1, hk, ⟨Nat.le_trans hK.1 k1.1, fun l hl hm => ?_⟩, fun cx w vals hg ha => ?_⟩
        · obtain ⟨m1, m2⟩ := nmem_app hm
          rw [k1.2 l (Nat.lt_of_lt_of_le hl hK.1) m1, hK.2 l hl m2]
        · refine (hC cx w vals hg ha).mono fun e w' ⟨v, cx', e1, e2, e3, e4⟩ => ?_
          simp only [SRep] at e3
          obtain ⟨q, rfl, hq⟩ := e3
          obtain ⟨cx1, g1, gr1, hy⟩ := frzCL_sound e4 hq hf
          refine ⟨_, cx1, e1, ?_, by simp only [SRep]; exact ⟨_, rfl, hy⟩, g1⟩
          exact e2.trans gr1.to
      · cases hk
    · cases hk
  · unfold frzRes at hs ⊢
    obtain ⟨r, m, sc, h', hk, hK⟩ := (hS.par Ω Ω') _ _ _ _ hs
    split at hk
    · split at hk
      · exact ⟨_, _, _, _, hk, fun k' => (hK _).trans (by simp only [*])⟩
      · cases hk
    · cases hk
end Go.Sx

namespace Go.Sx.Pr
open Go Go.Sx Go.Proofs
set_option maxRecDepth 100000
def K1170_1 : CC := .ret
def K1170_2 : CC := .reg true [⟨some 71, .mv (.t 6), none, 0⟩,
   ⟨some 72, .call (.c (.fn (.func 12) [] [])) [.t 71], none, 1⟩,
   ⟨some 73, .eq .int false (.t 72) (.c (.d (.v (.int .i64 1)))), none, 3⟩,
   ⟨some 74, .mv (.t 73), none, 7⟩,
   ⟨some 75, .mv (.t 6), some (74, true), 15⟩,
   ⟨some 76, .call (.c (.fn (.func 10) [] [])) [.t 75], some (74, true), 31⟩,
   ⟨some 77, .len (.t 76), some (74, true), 63⟩,
   ⟨some 78, .eq .int false (.t 77) (.c (.d (.v (.int .i64 0)))), some (74, true), 127⟩,
   ⟨some 79, .pick (.t 74) (.t 78) (.c (.d (.v (.bool false)))), none, 255⟩,
   ⟨some 80, .mv (.t 79), none, 511⟩,
   ⟨some 81, .mv (.t 6), some (80, true), 1023⟩,
   ⟨some 82, .mv (.t 1), some (80, true), 1023⟩,
   ⟨some 83, .call (.c (.fn (.func 13) [] [])) [.t 81, .t 82], some (80, true), 4095⟩,
   ⟨some 84, .eq .int false (.t 83) (.c (.d (.v (.int .i64 0)))), some (80, true), 8191⟩,
   ⟨some 85, .pick (.t 80) (.t 84) (.c (.d (.v (.bool false)))), none, 16383⟩,
   ⟨some 86, .mv (.t 85), none, 32767⟩,
   ⟨some 87, .mv (.t 6), some (86, true), 65535⟩,
   ⟨some 88, .mv (.t 1), some (86, true), 65535⟩,
   ⟨some 89, .call (.c (.fn (.func 15) [] [])) [.t 87, .t 88], some (86, true), 262143⟩,
   ⟨some 90, .len (.t 89), some (86, true), 524287⟩,
   ⟨some 91, .eq .int false (.t 90) (.c (.d (.v (.int .i64 0)))), some (86, true), 1048575⟩,
   ⟨some 92, .pick (.t 86) (.t 91) (.c (.d (.v (.bool false)))), none, 2097151⟩,
   ⟨some 93, .mv (.t 92), none, 4194303⟩,
   ⟨some 94, .mv (.t 6), some (93, true), 8388607⟩,
   ⟨some 95, .mv (.t 1), some (93, true), 8388607⟩,
   ⟨some 96, .call (.c (.fn (.func 17) [] [])) [.t 94, .t 95], some (93, true), 33554431⟩,
   ⟨some 97, .bld [.d (.v (.int .i64 0)), .d (.v (.int .i64 0)), .d (.v (.int .u64 0)), .d (.v (.int .u64 0)), .d (.v (.int .i64 0)), .d (.v (.bool false)), .d (.v (.int .i64 0)), .d (.v (.int .i64 0)), .d (.v (.bool false)), .d (.v (.int .u64 0)), .d (.v (.slice none 0 0)), .d (.v (.int .u64 0)), .d (.v (.slice none 0 0)), .d (.v (.int .u64 0)), .d (.v (.slice none 0 0)), .d (.v (.int .u64 0)), .d (.v (.slice none 0 0)), .d (.v (.slice none 0 0)), .d (.v (.int .i64 0)), .d (.v (.int .i64 0)), .d (.v (.int .i64 0)), .d (.v (.int .i64 0)), .d (.v (.int .i64 0)), .d (.v (.int .u64 0)), .d (.v (.int .u64 0)), .d (.v (.int .u64 0)), .d (.v (.int .u64 0)), .d (.v (.int .u64 0)), .d (.v (.int .i64 0)), .d (.v (.slice none 0 0)), .d (.v (.int .u64 0)), .d (.v (.int .i64 0)), .d (.v (.bool false))] [], some (93, true), 8388607⟩,
   ⟨some 98, .call (.c (.fn (.func 16) [] [])) [.t 96, .t 97], some (93, true), 134217727⟩,
   ⟨some 99, .pick (.t 93) (.t 98) (.c (.d (.v (.bool false)))), none, 268435455⟩,
   ⟨some 100, .mv (.t 99), none, 536870911⟩,
   ⟨some 101, .mv (.t 6), some (100, true), 1073741823⟩,
   ⟨some 102, .call (.c (.fn (.func 14) [] [])) [.t 101], some (100, true), 2147483647⟩,
   ⟨some 103, .ld 8 true (.t 2), some (100, true), 1073741823⟩,
   ⟨some 104, .call (.c (.fn (.func 20) [] [])) [.t 103], some (100, true), 8589934591⟩,
   ⟨some 105, .call (.c (.fn (.func 19) [] [])) [.t 102, .t 104], some (100, true), 17179869183⟩,
   ⟨some 106, .pick (.t 100) (.t 105) (.c (.d (.v (.bool false)))), none, 34359738367⟩,
   ⟨some 4, .mv (.t 106), none, 68719476735⟩]
def K1170_3 : CC := .reg false [⟨some 68, .mv (.t 6), none, 0⟩,
   ⟨some 69, .mv (.t 1), none, 0⟩,
   ⟨some 70, .call (.c (.fn (.func 11) [] [])) [.t 68, .t 69], none, 0⟩]
def K1170_4 : CC := .seq (.reg false [⟨some 59, .mv (.t 7), none, 0⟩,
   ⟨some 60, .eq .int true (.t 59) (.c (.d (.v (.int .i64 0)))), none, 0⟩,
   ⟨some 61, .mv (.t 60), none, 0⟩,
   ⟨some 62, .mv (.t 6), some (61, false), 0⟩,
   ⟨some 63, .eq .ptr false (.t 62) (.c (.d (.v (.pointer none)))), some (61, false), 0⟩,
   ⟨some 64, .pick (.t 61) (.c (.d (.v (.bool true)))) (.t 63), none, 0⟩])
 (.cond 64 (.seq (.reg false [⟨some 65, .ld 8 true (.t 2), none, 0⟩,
     ⟨some 66, .call (.c (.fn (.func 18) [] [])) [.t 65], none, 0⟩,
     ⟨some 67, .eq .int true (.t 66) (.c (.d (.v (.int .i64 0)))), none, 0⟩,
     ⟨some 4, .mv (.t 67), none, 0⟩])
   (.ret))
   (.skip))
def K1170_5 : CC := .reg false [⟨some 55, .ld 8 true (.t 2), none, 0⟩,
   ⟨some 56, .call (.c (.fn (.func 7) [] [])) [.t 55, .c (.d (.v (.slice none 0 0)))], none, 0⟩,
   ⟨some 54, .mv (.t 56), none, 0⟩,
   ⟨some 57, .ext 0 (.t 54), none, 0⟩,
   ⟨some 58, .ext 1 (.t 54), none, 0⟩,
   ⟨some 6, .mv (.t 57), none, 0⟩,
   ⟨some 7, .mv (.t 58), none, 0⟩]
def K1170_6 : CC := .cond 53 (.seq (.reg false [⟨some 4, .mv (.c (.d (.v (.bool false)))), none, 0⟩])
   (.ret))
   (.skip)
def K1170_7 : CC := .reg false [⟨some 18, .mv (.t 5), none, 0⟩,
   ⟨some 19, .call (.c (.fn (.func 10) [] [])) [.t 18], none, 0⟩,
   ⟨some 20, .len (.t 19), none, 0⟩,
   ⟨some 21, .eq .int true (.t 20) (.c (.d (.v (.int .i64 0)))), none, 0⟩,
   ⟨some 22, .mv (.t 21), none, 0⟩,
   ⟨some 23, .mv (.t 5), some (22, false), 0⟩,
   ⟨some 24, .call (.c (.fn (.func 12) [] [])) [.t 23], some (22, false), 0⟩,
   ⟨some 25, .eq .int true (.t 24) (.c (.d (.v (.int .i64 0)))), some (22, false), 0⟩,
   ⟨some 26, .pick (.t 22) (.c (.d (.v (.bool true)))) (.t 25), none, 0⟩,
   ⟨some 27, .mv (.t 26), none, 0⟩,
   ⟨some 28, .mv (.t 5), some (27, false), 0⟩,
   ⟨some 29, .mv (.t 1), some (27, false), 0⟩,
   ⟨some 30, .call (.c (.fn (.func 13) [] [])) [.t 28, .t 29], some (27, false), 0⟩,
   ⟨some 31, .eq .int true (.t 30) (.c (.d (.v (.int .i64 0)))), some (27, false), 0⟩,
   ⟨some 32, .pick (.t 27) (.c (.d (.v (.bool true)))) (.t 31), none, 0⟩,
   ⟨some 33, .mv (.t 32), none, 0⟩,
   ⟨some 34, .mv (.t 5), some (33, false), 0⟩,
   ⟨some 35, .call (.c (.fn (.func 14) [] [])) [.t 34], some (33, false), 0⟩,
   ⟨some 36, .len (.t 35), some (33, false), 0⟩,
   ⟨some 37, .eq .int true (.t 36) (.c (.d (.v (.int .i64 0)))), some (33, false), 0⟩,
   ⟨some 38, .pick (.t 33) (.c (.d (.v (.bool true)))) (.t 37), none, 0⟩,
   ⟨some 39, .mv (.t 38), none, 0⟩,
   ⟨some 40, .mv (.t 5), some (39, false), 0⟩,
   ⟨some 41, .mv (.t 1), some (39, false), 0⟩,
   ⟨some 42, .call (.c (.fn (.func 15) [] [])) [.t 40, .t 41], some (39, false), 0⟩,
   ⟨some 43, .len (.t 42), some (39, false), 0⟩,
   ⟨some 44, .eq .int true (.t 43) (.c (.d (.v (.int .i64 0)))), some (39, false), 0⟩,
   ⟨some 45, .pick (.t 39) (.c (.d (.v (.bool true)))) (.t 44), none, 0⟩,
   ⟨some 46, .mv (.t 45), none, 0⟩,
   ⟨some 47, .mv (.t 5), some (46, false), 0⟩,
   ⟨some 48, .mv (.t 1), some (46, false), 0⟩,
   ⟨some 49, .call (.c (.fn (.func 17) [] [])) [.t 47, .t 48], some (46, false), 0⟩,
   ⟨some 50, .bld [.d (.v (.int .i64 0)), .d (.v (.int .i64 0)), .d (.v (.int .u64 0)), .d (.v (.int .u64 0)), .d (.v (.int .i64 0)), .d (.v (.bool false)), .d (.v (.int .i64 0)), .d (.v (.int .i64 0)), .d (.v (.bool false)), .d (.v (.int .u64 0)), .d (.v (.slice none 0 0)), .d (.v (.int .u64 0)), .d (.v (.slice none 0 0)), .d (.v (.int .u64 0)), .d (.v (.slice none 0 0)), .d (.v (.int .u64 0)), .d (.v (.slice none 0 0)), .d (.v (.slice none 0 0)), .d (.v (.int .i64 0)), .d (.v (.int .i64 0)), .d (.v (.int .i64 0)), .d (.v (.int .i64 0)), .d (.v (.int .i64 0)), .d (.v (.int .u64 0)), .d (.v (.int .u64 0)), .d (.v (.int .u64 0)), .d (.v (.int .u64 0)), .d (.v (.int .u64 0)), .d (.v (.int .i64 0)), .d (.v (.slice none 0 0)), .d (.v (.int .u64 0)), .d (.v (.int .i64 0)), .d (.v (.bool false))] [], some (46, false), 0⟩,
   ⟨some 51, .call (.c (.fn (.func 16) [] [])) [.t 49, .t 50], some (46, false), 0⟩,
   ⟨some 52, .un .not (.t 51), some (46, false), 0⟩,
   ⟨some 53, .pick (.t 46) (.c (.d (.v (.bool true)))) (.t 52), none, 0⟩]
def K1170_8 : CC := .reg false [⟨some 13, .mv (.t 5), none, 0⟩,
   ⟨some 14, .mv (.t 1), none, 0⟩,
   ⟨some 15, .mv (.t 1), none, 0⟩,
   ⟨some 16, .bsl 3 1 2 [.d (.v (.int .i64 0))] [(0, 1, .t 14), (1, 1, .t 15)], none, 0⟩,
   ⟨some 17, .call (.c (.fn (.func 9) [] [])) [.t 13, .t 16], none, 0⟩]
def K1170_9 : CC := .reg false [⟨some 10, .mv (.t 5), none, 0⟩,
   ⟨some 11, .mv (.t 1), none, 0⟩,
   ⟨some 12, .call (.c (.fn (.func 11) [] [])) [.t 10, .t 11], none, 0⟩]
def K1170_10 : CC := .reg false [⟨some 5, .mv (.c (.d (.v (.pointer none)))), none, 0⟩]
def K1170_11 : CC := .seq (.reg false [⟨some 8, .call (.c (.fn (.func 6) [] [])) [], none, 0⟩,
   ⟨some 9, .un .not (.t 8), none, 0⟩])
 (.cond 9 (.seq (.reg false [⟨some 4, .mv (.c (.d (.v (.bool false)))), none, 0⟩])
   (.ret))
   (.skip))
def K1170_12 : CC := .reg false [⟨some 2, .box 24 8 (.t 0), none, 0⟩,
   ⟨some 4, .mv (.c (.d (.v (.bool false)))), none, 0⟩]
/-- coatcheck/coatchecklaw15.HallNone -/
def C1170 : CF := ⟨2, [(4, none)],
 .seq K1170_12 (.seq K1170_11 (.seq K1170_10 (.seq K1170_9 (.seq K1170_8 (.seq (.seq K1170_7 K1170_6) (.seq K1170_5 (.seq K1170_4 (.seq K1170_3 (.seq K1170_2 K1170_1)))))))))⟩
theorem c1170 : coF Tryz.prog Tryz.f4 = some C1170 := by kernel_rfl
def A1170 : Ann := { keep := [0, 1, 2, 4, 5, 6, 7, 9, 53, 64], live := [] }
def S1181f {Ω : Type} : Spec Ω := frzRes S1181
theorem g1181f : Good1 Tryz.prog 17 S1181f := frzRes_good g1181
def E1170 {Ω : Type} : Env Ω := econs 6 S1172 (econs 7 S1182c (econs 9 S1174 (econs 10 S1175 (econs 11 S1173 (econs 12 S1176 (econs 13 S1177 (econs 14 S1178 (econs 15 S1179 (econs 16 S1180 (econs 17 S1181f (econs 18 S19 (econs 19 S32 (econs 20 S35 (enil))))))))))))))
theorem e1170 : GoodE Tryz.prog E1170 := GoodE.cons g1172 (GoodE.cons g1182c (GoodE.cons g1174 (GoodE.cons g1175 (GoodE.cons g1173 (GoodE.cons g1176 (GoodE.cons g1177 (GoodE.cons g1178 (GoodE.cons g1179 (GoodE.cons g1180 (GoodE.cons g1181f (GoodE.cons g19 (GoodE.cons g32 (GoodE.cons g35 (GoodE.nil))))))))))))))
end Go.Sx.Pr
