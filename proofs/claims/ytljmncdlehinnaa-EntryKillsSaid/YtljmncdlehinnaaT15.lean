/- Pieces of the code of functions, compiled for the symbolic interpreter, each checked against the program; no conditions. -/
import Derived.Test.YtljmncdlehinnaaQ4b
import Derived.Test.YtljmncdlehinnaaR15
import Derived.Test.YtljmncdlehinnaaRows
import Derived.KernelRfl
import Derived.Test.YtljmncdlehinnaaR14
import Derived.Test.YtljmncdlehinnaaR14
import Derived.Test.YtljmncdlehinnaaQ4b
import Derived.Test.YtljmncdlehinnaaR10
set_option linter.all false
set_option linter.unusedVariables false
set_option linter.unusedSimpArgs false
set_option linter.unnecessarySimpa false
namespace Go.Sx.Pr
open Go Go.Sx Go.Proofs
set_option maxRecDepth 100000
def K1033_1 : CC := .seq (.reg false [⟨some 12, .ld 8 true (.t 2), none, 0⟩,
   ⟨some 13, .call (.c (.fn (.func 88) [] [])) [.t 12], none, 0⟩,
   ⟨some 14, .eq .int false (.t 13) (.c (.d (.v (.int .i64 0)))), none, 0⟩,
   ⟨some 15, .mv (.t 14), none, 0⟩,
   ⟨some 16, .mv (.t 5), some (15, true), 0⟩,
   ⟨some 17, .bin .geq (.t 16) (.c (.d (.v (.int .i64 0)))), some (15, true), 0⟩,
   ⟨some 18, .pick (.t 15) (.t 17) (.c (.d (.v (.bool false)))), none, 0⟩,
   ⟨some 19, .mv (.t 18), none, 0⟩,
   ⟨some 20, .mv (.t 5), some (19, true), 0⟩,
   ⟨some 21, .fa 4 (.t 2), some (19, true), 0⟩,
   ⟨some 22, .ld 1 false (.t 21), some (19, true), 0⟩,
   ⟨some 23, .bin .lss (.t 20) (.t 22), some (19, true), 0⟩,
   ⟨some 24, .pick (.t 19) (.t 23) (.c (.d (.v (.bool false)))), none, 0⟩,
   ⟨some 25, .mv (.t 24), none, 0⟩,
   ⟨some 26, .mv (.t 6), some (25, true), 0⟩,
   ⟨some 27, .bin .geq (.t 26) (.c (.d (.v (.int .u64 1)))), some (25, true), 0⟩,
   ⟨some 28, .pick (.t 25) (.t 27) (.c (.d (.v (.bool false)))), none, 0⟩,
   ⟨some 29, .mv (.t 28), none, 0⟩,
   ⟨some 30, .mv (.t 6), some (29, true), 0⟩,
   ⟨some 31, .fa 7 (.t 2), some (29, true), 0⟩,
   ⟨some 32, .ld 1 false (.t 31), some (29, true), 0⟩,
   ⟨some 33, .bin .leq (.t 30) (.t 32), some (29, true), 0⟩,
   ⟨some 34, .pick (.t 29) (.t 33) (.c (.d (.v (.bool false)))), none, 0⟩,
   ⟨some 4, .mv (.t 34), none, 0⟩])
 (.ret)
def K1033_2 : CC := .reg false [⟨some 8, .mv (.t 1), none, 0⟩,
   ⟨some 9, .call (.c (.fn (.func 71) [] [])) [.t 8], none, 0⟩,
   ⟨some 7, .mv (.t 9), none, 0⟩,
   ⟨some 10, .ext 0 (.t 7), none, 0⟩,
   ⟨some 11, .ext 1 (.t 7), none, 0⟩,
   ⟨some 5, .mv (.t 10), none, 0⟩,
   ⟨some 6, .mv (.t 11), none, 0⟩]
def K1033_3 : CC := .reg false [⟨some 2, .box 26 8 (.t 0), none, 0⟩,
   ⟨some 4, .mv (.c (.d (.v (.bool false)))), none, 0⟩]
/-- coatcheck/entry.Good -/
def C1033 : CF := ⟨2, [(4, none)],
 .seq K1033_3 (.seq K1033_2 K1033_1)⟩
theorem c1033 : coF Try.prog Try.f35 = some C1033 := by kernel_rfl
def A1033 : Ann := { keep := [0, 1, 2, 4, 5, 6], live := [] }
def E1033 {Ω : Type} : Env Ω := econs 71 S1068c (econs 88 S106 (enil))
theorem e1033 : GoodE Try.prog E1033 := GoodE.cons g1068c (GoodE.cons g106 (GoodE.nil))
def S1033 {Ω : Type} : Spec Ω := inl E1033 A1033 C1033 false
theorem g1033 : Good1 Try.prog 35 S1033 := Good1.inl e1033 mix Try.func35 (by kernel_rfl) c1033 A1033 false
def K1031_1 : CC := .seq (.reg false [⟨some 40, .mv (.t 1), none, 0⟩,
   ⟨some 41, .ld 8 true (.t 8), none, 0⟩,
   ⟨some 42, .mv (.t 10), none, 0⟩,
   ⟨some 43, .call (.c (.fn (.func 39) [] [])) [.t 41, .t 42], none, 0⟩,
   ⟨some 44, .ixs 1 (.t 40) (.t 43), none, 0⟩,
   ⟨some 45, .ld 1 false (.t 44), none, 0⟩,
   ⟨some 46, .mv (.t 11), none, 0⟩,
   ⟨some 47, .call (.c (.fn (.func 76) [] [])) [.t 45, .t 46], none, 0⟩,
   ⟨some 39, .mv (.t 47), none, 0⟩,
   ⟨some 48, .ext 0 (.t 39), none, 0⟩,
   ⟨some 49, .ext 1 (.t 39), none, 0⟩,
   ⟨some 12, .mv (.t 48), none, 0⟩,
   ⟨some 13, .mv (.t 49), none, 0⟩])
 (.seq (.seq (.reg false [⟨some 50, .mv (.t 13), none, 0⟩,
   ⟨some 51, .un .not (.t 50), none, 0⟩])
 (.cond 51 (.seq (.reg false [⟨some 6, .mv (.c (.d (.v (.int .i64 (-1))))), none, 0⟩,
     ⟨some 7, .mv (.c (.d (.v (.bool false)))), none, 0⟩])
   (.ret))
   (.skip)))
 (.seq (.reg false [⟨some 52, .mv (.t 12), none, 0⟩,
   ⟨some 6, .mv (.t 52), none, 0⟩,
   ⟨some 7, .mv (.c (.d (.v (.bool true)))), none, 0⟩])
 (.ret)))
def K1031_2 : CC := .reg false [⟨some 35, .mv (.t 2), none, 0⟩,
   ⟨some 36, .call (.c (.fn (.func 71) [] [])) [.t 35], none, 0⟩,
   ⟨some 34, .mv (.t 36), none, 0⟩,
   ⟨some 37, .ext 0 (.t 34), none, 0⟩,
   ⟨some 38, .ext 1 (.t 34), none, 0⟩,
   ⟨some 10, .mv (.t 37), none, 0⟩,
   ⟨some 11, .mv (.t 38), none, 0⟩]
def K1031_3 : CC := .seq (.reg false [⟨some 19, .mv (.t 9), none, 0⟩,
   ⟨some 20, .eq .int true (.t 19) (.c (.d (.v (.int .i64 0)))), none, 0⟩,
   ⟨some 21, .mv (.t 20), none, 0⟩,
   ⟨some 22, .mv (.t 1), some (21, false), 0⟩,
   ⟨some 23, .len (.t 22), some (21, false), 0⟩,
   ⟨some 24, .ld 8 true (.t 8), some (21, false), 0⟩,
   ⟨some 25, .call (.c (.fn (.func 86) [] [])) [.t 24], some (21, false), 0⟩,
   ⟨some 26, .eq .int true (.t 23) (.t 25), some (21, false), 0⟩,
   ⟨some 27, .pick (.t 21) (.c (.d (.v (.bool true)))) (.t 26), none, 0⟩,
   ⟨some 28, .mv (.t 27), none, 0⟩,
   ⟨some 29, .ld 8 true (.t 3), some (28, false), 0⟩,
   ⟨some 30, .mv (.t 2), some (28, false), 0⟩,
   ⟨some 31, .call (.c (.fn (.func 35) [] [])) [.t 29, .t 30], some (28, false), 0⟩,
   ⟨some 32, .un .not (.t 31), some (28, false), 0⟩,
   ⟨some 33, .pick (.t 28) (.c (.d (.v (.bool true)))) (.t 32), none, 0⟩])
 (.cond 33 (.seq (.reg false [⟨some 6, .mv (.c (.d (.v (.int .i64 (-1))))), none, 0⟩,
     ⟨some 7, .mv (.c (.d (.v (.bool false)))), none, 0⟩])
   (.ret))
   (.skip))
def K1031_4 : CC := .reg false [⟨some 15, .ld 8 true (.t 3), none, 0⟩,
   ⟨some 16, .call (.c (.fn (.func 85) [] [])) [.t 15], none, 0⟩,
   ⟨some 14, .mv (.t 16), none, 0⟩,
   ⟨some 17, .ext 0 (.t 14), none, 0⟩,
   ⟨some 18, .ext 1 (.t 14), none, 0⟩,
   ⟨some 8, .newc 75 [.d (.v (.int .i64 0)), .d (.v (.int .i64 0)), .d (.v (.int .i64 0)), .d (.v (.int .i64 0)), .d (.v (.int .i64 0)), .d (.v (.int .i64 0)), .d (.v (.int .i64 0)), .d (.v (.int .u64 0))], none, 0⟩,
   ⟨none, .st 8 (.t 8) (.t 17), none, 0⟩,
   ⟨some 9, .mv (.t 18), none, 0⟩]
def K1031_5 : CC := .reg false [⟨some 3, .box 26 8 (.t 0), none, 0⟩,
   ⟨some 6, .mv (.c (.d (.v (.int .i64 0)))), none, 0⟩,
   ⟨some 7, .mv (.c (.d (.v (.bool false)))), none, 0⟩]
/-- coatcheck/entry.Live -/
def C1031 : CF := ⟨3, [(6, none), (7, none)],
 .seq K1031_5 (.seq K1031_4 (.seq K1031_3 (.seq K1031_2 K1031_1)))⟩
theorem c1031 : coF Try.prog Try.f33 = some C1031 := by kernel_rfl
def A1031 : Ann := { keep := [0, 1, 2, 3, 6, 7, 8, 9, 10, 11, 12, 13, 33, 51], live := [] }
def E1031 {Ω : Type} : Env Ω := econs 35 S1033 (econs 39 S111c (econs 71 S1068c (econs 76 S1071 (econs 85 S63 (econs 86 S64 (enil))))))
theorem e1031 : GoodE Try.prog E1031 := GoodE.cons g1033 (GoodE.cons g111c (GoodE.cons g1068c (GoodE.cons g1071 (GoodE.cons g63 (GoodE.cons g64 (GoodE.nil))))))
def S1031 {Ω : Type} : Spec Ω := inl E1031 A1031 C1031 false
theorem g1031 : Good1 Try.prog 33 S1031 := Good1.inl e1031 mix Try.func33 (by kernel_rfl) c1031 A1031 false
def K1028_1 : CC := .seq (.reg true [⟨some 48, .mv (.t 4), none, 0⟩,
   ⟨some 49, .eq .int false (.t 48) (.c (.d (.v (.int .i64 1)))), none, 1⟩,
   ⟨some 50, .mv (.t 49), none, 3⟩,
   ⟨some 51, .fa 30 (.t 3), some (50, true), 7⟩,
   ⟨some 52, .ld 1 false (.t 51), some (50, true), 15⟩,
   ⟨some 53, .call (.c (.fn (.func 68) [] [])) [.c (.d (.v (.int .i64 0))), .c (.d (.v (.int .u64 1)))], some (50, true), 7⟩,
   ⟨some 54, .eq .int false (.t 52) (.t 53), some (50, true), 63⟩,
   ⟨some 55, .pick (.t 50) (.t 54) (.c (.d (.v (.bool false)))), none, 127⟩,
   ⟨some 56, .mv (.t 55), none, 255⟩,
   ⟨some 57, .mv (.t 7), some (56, true), 511⟩,
   ⟨some 58, .pick (.t 56) (.t 57) (.c (.d (.v (.bool false)))), none, 1023⟩,
   ⟨some 59, .mv (.t 58), none, 2047⟩,
   ⟨some 60, .mv (.t 6), some (59, true), 4095⟩,
   ⟨some 61, .eq .int false (.t 60) (.c (.d (.v (.int .i64 5)))), some (59, true), 8191⟩,
   ⟨some 62, .pick (.t 59) (.t 61) (.c (.d (.v (.bool false)))), none, 16383⟩,
   ⟨some 0, .mv (.t 62), none, 32767⟩])
 (.ret)
def K1028_2 : CC := .reg true [⟨some 36, .mv (.t 1), none, 0⟩,
   ⟨some 37, .nilc (.t 36), none, 1⟩,
   ⟨some 38, .fa 0 (.t 37), none, 3⟩,
   ⟨some 39, .fa 0 (.t 38), none, 7⟩,
   ⟨some 40, .ld 8 true (.t 39), none, 15⟩,
   ⟨some 41, .mv (.t 1), none, 0⟩,
   ⟨some 42, .call (.c (.fn (.func 17) [] [])) [.t 41], none, 32⟩,
   ⟨some 43, .fa 30 (.t 3), none, 0⟩,
   ⟨some 44, .ld 1 false (.t 43), none, 128⟩,
   ⟨some 45, .call (.c (.fn (.func 33) [] [])) [.t 40, .t 42, .t 44], none, 511⟩,
   ⟨some 35, .mv (.t 45), none, 1023⟩,
   ⟨some 46, .ext 0 (.t 35), none, 2047⟩,
   ⟨some 47, .ext 1 (.t 35), none, 2047⟩,
   ⟨some 6, .mv (.t 46), none, 4095⟩,
   ⟨some 7, .mv (.t 47), none, 16383⟩]
def L1028_3 : CC := .seq (.seq (.reg false [⟨some 20, .mv (.t 5), none, 0⟩,
   ⟨some 21, .bin .lss (.t 20) (.c (.d (.v (.int .i64 5)))), none, 0⟩,
   ⟨some 22, .mv (.t 21), none, 0⟩,
   ⟨some 23, .mv (.t 4), some (22, true), 0⟩,
   ⟨some 24, .eq .int false (.t 23) (.c (.d (.v (.int .i64 0)))), some (22, true), 0⟩,
   ⟨some 25, .pick (.t 22) (.t 24) (.c (.d (.v (.bool false)))), none, 0⟩])
 (.cond 25 (.skip)
   (.exit 0)))
 (.seq (.block 1 (.reg false [⟨some 29, .mv (.t 1), none, 0⟩,
     ⟨some 30, .ld 33 true (.t 3), none, 0⟩,
     ⟨some 31, .call (.c (.fn (.func 28) [] [])) [.t 29, .t 30], none, 0⟩,
     ⟨some 28, .mv (.t 31), none, 0⟩,
     ⟨some 32, .ext 0 (.t 28), none, 0⟩,
     ⟨some 33, .ext 1 (.t 28), none, 0⟩,
     ⟨some 34, .ext 2 (.t 28), none, 0⟩,
     ⟨none, .st 33 (.t 3) (.t 32), none, 0⟩,
     ⟨some 4, .mv (.t 33), none, 0⟩]))
 (.reg false [⟨some 26, .mv (.t 5), none, 0⟩,
   ⟨some 27, .bin .add (.t 26) (.c (.d (.v (.int .i64 1)))), none, 0⟩,
   ⟨some 5, .mv (.t 27), none, 0⟩]))
def K1028_4 : CC := .reg false [⟨some 5, .mv (.c (.d (.v (.int .i64 0)))), none, 0⟩]
def K1028_5 : CC := .reg false [⟨some 19, .bld [.d (.v (.int .i64 0)), .d (.v (.int .i64 0)), .d (.v (.int .u64 0)), .d (.v (.int .u64 0)), .d (.v (.int .i64 0)), .d (.v (.bool false)), .d (.v (.int .i64 0)), .d (.v (.int .i64 0)), .d (.v (.bool false)), .d (.v (.int .u64 0)), .d (.v (.slice none 0 0)), .d (.v (.int .u64 0)), .d (.v (.slice none 0 0)), .d (.v (.int .u64 0)), .d (.v (.slice none 0 0)), .d (.v (.int .u64 0)), .d (.v (.slice none 0 0)), .d (.v (.slice none 0 0)), .d (.v (.int .i64 0)), .d (.v (.int .i64 0)), .d (.v (.int .i64 0)), .d (.v (.int .i64 0)), .d (.v (.int .i64 0)), .d (.v (.int .u64 0)), .d (.v (.int .u64 0)), .d (.v (.int .u64 0)), .d (.v (.int .u64 0)), .d (.v (.int .u64 0)), .d (.v (.int .i64 0)), .d (.v (.slice none 0 0)), .d (.v (.int .u64 0)), .d (.v (.int .i64 0)), .d (.v (.bool false))] [(0, 1, .c (.d (.v (.int .i64 20)))), (18, 1, .c (.d (.v (.int .i64 6))))], none, 0⟩,
   ⟨some 3, .newc 40 [.d (.v (.int .i64 0)), .d (.v (.int .i64 0)), .d (.v (.int .u64 0)), .d (.v (.int .u64 0)), .d (.v (.int .i64 0)), .d (.v (.bool false)), .d (.v (.int .i64 0)), .d (.v (.int .i64 0)), .d (.v (.bool false)), .d (.v (.int .u64 0)), .d (.v (.slice none 0 0)), .d (.v (.int .u64 0)), .d (.v (.slice none 0 0)), .d (.v (.int .u64 0)), .d (.v (.slice none 0 0)), .d (.v (.int .u64 0)), .d (.v (.slice none 0 0)), .d (.v (.slice none 0 0)), .d (.v (.int .i64 0)), .d (.v (.int .i64 0)), .d (.v (.int .i64 0)), .d (.v (.int .i64 0)), .d (.v (.int .i64 0)), .d (.v (.int .u64 0)), .d (.v (.int .u64 0)), .d (.v (.int .u64 0)), .d (.v (.int .u64 0)), .d (.v (.int .u64 0)), .d (.v (.int .i64 0)), .d (.v (.slice none 0 0)), .d (.v (.int .u64 0)), .d (.v (.int .i64 0)), .d (.v (.bool false))], none, 0⟩,
   ⟨none, .st 33 (.t 3) (.t 19), none, 0⟩,
   ⟨some 4, .mv (.c (.d (.v (.int .i64 0)))), none, 0⟩]
def K1028_6 : CC := .seq (.reg false [⟨some 13, .mv (.t 2), none, 0⟩,
   ⟨some 14, .eq .int true (.t 13) (.c (.d (.v (.int .i64 0)))), none, 0⟩,
   ⟨some 15, .mv (.t 14), none, 0⟩,
   ⟨some 16, .mv (.t 1), some (15, false), 0⟩,
   ⟨some 17, .eq .ptr false (.t 16) (.c (.d (.v (.pointer none)))), some (15, false), 0⟩,
   ⟨some 18, .pick (.t 15) (.c (.d (.v (.bool true)))) (.t 17), none, 0⟩])
 (.cond 18 (.seq (.reg false [⟨some 0, .mv (.c (.d (.v (.bool false)))), none, 0⟩])
   (.ret))
   (.skip))
def K1028_7 : CC := .reg false [⟨some 9, .bld [.d (.v (.int .i64 0)), .d (.v (.int .i64 0)), .d (.v (.int .i64 0)), .d (.v (.int .i64 0)), .d (.v (.int .i64 0)), .d (.v (.int .i64 0)), .d (.v (.int .i64 0)), .d (.v (.int .u64 0))] [(0, 1, .c (.d (.v (.int .i64 1)))), (1, 1, .c (.d (.v (.int .i64 1)))), (2, 1, .c (.d (.v (.int .i64 8)))), (3, 1, .c (.d (.v (.int .i64 1)))), (4, 1, .c (.d (.v (.int .i64 2)))), (6, 1, .c (.d (.v (.int .i64 1)))), (7, 1, .c (.d (.v (.int .u64 1))))], none, 0⟩,
   ⟨some 10, .call (.c (.fn (.func 12) [] [])) [.t 9], none, 0⟩,
   ⟨some 8, .mv (.t 10), none, 0⟩,
   ⟨some 11, .ext 0 (.t 8), none, 0⟩,
   ⟨some 12, .ext 1 (.t 8), none, 0⟩,
   ⟨some 1, .mv (.t 11), none, 0⟩,
   ⟨some 2, .mv (.t 12), none, 0⟩]
def K1028_8 : CC := .reg false [⟨some 0, .mv (.c (.d (.v (.bool false)))), none, 0⟩]
/-- coatcheck/coatchecklaw11.awake -/
def C1028 : CF := ⟨0, [(0, none)],
 .seq K1028_8 (.seq K1028_7 (.seq K1028_6 (.seq K1028_5 (.seq (.seq K1028_4 (.block 0 (.loop L1028_3))) (.seq K1028_2 K1028_1)))))⟩
theorem c1028 : coF Try.prog Try.f26 = some C1028 := by kernel_rfl
def A1028 : Ann := { keep := [0, 1, 2, 3, 4, 5, 6, 7, 18, 25], live := [(0, [1, 3, 4, 5])] }
def E1028 {Ω : Type} : Env Ω := econs 17 S33c (econs 12 S34 (econs 28 S1029m (econs 33 S1031 (econs 68 S1066c (enil)))))
theorem e1028 : GoodE Try.prog E1028 := GoodE.cons g33c (GoodE.cons g34 (GoodE.cons g1029m (GoodE.cons g1031 (GoodE.cons g1066c (GoodE.nil)))))
def S1028 {Ω : Type} : Spec Ω := conSpec [] FTrue
theorem g1028 : Good1 Try.prog 26 S1028 := trueGood Try.func26 (by kernel_rfl) c1028 (A := A1028) e1028 mix (by kernel_rfl)
end Go.Sx.Pr

namespace Go.Sx.Pr
open Go Go.Sx Go.Proofs
set_option maxRecDepth 100000
end Go.Sx.Pr

/- Contracts: a ticket's form, and the block of a live ticket, program and document. -/
namespace Go.Sx.Pr
open Go Go.Sx Go.Sx.Md Go.Proofs
set_option maxRecDepth 100000

theorem n1031 {Ω : Type} (it : Itr Ω) (K : SV → SH → Option Ω) (c : Cf) (ws : List Int) (t : Int) :
    sxFnI it E1031 A1031 C1031 [.agg (encC c), .d (.ints .u64 ws), U t] [] K =
    br (!chkC c == 0) (br (!chkC c == 0) (K (.tup [I (-1), B false]) [.cells 26 (encC c), .cells 75 [I 0, I 0, I 0, I 0, I 0, I 0, I 0, U 0]]) (br (! (↑ (List.length ws) : Int) == 0) (K (.tup [I (-1), B false]) [.cells 26 (encC c), .cells 75 [I 0, I 0, I 0, I 0, I 0, I 0, I 0, U 0]]) (br (uB t) (br (chkC c == 0) (br (decide (t % 65536 - 1 ≥ 0)) (br (decide (t % 65536 - 1 < Cf.e c)) (br (decide (t / 65536 ≥ 1)) (br (!decide (t / 65536 ≤ Cf.l c)) (K (.tup [I (-1), B false]) [.cells 26 (encC c), .cells 75 [I 0, I 0, I 0, I 0, I 0, I 0, I 0, U 0]]) (br (uB t) none none)) (K (.tup [I (-1), B false]) [.cells 26 (encC c), .cells 75 [I 0, I 0, I 0, I 0, I 0, I 0, I 0, U 0]])) (K (.tup [I (-1), B false]) [.cells 26 (encC c), .cells 75 [I 0, I 0, I 0, I 0, I 0, I 0, I 0, U 0]])) (K (.tup [I (-1), B false]) [.cells 26 (encC c), .cells 75 [I 0, I 0, I 0, I 0, I 0, I 0, I 0, U 0]])) (K (.tup [I (-1), B false]) [.cells 26 (encC c), .cells 75 [I 0, I 0, I 0, I 0, I 0, I 0, I 0, U 0]])) none))) (br (! (↑ (List.length ws) : Int) == szC c) (K (.tup [I (-1), B false]) [.cells 26 (encC c), .cells 75 (encC c)]) (br (uB t) (br (chkC c == 0) (br (decide (t % 65536 - 1 ≥ 0)) (br (decide (t % 65536 - 1 < Cf.e c)) (br (decide (t / 65536 ≥ 1)) (br (!decide (t / 65536 ≤ Cf.l c)) (K (.tup [I (-1), B false]) [.cells 26 (encC c), .cells 75 (encC c)]) (br (uB t) (br (inB (adr c 3 (t % 65536 - 1)) (List.length ws)) (br (uB (List.getD ws (Int.toNat (adr c 3 (t % 65536 - 1))) 0)) (br (List.getD ws (Int.toNat (adr c 3 (t % 65536 - 1))) 0 % 16 == 1) (br (!List.getD ws (Int.toNat (adr c 3 (t % 65536 - 1))) 0 / 1048576 == t / 65536) (K (.tup [I (-1), B false]) [.cells 26 (encC c), .cells 75 (encC c)]) (K (.tup [I (List.getD ws (Int.toNat (adr c 3 (t % 65536 - 1))) 0 / 16 % 65536 - 1), B true]) [.cells 26 (encC c), .cells 75 (encC c)])) (K (.tup [I (-1), B false]) [.cells 26 (encC c), .cells 75 (encC c)])) none) none) none)) (K (.tup [I (-1), B false]) [.cells 26 (encC c), .cells 75 (encC c)])) (K (.tup [I (-1), B false]) [.cells 26 (encC c), .cells 75 (encC c)])) (K (.tup [I (-1), B false]) [.cells 26 (encC c), .cells 75 (encC c)])) (K (.tup [I (-1), B false]) [.cells 26 (encC c), .cells 75 (encC c)])) none)) := by kernel_rfl
/-- Is a ticket well-formed? -/
def goodV (c : Cf) (t : Int) : Bool := (chkC c == 0) && (decide (t % 65536 - 1 ≥ 0) && (decide (t % 65536 - 1 < c.e) && (decide (t / 65536 ≥ 1) && decide (t / 65536 ≤ c.l))))
/-- The block of a live ticket. -/
def liveE (c : Cf) (ws : List Int) (t : Int) : Int × Bool :=
  bif (chkC c == 0) && (((ws.length : Int) == szC c) && (goodV c t && liveV (ws.getD (adr c 3 (tE t)).toNat 0) (tG t))) then (ws.getD (adr c 3 (tE t)).toNat 0 / 16 % 65536 - 1, true) else (-1, false)
theorem adr3 {c : Cf} (hc : chkC c = 0) (j : Int) : adr c 3 j = if 0 ≤ j ∧ j < c.e then 3 + c.a + c.b + 2 * j else -1 := at3 hc j
theorem goodV_at {c : Cf} {t : Int} (h : goodV c t = true) : 0 ≤ tE t ∧ tE t < c.e ∧ 1 ≤ tG t ∧ tG t ≤ c.l := by
  unfold goodV at h
  simp only [Bool.and_eq_true, decide_eq_true_eq, beq_iff_eq] at h
  exact ⟨h.2.1, h.2.2.1, h.2.2.2.1, h.2.2.2.2⟩
theorem inBE {c : Cf} {n : Nat} {j : Int} (hc : chkC c = 0) (hn : (n : Int) = szC c) (h0 : 0 ≤ j) (h1 : j < c.e) : inB (adr c 3 j) n = true := by
  rw [adr3 hc, if_pos ⟨h0, h1⟩]
  have hs := szC_eq hc
  obtain ⟨⟨a1, a2⟩, ⟨b1, b2⟩, _⟩ := chk_zero hc
  refine inB_of' (by omega) ?_
  unfold sizeN at hs
  omega

section
variable {c : Cf} {ws : List Int} {t : Int}
theorem liveE_no (h : ¬ (chkC c = 0 ∧ (ws.length : Int) = szC c ∧ goodV c t = true)) : liveE c ws t = (-1, false) := by
  unfold liveE
  cases e : (chkC c == 0) && (((ws.length : Int) == szC c) && (goodV c t && liveV (ws.getD (adr c 3 (tE t)).toNat 0) (tG t))) with
  | false => rfl
  | true =>
    simp only [Bool.and_eq_true, beq_iff_eq] at e
    exact absurd ⟨e.1, e.2.1, e.2.2.1⟩ h
theorem liveE_at (h0 : chkC c = 0) (h1 : (ws.length : Int) = szC c) (h2 : goodV c t = true) : liveE c ws t = bif liveV (ws.getD (adr c 3 (tE t)).toNat 0) (tG t) then (ws.getD (adr c 3 (tE t)).toNat 0 / 16 % 65536 - 1, true) else (-1, false) := by
  unfold liveE; simp [h0, h1, h2]
theorem v1031 (h : (u64B ws && uB t) = true) : GivesV (sxFn E1031 A1031 C1031 [.agg (encC c), .d (.ints .u64 ws), U t] [] KS) (.tup [I (liveE c ws t).1, B (liveE c ws t).2]) := by
  simp only [Bool.and_eq_true] at h
  obtain ⟨hw, ht⟩ := h
  rw [← sxFnI_eq, n1031]
  have no : ¬ (chkC c = 0 ∧ (ws.length : Int) = szC c ∧ goodV c t = true) → ∀ H, GivesV (KS (.tup [I (-1), B false]) H) (.tup [I (liveE c ws t).1, B (liveE c ws t).2]) := fun q H => by rw [liveE_no q]; exact givesV
  by_cases h0 : chkC c = 0
  · rw [bang_f h0, br_f]
    by_cases h1 : (ws.length : Int) = szC c
    · rw [bang_f h1, br_f]
      cases hg : goodV c t with
      | true =>
        obtain ⟨g1, g2, g3, g4⟩ := goodV_at hg
        rw [liveE_at h0 h1 hg]
        rw [ht, br_t, h0, show ((0 : Int) == 0) = true from rfl, br_t, decide_eq_true g1, br_t, decide_eq_true g2, br_t, decide_eq_true g3, br_t, decide_eq_true g4, Bool.not_true, br_f, br_t, inBE h0 h1 g1 g2, br_t, u64B_all hw, br_t]
        unfold liveV
        cases (ws.getD (adr c 3 (t % 65536 - 1)).toNat 0 % 16 == 1) <;> cases (ws.getD (adr c 3 (t % 65536 - 1)).toNat 0 / 1048576 == t / 65536) <;> exact givesV
      | false =>
        have q := no (by simp [hg])
        have hg' := hg
        unfold goodV at hg'
        rw [ht, br_t, h0, show ((0 : Int) == 0) = true from rfl, br_t]
        rw [h0, show ((0 : Int) == 0) = true from rfl, Bool.true_and] at hg'
        cases e1 : decide (t % 65536 - 1 ≥ 0) with
        | false => exact q _
        | true =>
          cases e2 : decide (t % 65536 - 1 < c.e) with
          | false => exact q _
          | true =>
            cases e3 : decide (t / 65536 ≥ 1) with
            | false => exact q _
            | true =>
              cases e4 : decide (t / 65536 ≤ c.l) with
              | false => exact q _
              | true => rw [e1, e2, e3, e4] at hg'; cases hg'
    · rw [bang_t h1, br_t]
      exact no (fun q => h1 q.2.1) _
  · have q := no (fun q => h0 q.1)
    rw [bang_t h0, br_t, br_t]
    exact q _
end
def F1031v : List (List Int) → Option (Bool × SV × SH)
  | [[c_a, c_b, c_c, c_d, c_e, c_f, c_g, c_l], ws, [t]] => let c := (⟨c_a, c_b, c_c, c_d, c_e, c_f, c_g, c_l⟩ : Md.Cf); some (u64B ws && uB t, .tup [I (liveE c ws t).1, B (liveE c ws t).2], [])
  | _ => none
def S1031c {Ω : Type} : Spec Ω := conSpec [.g cfgK, .s .u64, .i .u64] F1031v
theorem g1031c : Good1 Try.prog 33 S1031c := conGood Try.func33 (by kernel_rfl) c1031 e1031 mix (A := A1031) fun L r hr hl hF => by
  obtain ⟨q0, l0, rfl, z0, hl1⟩ := lenAs_cons hl
  obtain ⟨c_a, c_b, c_c, c_d, c_e, c_f, c_g, c_l, rfl⟩ := eight z0
  obtain ⟨ws, l1, rfl, z1, hl2⟩ := lenAs_cons hl1
  obtain ⟨q2, l2, rfl, z2, hl3⟩ := lenAs_cons hl2
  obtain ⟨t, rfl⟩ := one_of' z2
  have hz := lenAs_nil hl3
  subst hz
  simp only [F1031v, Option.some.injEq, Prod.mk.injEq] at hF
  obtain ⟨hu, rfl, rfl⟩ := hF
  obtain ⟨H, hH⟩ := v1031 (c := (⟨c_a, c_b, c_c, c_d, c_e, c_f, c_g, c_l⟩ : Md.Cf)) (ws := ws) (t := t) (by first | exact hu | exact rfl)
  exact ⟨by first | exact trivial | exact ⟨trivial, trivial⟩ | exact ⟨trivial, trivial, trivial⟩ | exact ⟨trivial, trivial, trivial, trivial⟩, trivial, H, trim_none rfl _, hH⟩

end Go.Sx.Pr

namespace Go.Sx.Pr
open Go Go.Sx Go.Proofs
set_option maxRecDepth 100000
def K1006_1 : CC := .seq (.reg false [⟨some 6, .mv (.c (.d (.v (.bool true)))), none, 0⟩])
 (.ret)
def K1006_2 : CC := .reg false [⟨some 89, .mv (.t 18), none, 0⟩,
   ⟨some 90, .bin .add (.t 89) (.c (.d (.v (.int .i64 1)))), none, 0⟩,
   ⟨some 18, .mv (.t 90), none, 0⟩]
def K1006_3 : CC := .seq (.reg false [⟨some 165, .mv (.t 14), none, 0⟩,
   ⟨some 166, .mv (.t 19), none, 0⟩,
   ⟨some 167, .ld 33 true (.t 21), none, 0⟩,
   ⟨some 168, .ixs 33 (.t 165) (.t 166), none, 0⟩,
   ⟨none, .st 33 (.t 168) (.t 167), none, 0⟩])
 (.seq (.reg true [⟨some 170, .ld 8 true (.t 7), none, 0⟩,
   ⟨some 171, .mv (.t 8), none, 0⟩,
   ⟨some 172, .call (.c (.fn (.func 17) [] [])) [.t 171], none, 2⟩,
   ⟨some 173, .mv (.t 13), none, 0⟩,
   ⟨some 174, .call (.c (.fn (.func 33) [] [])) [.t 170, .t 172, .t 173], none, 15⟩,
   ⟨some 169, .mv (.t 174), none, 31⟩,
   ⟨some 175, .ext 0 (.t 169), none, 63⟩,
   ⟨some 176, .ext 1 (.t 169), none, 63⟩,
   ⟨some 24, .mv (.t 175), none, 127⟩,
   ⟨some 25, .mv (.t 176), none, 511⟩])
 (.seq (.reg false [⟨some 177, .mv (.t 25), none, 0⟩,
   ⟨some 178, .mv (.t 17), none, 0⟩,
   ⟨some 179, .eq .bool false (.t 177) (.t 178), none, 0⟩,
   ⟨some 180, .mv (.t 179), none, 0⟩,
   ⟨some 181, .mv (.t 16), some (180, false), 0⟩,
   ⟨some 182, .bin .gtr (.t 181) (.c (.d (.v (.int .i64 1)))), some (180, false), 0⟩,
   ⟨some 183, .pick (.t 180) (.c (.d (.v (.bool true)))) (.t 182), none, 0⟩])
 (.cond 183 (.seq (.reg false [⟨some 6, .mv (.c (.d (.v (.bool false)))), none, 0⟩])
   (.ret))
   (.skip))))
def K1006_4 : CC := .seq (.reg false [⟨some 129, .mv (.t 16), none, 0⟩,
   ⟨some 130, .bin .add (.t 129) (.c (.d (.v (.int .i64 1)))), none, 0⟩,
   ⟨some 16, .mv (.t 130), none, 0⟩])
 (.seq (.reg false [⟨some 17, .mv (.c (.d (.v (.bool true)))), none, 0⟩])
 (.seq (.reg false [⟨some 131, .fa 20 (.t 21), none, 0⟩,
   ⟨some 132, .ld 1 false (.t 131), none, 0⟩,
   ⟨some 133, .bin .gtr (.t 132) (.c (.d (.v (.int .i64 0)))), none, 0⟩])
 (.cond 133 (.reg false [⟨some 134, .fa 0 (.t 21), none, 0⟩,
     ⟨none, .st 1 (.t 134) (.c (.d (.v (.int .i64 23)))), none, 0⟩])
   (.skip))))
def K1006_5 : CC := .seq (.seq (.reg false [⟨some 142, .mv (.t 17), none, 0⟩])
 (.cond 142 (.seq (.reg false [⟨some 6, .mv (.c (.d (.v (.bool false)))), none, 0⟩])
   (.ret))
   (.skip)))
 (.reg false [⟨some 143, .fa 0 (.t 21), none, 0⟩,
   ⟨none, .st 1 (.t 143) (.c (.d (.v (.int .i64 43)))), none, 0⟩])
def K1006_6 : CC := .seq (.reg false [⟨some 145, .mv (.t 20), none, 0⟩,
   ⟨some 146, .eq .int false (.t 145) (.c (.d (.v (.int .i64 25)))), none, 0⟩,
   ⟨some 147, .mv (.t 146), none, 0⟩,
   ⟨some 148, .mv (.t 22), some (147, true), 0⟩,
   ⟨some 149, .eq .int false (.t 148) (.c (.d (.v (.int .i64 1)))), some (147, true), 0⟩,
   ⟨some 150, .pick (.t 147) (.t 149) (.c (.d (.v (.bool false)))), none, 0⟩,
   ⟨some 144, .mv (.t 150), none, 0⟩])
 (.cond 144 (.reg false [⟨some 151, .mv (.t 13), none, 0⟩,
     ⟨some 152, .bld [.d (.v (.int .i64 0)), .d (.v (.int .i64 0)), .d (.v (.int .u64 0)), .d (.v (.int .u64 0)), .d (.v (.int .i64 0)), .d (.v (.bool false)), .d (.v (.int .i64 0)), .d (.v (.int .i64 0)), .d (.v (.bool false)), .d (.v (.int .u64 0)), .d (.v (.slice none 0 0)), .d (.v (.int .u64 0)), .d (.v (.slice none 0 0)), .d (.v (.int .u64 0)), .d (.v (.slice none 0 0)), .d (.v (.int .u64 0)), .d (.v (.slice none 0 0)), .d (.v (.slice none 0 0)), .d (.v (.int .i64 0)), .d (.v (.int .i64 0)), .d (.v (.int .i64 0)), .d (.v (.int .i64 0)), .d (.v (.int .i64 0)), .d (.v (.int .u64 0)), .d (.v (.int .u64 0)), .d (.v (.int .u64 0)), .d (.v (.int .u64 0)), .d (.v (.int .u64 0)), .d (.v (.int .i64 0)), .d (.v (.slice none 0 0)), .d (.v (.int .u64 0)), .d (.v (.int .i64 0)), .d (.v (.bool false))] [(0, 1, .c (.d (.v (.int .i64 20)))), (18, 1, .c (.d (.v (.int .i64 3)))), (30, 1, .t 151)], none, 0⟩,
     ⟨none, .st 33 (.t 21) (.t 152), none, 0⟩])
   (.seq (.reg false [⟨some 154, .mv (.t 20), none, 0⟩,
     ⟨some 155, .eq .int false (.t 154) (.c (.d (.v (.int .i64 41)))), none, 0⟩,
     ⟨some 153, .mv (.t 155), none, 0⟩])
   (.cond 153 (.seq (.seq (.reg false [⟨some 156, .fa 30 (.t 21), none, 0⟩,
       ⟨some 157, .ld 1 false (.t 156), none, 0⟩,
       ⟨some 158, .mv (.t 13), none, 0⟩,
       ⟨some 159, .eq .int false (.t 157) (.t 158), none, 0⟩])
     (.cond 159 (.seq (.reg false [⟨some 6, .mv (.c (.d (.v (.bool false)))), none, 0⟩])
       (.ret))
       (.skip)))
     (.reg false [⟨some 160, .bld [.d (.v (.int .i64 0)), .d (.v (.int .i64 0)), .d (.v (.int .u64 0)), .d (.v (.int .u64 0)), .d (.v (.int .i64 0)), .d (.v (.bool false)), .d (.v (.int .i64 0)), .d (.v (.int .i64 0)), .d (.v (.bool false)), .d (.v (.int .u64 0)), .d (.v (.slice none 0 0)), .d (.v (.int .u64 0)), .d (.v (.slice none 0 0)), .d (.v (.int .u64 0)), .d (.v (.slice none 0 0)), .d (.v (.int .u64 0)), .d (.v (.slice none 0 0)), .d (.v (.slice none 0 0)), .d (.v (.int .i64 0)), .d (.v (.int .i64 0)), .d (.v (.int .i64 0)), .d (.v (.int .i64 0)), .d (.v (.int .i64 0)), .d (.v (.int .u64 0)), .d (.v (.int .u64 0)), .d (.v (.int .u64 0)), .d (.v (.int .u64 0)), .d (.v (.int .u64 0)), .d (.v (.int .i64 0)), .d (.v (.slice none 0 0)), .d (.v (.int .u64 0)), .d (.v (.int .i64 0)), .d (.v (.bool false))] [], none, 0⟩,
       ⟨none, .st 33 (.t 21) (.t 160), none, 0⟩]))
     (.seq (.reg false [⟨some 162, .mv (.t 22), none, 0⟩,
       ⟨some 163, .eq .int false (.t 162) (.c (.d (.v (.int .i64 2)))), none, 0⟩,
       ⟨some 161, .mv (.t 163), none, 0⟩])
     (.cond 161 (.reg false [⟨some 164, .bld [.d (.v (.int .i64 0)), .d (.v (.int .i64 0)), .d (.v (.int .u64 0)), .d (.v (.int .u64 0)), .d (.v (.int .i64 0)), .d (.v (.bool false)), .d (.v (.int .i64 0)), .d (.v (.int .i64 0)), .d (.v (.bool false)), .d (.v (.int .u64 0)), .d (.v (.slice none 0 0)), .d (.v (.int .u64 0)), .d (.v (.slice none 0 0)), .d (.v (.int .u64 0)), .d (.v (.slice none 0 0)), .d (.v (.int .u64 0)), .d (.v (.slice none 0 0)), .d (.v (.slice none 0 0)), .d (.v (.int .i64 0)), .d (.v (.int .i64 0)), .d (.v (.int .i64 0)), .d (.v (.int .i64 0)), .d (.v (.int .i64 0)), .d (.v (.int .u64 0)), .d (.v (.int .u64 0)), .d (.v (.int .u64 0)), .d (.v (.int .u64 0)), .d (.v (.int .u64 0)), .d (.v (.int .i64 0)), .d (.v (.slice none 0 0)), .d (.v (.int .u64 0)), .d (.v (.int .i64 0)), .d (.v (.bool false))] [], none, 0⟩,
         ⟨none, .st 33 (.t 21) (.t 164), none, 0⟩])
       (.skip))))))
def K1006_7 : CC := .reg false [⟨some 136, .mv (.t 20), none, 0⟩,
   ⟨some 137, .eq .int false (.t 136) (.c (.d (.v (.int .i64 42)))), none, 0⟩,
   ⟨some 138, .mv (.t 137), none, 0⟩,
   ⟨some 139, .mv (.t 22), some (138, true), 0⟩,
   ⟨some 140, .eq .int false (.t 139) (.c (.d (.v (.int .i64 1)))), some (138, true), 0⟩,
   ⟨some 141, .pick (.t 138) (.t 140) (.c (.d (.v (.bool false)))), none, 0⟩,
   ⟨some 135, .mv (.t 141), none, 0⟩]
def K1006_8 : CC := .reg false [⟨some 123, .mv (.t 20), none, 0⟩,
   ⟨some 124, .eq .int false (.t 123) (.c (.d (.v (.int .i64 43)))), none, 0⟩,
   ⟨some 125, .mv (.t 124), none, 0⟩,
   ⟨some 126, .mv (.t 22), some (125, true), 0⟩,
   ⟨some 127, .eq .int false (.t 126) (.c (.d (.v (.int .i64 1)))), some (125, true), 0⟩,
   ⟨some 128, .pick (.t 125) (.t 127) (.c (.d (.v (.bool false)))), none, 0⟩,
   ⟨some 122, .mv (.t 128), none, 0⟩]
def K1006_9 : CC := .seq (.reg false [⟨some 120, .mv (.t 23), none, 0⟩,
   ⟨some 121, .un .not (.t 120), none, 0⟩])
 (.cond 121 (.seq (.reg false [⟨some 6, .mv (.c (.d (.v (.bool false)))), none, 0⟩])
   (.ret))
   (.skip))
def K1006_10 : CC := .reg false [⟨some 111, .mv (.t 8), none, 0⟩,
   ⟨some 112, .mv (.t 14), none, 0⟩,
   ⟨some 113, .mv (.t 19), none, 0⟩,
   ⟨some 114, .ixs 33 (.t 112) (.t 113), none, 0⟩,
   ⟨some 115, .ld 33 true (.t 114), none, 0⟩,
   ⟨some 116, .call (.c (.fn (.func 28) [] [])) [.t 111, .t 115], none, 0⟩,
   ⟨some 110, .mv (.t 116), none, 0⟩,
   ⟨some 117, .ext 0 (.t 110), none, 0⟩,
   ⟨some 118, .ext 1 (.t 110), none, 0⟩,
   ⟨some 119, .ext 2 (.t 110), none, 0⟩,
   ⟨some 21, .newc 40 [.d (.v (.int .i64 0)), .d (.v (.int .i64 0)), .d (.v (.int .u64 0)), .d (.v (.int .u64 0)), .d (.v (.int .i64 0)), .d (.v (.bool false)), .d (.v (.int .i64 0)), .d (.v (.int .i64 0)), .d (.v (.bool false)), .d (.v (.int .u64 0)), .d (.v (.slice none 0 0)), .d (.v (.int .u64 0)), .d (.v (.slice none 0 0)), .d (.v (.int .u64 0)), .d (.v (.slice none 0 0)), .d (.v (.int .u64 0)), .d (.v (.slice none 0 0)), .d (.v (.slice none 0 0)), .d (.v (.int .i64 0)), .d (.v (.int .i64 0)), .d (.v (.int .i64 0)), .d (.v (.int .i64 0)), .d (.v (.int .i64 0)), .d (.v (.int .u64 0)), .d (.v (.int .u64 0)), .d (.v (.int .u64 0)), .d (.v (.int .u64 0)), .d (.v (.int .u64 0)), .d (.v (.int .i64 0)), .d (.v (.slice none 0 0)), .d (.v (.int .u64 0)), .d (.v (.int .i64 0)), .d (.v (.bool false))], none, 0⟩,
   ⟨none, .st 33 (.t 21) (.t 117), none, 0⟩,
   ⟨some 22, .mv (.t 118), none, 0⟩,
   ⟨some 23, .mv (.t 119), none, 0⟩]
def K1006_11 : CC := .reg false [⟨some 105, .mv (.t 14), none, 0⟩,
   ⟨some 106, .mv (.t 19), none, 0⟩,
   ⟨some 107, .ixs 33 (.t 105) (.t 106), none, 0⟩,
   ⟨some 108, .fa 0 (.t 107), none, 0⟩,
   ⟨some 109, .ld 1 false (.t 108), none, 0⟩,
   ⟨some 20, .mv (.t 109), none, 0⟩]
def K1006_12 : CC := .seq (.reg false [⟨some 99, .mv (.t 14), none, 0⟩,
   ⟨some 100, .mv (.t 19), none, 0⟩,
   ⟨some 101, .ixs 33 (.t 99) (.t 100), none, 0⟩,
   ⟨some 102, .fa 0 (.t 101), none, 0⟩,
   ⟨some 103, .ld 1 false (.t 102), none, 0⟩,
   ⟨some 104, .eq .int false (.t 103) (.c (.d (.v (.int .i64 0)))), none, 0⟩])
 (.cond 104 (.exit 5)
   (.skip))
def K1006_13 : CC := .reg true [⟨some 91, .mv (.t 2), none, 0⟩,
   ⟨some 92, .mv (.t 18), none, 0⟩,
   ⟨some 93, .ixs 1 (.t 91) (.t 92), none, 3⟩,
   ⟨some 94, .ld 1 false (.t 93), none, 7⟩,
   ⟨some 95, .conv .i64 (.t 94), none, 15⟩,
   ⟨some 96, .fa 0 (.t 7), none, 0⟩,
   ⟨some 97, .ld 1 false (.t 96), none, 32⟩,
   ⟨some 98, .bin .rem (.t 95) (.t 97), none, 127⟩,
   ⟨some 19, .mv (.t 98), none, 255⟩]
def K1006_14 : CC := .seq (.reg false [⟨some 85, .mv (.t 18), none, 0⟩,
   ⟨some 86, .mv (.t 2), none, 0⟩,
   ⟨some 87, .len (.t 86), none, 0⟩,
   ⟨some 88, .bin .lss (.t 85) (.t 87), none, 0⟩])
 (.cond 88 (.skip)
   (.exit 4))
def L1006_15 : CC := .seq K1006_14 (.seq (.block 5 (.seq K1006_13 (.seq K1006_12 (.seq K1006_11 (.seq K1006_10 (.seq K1006_9 (.seq (.block 6 (.seq K1006_8 (.cond 122 K1006_4 (.seq K1006_7 (.cond 135 K1006_5 K1006_6))))) K1006_3))))))) K1006_2)
def K1006_16 : CC := .reg false [⟨some 18, .mv (.c (.d (.v (.int .i64 0)))), none, 0⟩]
def K1006_17 : CC := .reg false [⟨some 16, .mv (.c (.d (.v (.int .i64 0)))), none, 0⟩,
   ⟨some 17, .mv (.c (.d (.v (.bool false)))), none, 0⟩]
def L1006_18 : CC := .seq (.seq (.reg false [⟨some 74, .mv (.t 15), none, 0⟩,
   ⟨some 75, .mv (.t 14), none, 0⟩,
   ⟨some 76, .len (.t 75), none, 0⟩,
   ⟨some 77, .bin .lss (.t 74) (.t 76), none, 0⟩])
 (.cond 77 (.skip)
   (.exit 2)))
 (.seq (.block 3 (.reg false [⟨some 80, .mv (.t 14), none, 0⟩,
     ⟨some 81, .mv (.t 15), none, 0⟩,
     ⟨some 82, .mv (.t 13), none, 0⟩,
     ⟨some 83, .bld [.d (.v (.int .i64 0)), .d (.v (.int .i64 0)), .d (.v (.int .u64 0)), .d (.v (.int .u64 0)), .d (.v (.int .i64 0)), .d (.v (.bool false)), .d (.v (.int .i64 0)), .d (.v (.int .i64 0)), .d (.v (.bool false)), .d (.v (.int .u64 0)), .d (.v (.slice none 0 0)), .d (.v (.int .u64 0)), .d (.v (.slice none 0 0)), .d (.v (.int .u64 0)), .d (.v (.slice none 0 0)), .d (.v (.int .u64 0)), .d (.v (.slice none 0 0)), .d (.v (.slice none 0 0)), .d (.v (.int .i64 0)), .d (.v (.int .i64 0)), .d (.v (.int .i64 0)), .d (.v (.int .i64 0)), .d (.v (.int .i64 0)), .d (.v (.int .u64 0)), .d (.v (.int .u64 0)), .d (.v (.int .u64 0)), .d (.v (.int .u64 0)), .d (.v (.int .u64 0)), .d (.v (.int .i64 0)), .d (.v (.slice none 0 0)), .d (.v (.int .u64 0)), .d (.v (.int .i64 0)), .d (.v (.bool false))] [(0, 1, .c (.d (.v (.int .i64 42)))), (30, 1, .t 82)], none, 0⟩,
     ⟨some 84, .ixs 33 (.t 80) (.t 81), none, 0⟩,
     ⟨none, .st 33 (.t 84) (.t 83), none, 0⟩]))
 (.reg false [⟨some 78, .mv (.t 15), none, 0⟩,
   ⟨some 79, .bin .add (.t 78) (.c (.d (.v (.int .i64 1)))), none, 0⟩,
   ⟨some 15, .mv (.t 79), none, 0⟩]))
def K1006_19 : CC := .reg false [⟨some 15, .mv (.c (.d (.v (.int .i64 0)))), none, 0⟩]
def K1006_20 : CC := .reg false [⟨some 71, .fa 0 (.t 7), none, 0⟩,
   ⟨some 72, .ld 1 false (.t 71), none, 0⟩,
   ⟨some 73, .mks 40 33 360 none [.d (.v (.int .i64 0)), .d (.v (.int .i64 0)), .d (.v (.int .u64 0)), .d (.v (.int .u64 0)), .d (.v (.int .i64 0)), .d (.v (.bool false)), .d (.v (.int .i64 0)), .d (.v (.int .i64 0)), .d (.v (.bool false)), .d (.v (.int .u64 0)), .d (.ints .i64 []), .d (.v (.int .u64 0)), .d (.ints .i64 []), .d (.v (.int .u64 0)), .d (.ints .i64 []), .d (.v (.int .u64 0)), .d (.ints .i64 []), .d (.ints .i64 []), .d (.v (.int .i64 0)), .d (.v (.int .i64 0)), .d (.v (.int .i64 0)), .d (.v (.int .i64 0)), .d (.v (.int .i64 0)), .d (.v (.int .u64 0)), .d (.v (.int .u64 0)), .d (.v (.int .u64 0)), .d (.v (.int .u64 0)), .d (.v (.int .u64 0)), .d (.v (.int .i64 0)), .d (.ints .u64 []), .d (.v (.int .u64 0)), .d (.v (.int .i64 0)), .d (.v (.bool false))] (.t 72), none, 0⟩,
   ⟨some 14, .mv (.t 73), none, 0⟩]
def K1006_21 : CC := .seq (.reg false [⟨some 69, .mv (.t 11), none, 0⟩,
   ⟨some 70, .eq .int true (.t 69) (.c (.d (.v (.int .i64 1)))), none, 0⟩])
 (.cond 70 (.seq (.reg false [⟨some 6, .mv (.c (.d (.v (.bool false)))), none, 0⟩])
   (.ret))
   (.skip))
def K1006_22 : CC := .reg false [⟨some 67, .fa 30 (.t 10), none, 0⟩,
   ⟨some 68, .ld 1 false (.t 67), none, 0⟩,
   ⟨some 13, .mv (.t 68), none, 0⟩]
def L1006_23 : CC := .seq (.seq (.reg false [⟨some 52, .mv (.t 12), none, 0⟩,
   ⟨some 53, .bin .lss (.t 52) (.c (.d (.v (.int .i64 5)))), none, 0⟩,
   ⟨some 54, .mv (.t 53), none, 0⟩,
   ⟨some 55, .mv (.t 11), some (54, true), 0⟩,
   ⟨some 56, .eq .int false (.t 55) (.c (.d (.v (.int .i64 0)))), some (54, true), 0⟩,
   ⟨some 57, .pick (.t 54) (.t 56) (.c (.d (.v (.bool false)))), none, 0⟩])
 (.cond 57 (.skip)
   (.exit 0)))
 (.seq (.block 1 (.reg false [⟨some 61, .mv (.t 8), none, 0⟩,
     ⟨some 62, .ld 33 true (.t 10), none, 0⟩,
     ⟨some 63, .call (.c (.fn (.func 28) [] [])) [.t 61, .t 62], none, 0⟩,
     ⟨some 60, .mv (.t 63), none, 0⟩,
     ⟨some 64, .ext 0 (.t 60), none, 0⟩,
     ⟨some 65, .ext 1 (.t 60), none, 0⟩,
     ⟨some 66, .ext 2 (.t 60), none, 0⟩,
     ⟨none, .st 33 (.t 10) (.t 64), none, 0⟩,
     ⟨some 11, .mv (.t 65), none, 0⟩]))
 (.reg false [⟨some 58, .mv (.t 12), none, 0⟩,
   ⟨some 59, .bin .add (.t 58) (.c (.d (.v (.int .i64 1)))), none, 0⟩,
   ⟨some 12, .mv (.t 59), none, 0⟩]))
def K1006_24 : CC := .reg false [⟨some 12, .mv (.c (.d (.v (.int .i64 0)))), none, 0⟩]
def K1006_25 : CC := .reg false [⟨some 51, .bld [.d (.v (.int .i64 0)), .d (.v (.int .i64 0)), .d (.v (.int .u64 0)), .d (.v (.int .u64 0)), .d (.v (.int .i64 0)), .d (.v (.bool false)), .d (.v (.int .i64 0)), .d (.v (.int .i64 0)), .d (.v (.bool false)), .d (.v (.int .u64 0)), .d (.v (.slice none 0 0)), .d (.v (.int .u64 0)), .d (.v (.slice none 0 0)), .d (.v (.int .u64 0)), .d (.v (.slice none 0 0)), .d (.v (.int .u64 0)), .d (.v (.slice none 0 0)), .d (.v (.slice none 0 0)), .d (.v (.int .i64 0)), .d (.v (.int .i64 0)), .d (.v (.int .i64 0)), .d (.v (.int .i64 0)), .d (.v (.int .i64 0)), .d (.v (.int .u64 0)), .d (.v (.int .u64 0)), .d (.v (.int .u64 0)), .d (.v (.int .u64 0)), .d (.v (.int .u64 0)), .d (.v (.int .i64 0)), .d (.v (.slice none 0 0)), .d (.v (.int .u64 0)), .d (.v (.int .i64 0)), .d (.v (.bool false))] [(0, 1, .c (.d (.v (.int .i64 20)))), (18, 1, .c (.d (.v (.int .i64 2))))], none, 0⟩,
   ⟨some 10, .newc 40 [.d (.v (.int .i64 0)), .d (.v (.int .i64 0)), .d (.v (.int .u64 0)), .d (.v (.int .u64 0)), .d (.v (.int .i64 0)), .d (.v (.bool false)), .d (.v (.int .i64 0)), .d (.v (.int .i64 0)), .d (.v (.bool false)), .d (.v (.int .u64 0)), .d (.v (.slice none 0 0)), .d (.v (.int .u64 0)), .d (.v (.slice none 0 0)), .d (.v (.int .u64 0)), .d (.v (.slice none 0 0)), .d (.v (.int .u64 0)), .d (.v (.slice none 0 0)), .d (.v (.slice none 0 0)), .d (.v (.int .i64 0)), .d (.v (.int .i64 0)), .d (.v (.int .i64 0)), .d (.v (.int .i64 0)), .d (.v (.int .i64 0)), .d (.v (.int .u64 0)), .d (.v (.int .u64 0)), .d (.v (.int .u64 0)), .d (.v (.int .u64 0)), .d (.v (.int .u64 0)), .d (.v (.int .i64 0)), .d (.v (.slice none 0 0)), .d (.v (.int .u64 0)), .d (.v (.int .i64 0)), .d (.v (.bool false))], none, 0⟩,
   ⟨none, .st 33 (.t 10) (.t 51), none, 0⟩,
   ⟨some 11, .mv (.c (.d (.v (.int .i64 0)))), none, 0⟩]
def K1006_26 : CC := .seq (.reg false [⟨some 45, .mv (.t 9), none, 0⟩,
   ⟨some 46, .eq .int true (.t 45) (.c (.d (.v (.int .i64 0)))), none, 0⟩,
   ⟨some 47, .mv (.t 46), none, 0⟩,
   ⟨some 48, .mv (.t 8), some (47, false), 0⟩,
   ⟨some 49, .eq .ptr false (.t 48) (.c (.d (.v (.pointer none)))), some (47, false), 0⟩,
   ⟨some 50, .pick (.t 47) (.c (.d (.v (.bool true)))) (.t 49), none, 0⟩])
 (.cond 50 (.seq (.reg false [⟨some 6, .mv (.c (.d (.v (.bool false)))), none, 0⟩])
   (.ret))
   (.skip))
def K1006_27 : CC := .reg false [⟨some 41, .ld 8 true (.t 7), none, 0⟩,
   ⟨some 42, .call (.c (.fn (.func 12) [] [])) [.t 41], none, 0⟩,
   ⟨some 40, .mv (.t 42), none, 0⟩,
   ⟨some 43, .ext 0 (.t 40), none, 0⟩,
   ⟨some 44, .ext 1 (.t 40), none, 0⟩,
   ⟨some 8, .mv (.t 43), none, 0⟩,
   ⟨some 9, .mv (.t 44), none, 0⟩]
def K1006_28 : CC := .seq (.reg false [⟨some 37, .mv (.t 2), none, 0⟩,
   ⟨some 38, .len (.t 37), none, 0⟩,
   ⟨some 39, .bin .gtr (.t 38) (.c (.d (.v (.int .i64 300)))), none, 0⟩])
 (.cond 39 (.seq (.reg false [⟨some 6, .mv (.c (.d (.v (.bool true)))), none, 0⟩])
   (.ret))
   (.skip))
def K1006_29 : CC := .reg false [⟨some 28, .mv (.t 0), none, 0⟩,
   ⟨some 29, .conv .i64 (.t 28), none, 0⟩,
   ⟨some 30, .bin .rem (.t 29) (.c (.d (.v (.int .i64 5)))), none, 0⟩,
   ⟨some 31, .bin .add (.c (.d (.v (.int .i64 2)))) (.t 30), none, 0⟩,
   ⟨some 32, .mv (.t 1), none, 0⟩,
   ⟨some 33, .conv .u64 (.t 32), none, 0⟩,
   ⟨some 34, .bin .rem (.t 33) (.c (.d (.v (.int .u64 3)))), none, 0⟩,
   ⟨some 35, .bin .add (.c (.d (.v (.int .u64 1)))) (.t 34), none, 0⟩,
   ⟨some 36, .bld [.d (.v (.int .i64 0)), .d (.v (.int .i64 0)), .d (.v (.int .i64 0)), .d (.v (.int .i64 0)), .d (.v (.int .i64 0)), .d (.v (.int .i64 0)), .d (.v (.int .i64 0)), .d (.v (.int .u64 0))] [(0, 1, .t 31), (1, 1, .c (.d (.v (.int .i64 1)))), (2, 1, .c (.d (.v (.int .i64 4)))), (3, 1, .c (.d (.v (.int .i64 1)))), (4, 1, .c (.d (.v (.int .i64 1)))), (6, 1, .c (.d (.v (.int .i64 1)))), (7, 1, .t 35)], none, 0⟩,
   ⟨some 7, .newc 26 [.d (.v (.int .i64 0)), .d (.v (.int .i64 0)), .d (.v (.int .i64 0)), .d (.v (.int .i64 0)), .d (.v (.int .i64 0)), .d (.v (.int .i64 0)), .d (.v (.int .i64 0)), .d (.v (.int .u64 0))], none, 0⟩,
   ⟨none, .st 8 (.t 7) (.t 36), none, 0⟩]
def K1006_30 : CC := .seq (.reg false [⟨some 26, .call (.c (.fn (.func 26) [] [])) [], none, 0⟩,
   ⟨some 27, .un .not (.t 26), none, 0⟩])
 (.cond 27 (.seq (.reg false [⟨some 6, .mv (.c (.d (.v (.bool false)))), none, 0⟩])
   (.ret))
   (.skip))
def K1006_31 : CC := .reg false [⟨some 6, .mv (.c (.d (.v (.bool false)))), none, 0⟩]
def PQ6 : CC := .seq K1006_13 (.seq K1006_12 (.seq K1006_11 (.seq K1006_10 K1006_9)))
def PW6 : CC := .seq K1006_8 (.cond 122 K1006_4 (.seq K1006_7 (.cond 135 K1006_5 K1006_6)))
/-- coatcheck/coatchecklaw11.EntryKills -/
def C1006 : CF := ⟨3, [(6, none)],
 .seq K1006_31 (.seq K1006_30 (.seq K1006_29 (.seq K1006_28 (.seq K1006_27 (.seq K1006_26 (.seq K1006_25 (.seq (.seq K1006_24 (.block 0 (.loop L1006_23))) (.seq K1006_22 (.seq K1006_21 (.seq K1006_20 (.seq (.seq K1006_19 (.block 2 (.loop L1006_18))) (.seq K1006_17 (.seq (.seq K1006_16 (.block 4 (.loop L1006_15))) K1006_1)))))))))))))⟩
theorem c1006 : coF Try.prog Try.f7 = some C1006 := by kernel_rfl
def A1006 : Ann := { keep := [0, 1, 2, 6, 7, 8, 9, 10, 11, 12, 13, 14, 15, 16, 17, 18, 19, 20, 21, 22, 23, 25, 27, 39, 50, 57, 70, 77, 88, 104, 121, 122, 133, 135, 142, 144, 153, 159, 161, 183], live := [(0, [2, 7, 8, 10, 11, 12]), (2, [2, 7, 8, 13, 14, 15]), (4, [2, 7, 8, 13, 14, 16, 17, 18])] }
def E1006 {Ω : Type} : Env Ω := econs 12 S34c (econs 17 S33c (econs 26 S1028 (econs 28 S1029m (econs 33 S1031c (enil)))))
theorem e1006 : GoodE Try.prog E1006 := GoodE.cons g34c (GoodE.cons g33c (GoodE.cons g1028 (GoodE.cons g1029m (GoodE.cons g1031c (GoodE.nil)))))
def Z1006_15 {Ω : Type} (it : Itr Ω) (K : SV → SH → Option Ω) : SE → SS → Option Ω := kblk 4 (kseq it E1006 A1006 K1006_1 0 (kfn C1006 K))
def Z1006_18 {Ω : Type} (it : Itr Ω) (K : SV → SH → Option Ω) : SE → SS → Option Ω := kblk 2 (kseq it E1006 A1006 (.seq K1006_17 (.seq (.seq K1006_16 (.block 4 (.loop L1006_15))) K1006_1)) 0 (kfn C1006 K))
def Z1006_23 {Ω : Type} (it : Itr Ω) (K : SV → SH → Option Ω) : SE → SS → Option Ω := kblk 0 (kseq it E1006 A1006 (.seq K1006_22 (.seq K1006_21 (.seq K1006_20 (.seq (.seq K1006_19 (.block 2 (.loop L1006_18))) (.seq K1006_17 (.seq (.seq K1006_16 (.block 4 (.loop L1006_15))) K1006_1)))))) 0 (kfn C1006 K))
end Go.Sx.Pr

/- Contracts with several outcomes, whose results may say less than the run's. -/
namespace Go.Sx
end Go.Sx

/- The contract of Both: a memory and the document's, of the same words. -/
namespace Go.Sx.Pr
open Go Go.Sx Go.Sx.Md Go.Proofs
set_option maxRecDepth 100000

end Go.Sx.Pr

namespace Go.Sx.Pr
open Go Go.Sx Go.Proofs
set_option maxRecDepth 100000
end Go.Sx.Pr

/- Rows of workers' states and of bools, as functions of their places. -/
namespace Go.Sx.Pr
open Go Go.Sx Go.Sx.Md
def rowW (a : Nat → Wk) : Nat → Nat → DV := fun i j => lkD ((encW (a i)).map dv) j
def wk0 : Wk := ⟨0, 0, 0, 0, 0, false, 0, 0, false, 0, [], 0, [], 0, [], 0, [], [], 0, 0, 0, 0, 0, 0, 0, 0, 0, 0, 0, [], 0, 0, false⟩
end Go.Sx.Pr

/- The pieces of coatchecklaw11.EntryChanges. -/
namespace Go.Sx.Pr
open Go Go.Sx Go.Sx.Md Go.Proofs
set_option maxRecDepth 100000

theorem seqE {Ω : Type} {it : Itr Ω} {E : Env Ω} {A : Ann} (a b : CC) (n : Nat) (s : SS) (k : SE → SS → Option Ω) : sxI it E A (.seq a b) n s k = sxI it E A a n s (kseq it E A b n k) := id (Eq.refl _)
theorem kseqA {Ω : Type} {it : Itr Ω} {E : Env Ω} {A : Ann} (a b : CC) (n : Nat) (k : SE → SS → Option Ω) : kseq it E A (.seq a b) n k = kseq it E A a n (kseq it E A b n k) := by
  funext e s; cases e <;> rfl
end Go.Sx.Pr

/- Normal forms of coatchecklaw11.EntryKills: the start, the first ticket, the workers. -/
namespace Go.Sx.Pr
open Go Go.Sx Go.Sx.Md Go.Proofs
set_option maxRecDepth 100000
theorem kl_n {Ω : Type} (it : Itr Ω) (K : SV → SH → Option Ω) (p q : Int) (ps : List Int) :
    sxFnI it E1006 A1006 C1006 [.d (.v (.int .u8 p)), .d (.v (.int .u8 q)), .d (.ints .u8 ps)] [] K =
    br (decide ((↑ (List.length ps) : Int) > 300)) (K (B true) [.cells 26 [I (w64' (2 + Int.tmod (w64' p) 5)), I 1, I 4, I 1, I 1, I 0, I 1, U (wU (1 + Int.tmod (wU q) 3))]]) (br (!chkC (Cf.mk (w64' (2 + Int.tmod (w64' p) 5)) 1 4 1 1 0 1 (wU (1 + Int.tmod (wU q) 3))) == 0) (br (!chkC (Cf.mk (w64' (2 + Int.tmod (w64' p) 5)) 1 4 1 1 0 1 (wU (1 + Int.tmod (wU q) 3))) == 0) (K (B false) [.cells 26 [I (w64' (2 + Int.tmod (w64' p) 5)), I 1, I 4, I 1, I 1, I 0, I 1, U (wU (1 + Int.tmod (wU q) 3))]]) (K (B false) [.cells 26 [I (w64' (2 + Int.tmod (w64' p) 5)), I 1, I 4, I 1, I 1, I 0, I 1, U (wU (1 + Int.tmod (wU q) 3))]])) (it [2, 7, 8, 10, 11, 12] 10 (sxI it E1006 A1006 L1006_23 0) (SS.mk [(2, .d (DV.ints .u8 ps)), (7, .ptr 0 0), (8, .ptr 8 0), (10, .ptr 9 0), (11, I 0), (12, I 0)] [.cells 26 [I (w64' (2 + Int.tmod (w64' p) 5)), I 1, I 4, I 1, I 1, I 0, I 1, U (wU (1 + Int.tmod (wU q) 3))], .dead, .dead, .dead, .dead, .dead, .dead, .rowi 24 .u64 (flC (Cf.mk (w64' (2 + Int.tmod (w64' p) 5)) 1 4 1 1 0 1 (wU (1 + Int.tmod (wU q) 3)))), .cells 79 (memC (Cf.mk (w64' (2 + Int.tmod (w64' p) 5)) 1 4 1 1 0 1 (wU (1 + Int.tmod (wU q) 3))) ac0 7), .cells 40 [I 20, I 0, U 0, U 0, I 0, B false, I 0, I 0, B false, U 0, .d (DV.v (Value.slice none 0 0)), U 0, .d (DV.v (Value.slice none 0 0)), U 0, .d (DV.v (Value.slice none 0 0)), U 0, .d (DV.v (Value.slice none 0 0)), .d (DV.v (Value.slice none 0 0)), I 2, I 0, I 0, I 0, I 0, U 0, U 0, U 0, U 0, U 0, I 0, .d (DV.v (Value.slice none 0 0)), U 0, I 0, B false]]) (Z1006_23 it K))) := by kernel_rfl
theorem kl_a {Ω : Type} (it : Itr Ω) (IT : SS → Option Ω) (K : SV → SH → Option Ω) (c : Cf) (ps : List Int) (way i : Int) (m : Mm) (x : Wk) :
    sxI it E1006 A1006 L1006_23 0 ⟨[(2, .d (.ints .u8 ps)), (7, .ptr 0 0), (8, .ptr 8 0), (10, .ptr 9 0), (11, I way), (12, I i)], [.cells 26 (encC c), .dead, .dead, .dead, .dead, .dead, .dead, .rowi 24 .u64 m.ws, .cells 79 (memC m.c m.s 7), .cells 40 (encW x)]⟩ (kitV [2, 7, 8, 10, 11, 12] 10 IT (Z1006_23 it K)) =
    br (decide (i < 5)) (br (way == 0) (br (okM (m) && okW (x)) (IT (SS.mk [(2, .d (DV.ints .u8 ps)), (7, .ptr 0 0), (8, .ptr 8 0), (10, .ptr 9 0), (11, I (SR.way (stepN (m) (x)))), (12, I (w64' (i + 1)))] [.cells 26 (encC c), .dead, .dead, .dead, .dead, .dead, .dead, .rowi 24 .u64 (Mm.ws (SR.m (stepN (m) (x)))), .cells 79 (memC (Mm.c (SR.m (stepN (m) (x)))) (Mm.s (SR.m (stepN (m) (x)))) 7), .cells 40 (encW (SR.x (stepN (m) (x))))])) none) (br (!way == 1) (K (B false) [.cells 26 (encC c), .dead, .dead, .dead, .dead, .dead, .dead, .rowi 24 .u64 (Mm.ws m), .cells 79 (memC (Mm.c m) (Mm.s m) 7), .cells 40 (encW x)]) (br (decide (0 ≤ Cf.a c) && fits (Int.toNat (Cf.a c)) 360) (it [2, 7, 8, 13, 14, 15] 11 (sxI it E1006 A1006 L1006_18 2) (SS.mk [(2, .d (DV.ints .u8 ps)), (7, .ptr 0 0), (8, .ptr 8 0), (13, U (Wk.T x)), (14, .own 10), (15, I 0)] [.cells 26 (encC c), .dead, .dead, .dead, .dead, .dead, .dead, .rowi 24 .u64 (Mm.ws m), .cells 79 (memC (Mm.c m) (Mm.s m) 7), .cells 40 (encW x), .row 40 33 (Int.toNat (Cf.a c)) fun x j => lkD [DV.v (Value.int .i64 0), DV.v (Value.int .i64 0), DV.v (Value.int .u64 0), DV.v (Value.int .u64 0), DV.v (Value.int .i64 0), DV.v (Value.bool false), DV.v (Value.int .i64 0), DV.v (Value.int .i64 0), DV.v (Value.bool false), DV.v (Value.int .u64 0), DV.ints .i64 [], DV.v (Value.int .u64 0), DV.ints .i64 [], DV.v (Value.int .u64 0), DV.ints .i64 [], DV.v (Value.int .u64 0), DV.ints .i64 [], DV.ints .i64 [], DV.v (Value.int .i64 0), DV.v (Value.int .i64 0), DV.v (Value.int .i64 0), DV.v (Value.int .i64 0), DV.v (Value.int .i64 0), DV.v (Value.int .u64 0), DV.v (Value.int .u64 0), DV.v (Value.int .u64 0), DV.v (Value.int .u64 0), DV.v (Value.int .u64 0), DV.v (Value.int .i64 0), DV.ints .u64 [], DV.v (Value.int .u64 0), DV.v (Value.int .i64 0), DV.v (Value.bool false)] j]) (Z1006_18 it K)) none))) (br (!way == 1) (K (B false) [.cells 26 (encC c), .dead, .dead, .dead, .dead, .dead, .dead, .rowi 24 .u64 (Mm.ws m), .cells 79 (memC (Mm.c m) (Mm.s m) 7), .cells 40 (encW x)]) (br (decide (0 ≤ Cf.a c) && fits (Int.toNat (Cf.a c)) 360) (it [2, 7, 8, 13, 14, 15] 11 (sxI it E1006 A1006 L1006_18 2) (SS.mk [(2, .d (DV.ints .u8 ps)), (7, .ptr 0 0), (8, .ptr 8 0), (13, U (Wk.T x)), (14, .own 10), (15, I 0)] [.cells 26 (encC c), .dead, .dead, .dead, .dead, .dead, .dead, .rowi 24 .u64 (Mm.ws m), .cells 79 (memC (Mm.c m) (Mm.s m) 7), .cells 40 (encW x), .row 40 33 (Int.toNat (Cf.a c)) fun x j => lkD [DV.v (Value.int .i64 0), DV.v (Value.int .i64 0), DV.v (Value.int .u64 0), DV.v (Value.int .u64 0), DV.v (Value.int .i64 0), DV.v (Value.bool false), DV.v (Value.int .i64 0), DV.v (Value.int .i64 0), DV.v (Value.bool false), DV.v (Value.int .u64 0), DV.ints .i64 [], DV.v (Value.int .u64 0), DV.ints .i64 [], DV.v (Value.int .u64 0), DV.ints .i64 [], DV.v (Value.int .u64 0), DV.ints .i64 [], DV.ints .i64 [], DV.v (Value.int .i64 0), DV.v (Value.int .i64 0), DV.v (Value.int .i64 0), DV.v (Value.int .i64 0), DV.v (Value.int .i64 0), DV.v (Value.int .u64 0), DV.v (Value.int .u64 0), DV.v (Value.int .u64 0), DV.v (Value.int .u64 0), DV.v (Value.int .u64 0), DV.v (Value.int .i64 0), DV.ints .u64 [], DV.v (Value.int .u64 0), DV.v (Value.int .i64 0), DV.v (Value.bool false)] j]) (Z1006_18 it K)) none)) := by kernel_rfl
theorem kl_ar {Ω : Type} (it : Itr Ω) (IT : SS → Option Ω) (K : SV → SH → Option Ω) (c : Cf) (ps : List Int) (way i : Int) (m : Mm) (x : Wk) :
    sxI it E1006 A1006 L1006_23 0 ⟨[(2, .d (.ints .u8 ps)), (7, .ptr 0 0), (8, .ptr 8 0), (10, .ptr 9 0), (11, I way), (12, I i)], [.cells 26 (encC c), .dead, .dead, .dead, .dead, .dead, .dead, .rowi 24 .u64 m.ws, .cells 79 (memC m.c m.s 7), .cells 40 [I 20, I 0, U 0, U 0, I 0, B false, I 0, I 0, B false, U 0, .d (.v (.slice none 0 0)), U 0, .d (.v (.slice none 0 0)), U 0, .d (.v (.slice none 0 0)), U 0, .d (.v (.slice none 0 0)), .d (.v (.slice none 0 0)), I 2, I 0, I 0, I 0, I 0, U 0, U 0, U 0, U 0, U 0, I 0, .d (.v (.slice none 0 0)), U 0, I 0, B false]]⟩ (kitV [2, 7, 8, 10, 11, 12] 10 IT (Z1006_23 it K)) =
    br (decide (i < 5)) (br (way == 0) (br (okM (m) && true) (IT (SS.mk [(2, .d (DV.ints .u8 ps)), (7, .ptr 0 0), (8, .ptr 8 0), (10, .ptr 9 0), (11, I (SR.way (stepN (m) ({ wk0 with line := 20, B := 2 })))), (12, I (w64' (i + 1)))] [.cells 26 (encC c), .dead, .dead, .dead, .dead, .dead, .dead, .rowi 24 .u64 (Mm.ws (SR.m (stepN (m) ({ wk0 with line := 20, B := 2 })))), .cells 79 (memC (Mm.c (SR.m (stepN (m) ({ wk0 with line := 20, B := 2 })))) (Mm.s (SR.m (stepN (m) ({ wk0 with line := 20, B := 2 })))) 7), .cells 40 (encW (SR.x (stepN (m) ({ wk0 with line := 20, B := 2 }))))])) none) (br (!way == 1) (K (B false) [.cells 26 (encC c), .dead, .dead, .dead, .dead, .dead, .dead, .rowi 24 .u64 (Mm.ws m), .cells 79 (memC (Mm.c m) (Mm.s m) 7), .cells 40 [I 20, I 0, U 0, U 0, I 0, B false, I 0, I 0, B false, U 0, .d (DV.v (Value.slice none 0 0)), U 0, .d (DV.v (Value.slice none 0 0)), U 0, .d (DV.v (Value.slice none 0 0)), U 0, .d (DV.v (Value.slice none 0 0)), .d (DV.v (Value.slice none 0 0)), I 2, I 0, I 0, I 0, I 0, U 0, U 0, U 0, U 0, U 0, I 0, .d (DV.v (Value.slice none 0 0)), U 0, I 0, B false]]) (br (decide (0 ≤ Cf.a c) && fits (Int.toNat (Cf.a c)) 360) (it [2, 7, 8, 13, 14, 15] 11 (sxI it E1006 A1006 L1006_18 2) (SS.mk [(2, .d (DV.ints .u8 ps)), (7, .ptr 0 0), (8, .ptr 8 0), (13, U 0), (14, .own 10), (15, I 0)] [.cells 26 (encC c), .dead, .dead, .dead, .dead, .dead, .dead, .rowi 24 .u64 (Mm.ws m), .cells 79 (memC (Mm.c m) (Mm.s m) 7), .cells 40 [I 20, I 0, U 0, U 0, I 0, B false, I 0, I 0, B false, U 0, .d (DV.v (Value.slice none 0 0)), U 0, .d (DV.v (Value.slice none 0 0)), U 0, .d (DV.v (Value.slice none 0 0)), U 0, .d (DV.v (Value.slice none 0 0)), .d (DV.v (Value.slice none 0 0)), I 2, I 0, I 0, I 0, I 0, U 0, U 0, U 0, U 0, U 0, I 0, .d (DV.v (Value.slice none 0 0)), U 0, I 0, B false], .row 40 33 (Int.toNat (Cf.a c)) fun x j => lkD [DV.v (Value.int .i64 0), DV.v (Value.int .i64 0), DV.v (Value.int .u64 0), DV.v (Value.int .u64 0), DV.v (Value.int .i64 0), DV.v (Value.bool false), DV.v (Value.int .i64 0), DV.v (Value.int .i64 0), DV.v (Value.bool false), DV.v (Value.int .u64 0), DV.ints .i64 [], DV.v (Value.int .u64 0), DV.ints .i64 [], DV.v (Value.int .u64 0), DV.ints .i64 [], DV.v (Value.int .u64 0), DV.ints .i64 [], DV.ints .i64 [], DV.v (Value.int .i64 0), DV.v (Value.int .i64 0), DV.v (Value.int .i64 0), DV.v (Value.int .i64 0), DV.v (Value.int .i64 0), DV.v (Value.int .u64 0), DV.v (Value.int .u64 0), DV.v (Value.int .u64 0), DV.v (Value.int .u64 0), DV.v (Value.int .u64 0), DV.v (Value.int .i64 0), DV.ints .u64 [], DV.v (Value.int .u64 0), DV.v (Value.int .i64 0), DV.v (Value.bool false)] j]) (Z1006_18 it K)) none))) (br (!way == 1) (K (B false) [.cells 26 (encC c), .dead, .dead, .dead, .dead, .dead, .dead, .rowi 24 .u64 (Mm.ws m), .cells 79 (memC (Mm.c m) (Mm.s m) 7), .cells 40 [I 20, I 0, U 0, U 0, I 0, B false, I 0, I 0, B false, U 0, .d (DV.v (Value.slice none 0 0)), U 0, .d (DV.v (Value.slice none 0 0)), U 0, .d (DV.v (Value.slice none 0 0)), U 0, .d (DV.v (Value.slice none 0 0)), .d (DV.v (Value.slice none 0 0)), I 2, I 0, I 0, I 0, I 0, U 0, U 0, U 0, U 0, U 0, I 0, .d (DV.v (Value.slice none 0 0)), U 0, I 0, B false]]) (br (decide (0 ≤ Cf.a c) && fits (Int.toNat (Cf.a c)) 360) (it [2, 7, 8, 13, 14, 15] 11 (sxI it E1006 A1006 L1006_18 2) (SS.mk [(2, .d (DV.ints .u8 ps)), (7, .ptr 0 0), (8, .ptr 8 0), (13, U 0), (14, .own 10), (15, I 0)] [.cells 26 (encC c), .dead, .dead, .dead, .dead, .dead, .dead, .rowi 24 .u64 (Mm.ws m), .cells 79 (memC (Mm.c m) (Mm.s m) 7), .cells 40 [I 20, I 0, U 0, U 0, I 0, B false, I 0, I 0, B false, U 0, .d (DV.v (Value.slice none 0 0)), U 0, .d (DV.v (Value.slice none 0 0)), U 0, .d (DV.v (Value.slice none 0 0)), U 0, .d (DV.v (Value.slice none 0 0)), .d (DV.v (Value.slice none 0 0)), I 2, I 0, I 0, I 0, I 0, U 0, U 0, U 0, U 0, U 0, I 0, .d (DV.v (Value.slice none 0 0)), U 0, I 0, B false], .row 40 33 (Int.toNat (Cf.a c)) fun x j => lkD [DV.v (Value.int .i64 0), DV.v (Value.int .i64 0), DV.v (Value.int .u64 0), DV.v (Value.int .u64 0), DV.v (Value.int .i64 0), DV.v (Value.bool false), DV.v (Value.int .i64 0), DV.v (Value.int .i64 0), DV.v (Value.bool false), DV.v (Value.int .u64 0), DV.ints .i64 [], DV.v (Value.int .u64 0), DV.ints .i64 [], DV.v (Value.int .u64 0), DV.ints .i64 [], DV.v (Value.int .u64 0), DV.ints .i64 [], DV.ints .i64 [], DV.v (Value.int .i64 0), DV.v (Value.int .i64 0), DV.v (Value.int .i64 0), DV.v (Value.int .i64 0), DV.v (Value.int .i64 0), DV.v (Value.int .u64 0), DV.v (Value.int .u64 0), DV.v (Value.int .u64 0), DV.v (Value.int .u64 0), DV.v (Value.int .u64 0), DV.v (Value.int .i64 0), DV.ints .u64 [], DV.v (Value.int .u64 0), DV.v (Value.int .i64 0), DV.v (Value.bool false)] j]) (Z1006_18 it K)) none)) := by kernel_rfl
theorem kl_b {Ω : Type} (it : Itr Ω) (IT : SS → Option Ω) (K : SV → SH → Option Ω) (c : Cf) (ps : List Int) (tk i : Int) (m : Mm) (x : Wk) (n : Nat) (a : Nat → Wk) :
    sxI it E1006 A1006 L1006_18 2 ⟨[(2, .d (.ints .u8 ps)), (7, .ptr 0 0), (8, .ptr 8 0), (13, U tk), (14, .own 10), (15, I i)], [.cells 26 (encC c), .dead, .dead, .dead, .dead, .dead, .dead, .rowi 24 .u64 m.ws, .cells 79 (memC m.c m.s 7), .cells 40 (encW x), .row 40 33 n (rowW a)]⟩ (kitV [2, 7, 8, 13, 14, 15] 11 IT (Z1006_18 it K)) =
    br (decide (i < (↑n : Int))) (br (inB i n) (IT (SS.mk [(2, .d (DV.ints .u8 ps)), (7, .ptr 0 0), (8, .ptr 8 0), (13, U tk), (14, .own 10), (15, I (w64' (i + 1)))] [.cells 26 (encC c), .dead, .dead, .dead, .dead, .dead, .dead, .rowi 24 .u64 (Mm.ws m), .cells 79 (memC (Mm.c m) (Mm.s m) 7), .cells 40 (encW x), .row 40 33 n (updRow (rowW a) (Int.toNat i) 0 (List.map dv (encW { wk0 with line := 42, T := tk })))])) none) (it [2, 7, 8, 13, 14, 16, 17, 18] 11 (sxI it E1006 A1006 L1006_15 4) (SS.mk [(2, .d (DV.ints .u8 ps)), (7, .ptr 0 0), (8, .ptr 8 0), (13, U tk), (14, .own 10), (16, I 0), (17, B false), (18, I 0)] [.cells 26 (encC c), .dead, .dead, .dead, .dead, .dead, .dead, .rowi 24 .u64 (Mm.ws m), .cells 79 (memC (Mm.c m) (Mm.s m) 7), .cells 40 (encW x), .row 40 33 n (rowW a)]) (Z1006_15 it K)) := by kernel_rfl
end Go.Sx.Pr
