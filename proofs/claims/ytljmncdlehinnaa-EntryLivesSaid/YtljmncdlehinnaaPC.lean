/- Pieces of the code of functions, compiled for the symbolic interpreter, each checked against the program; no conditions. -/
import Derived.Test.YtljmncdlehinnaaR14
import Derived.Test.YtljmncdlehinnaaR15
import Derived.Test.YtljmncdlehinnaaRows
import Derived.KernelRfl
import Derived.Test.YtljmncdlehinnaaR14
import Derived.Test.YtljmncdlehinnaaN1
import Derived.Test.YtljmncdlehinnaaR10
set_option linter.all false
set_option linter.unusedVariables false
set_option linter.unusedSimpArgs false
set_option linter.unnecessarySimpa false
namespace Go.Sx.Pr
open Go Go.Sx Go.Proofs
set_option maxRecDepth 100000
def K1033_1 : CC := .seq (.reg false [⟨some 12, .ld 8 true (.t 2), none, 0⟩,
   ⟨some 13, .call (.c (.fn (.func 88) [] [])) [.t 12], none, 0⟩,
   ⟨some 14, .eq .int false (.t 13) (.c (.d (.v (.int .i64 0)))), none, 0⟩,
   ⟨some 15, .mv (.t 14), none, 0⟩,
   ⟨some 16, .mv (.t 5), some (15, true), 0⟩,
   ⟨some 17, .bin .geq (.t 16) (.c (.d (.v (.int .i64 0)))), some (15, true), 0⟩,
   ⟨some 18, .pick (.t 15) (.t 17) (.c (.d (.v (.bool false)))), none, 0⟩,
   ⟨some 19, .mv (.t 18), none, 0⟩,
   ⟨some 20, .mv (.t 5), some (19, true), 0⟩,
   ⟨some 21, .fa 4 (.t 2), some (19, true), 0⟩,
   ⟨some 22, .ld 1 false (.t 21), some (19, true), 0⟩,
   ⟨some 23, .bin .lss (.t 20) (.t 22), some (19, true), 0⟩,
   ⟨some 24, .pick (.t 19) (.t 23) (.c (.d (.v (.bool false)))), none, 0⟩,
   ⟨some 25, .mv (.t 24), none, 0⟩,
   ⟨some 26, .mv (.t 6), some (25, true), 0⟩,
   ⟨some 27, .bin .geq (.t 26) (.c (.d (.v (.int .u64 1)))), some (25, true), 0⟩,
   ⟨some 28, .pick (.t 25) (.t 27) (.c (.d (.v (.bool false)))), none, 0⟩,
   ⟨some 29, .mv (.t 28), none, 0⟩,
   ⟨some 30, .mv (.t 6), some (29, true), 0⟩,
   ⟨some 31, .fa 7 (.t 2), some (29, true), 0⟩,
   ⟨some 32, .ld 1 false (.t 31), some (29, true), 0⟩,
   ⟨some 33, .bin .leq (.t 30) (.t 32), some (29, true), 0⟩,
   ⟨some 34, .pick (.t 29) (.t 33) (.c (.d (.v (.bool false)))), none, 0⟩,
   ⟨some 4, .mv (.t 34), none, 0⟩])
 (.ret)
def K1033_2 : CC := .reg false [⟨some 8, .mv (.t 1), none, 0⟩,
   ⟨some 9, .call (.c (.fn (.func 71) [] [])) [.t 8], none, 0⟩,
   ⟨some 7, .mv (.t 9), none, 0⟩,
   ⟨some 10, .ext 0 (.t 7), none, 0⟩,
   ⟨some 11, .ext 1 (.t 7), none, 0⟩,
   ⟨some 5, .mv (.t 10), none, 0⟩,
   ⟨some 6, .mv (.t 11), none, 0⟩]
def K1033_3 : CC := .reg false [⟨some 2, .box 26 8 (.t 0), none, 0⟩,
   ⟨some 4, .mv (.c (.d (.v (.bool false)))), none, 0⟩]
/-- coatcheck/entry.Good -/
def C1033 : CF := ⟨2, [(4, none)],
 .seq K1033_3 (.seq K1033_2 K1033_1)⟩
theorem c1033 : coF Try.prog Try.f35 = some C1033 := by kernel_rfl
def A1033 : Ann := { keep := [0, 1, 2, 4, 5, 6], live := [] }
def E1033 {Ω : Type} : Env Ω := econs 71 S1068c (econs 88 S106 (enil))
theorem e1033 : GoodE Try.prog E1033 := GoodE.cons g1068c (GoodE.cons g106 (GoodE.nil))
def S1033 {Ω : Type} : Spec Ω := inl E1033 A1033 C1033 false
theorem g1033 : Good1 Try.prog 35 S1033 := Good1.inl e1033 mix Try.func35 (by kernel_rfl) c1033 A1033 false
def K1031_1 : CC := .seq (.reg false [⟨some 40, .mv (.t 1), none, 0⟩,
   ⟨some 41, .ld 8 true (.t 8), none, 0⟩,
   ⟨some 42, .mv (.t 10), none, 0⟩,
   ⟨some 43, .call (.c (.fn (.func 39) [] [])) [.t 41, .t 42], none, 0⟩,
   ⟨some 44, .ixs 1 (.t 40) (.t 43), none, 0⟩,
   ⟨some 45, .ld 1 false (.t 44), none, 0⟩,
   ⟨some 46, .mv (.t 11), none, 0⟩,
   ⟨some 47, .call (.c (.fn (.func 76) [] [])) [.t 45, .t 46], none, 0⟩,
   ⟨some 39, .mv (.t 47), none, 0⟩,
   ⟨some 48, .ext 0 (.t 39), none, 0⟩,
   ⟨some 49, .ext 1 (.t 39), none, 0⟩,
   ⟨some 12, .mv (.t 48), none, 0⟩,
   ⟨some 13, .mv (.t 49), none, 0⟩])
 (.seq (.seq (.reg false [⟨some 50, .mv (.t 13), none, 0⟩,
   ⟨some 51, .un .not (.t 50), none, 0⟩])
 (.cond 51 (.seq (.reg false [⟨some 6, .mv (.c (.d (.v (.int .i64 (-1))))), none, 0⟩,
     ⟨some 7, .mv (.c (.d (.v (.bool false)))), none, 0⟩])
   (.ret))
   (.skip)))
 (.seq (.reg false [⟨some 52, .mv (.t 12), none, 0⟩,
   ⟨some 6, .mv (.t 52), none, 0⟩,
   ⟨some 7, .mv (.c (.d (.v (.bool true)))), none, 0⟩])
 (.ret)))
def K1031_2 : CC := .reg false [⟨some 35, .mv (.t 2), none, 0⟩,
   ⟨some 36, .call (.c (.fn (.func 71) [] [])) [.t 35], none, 0⟩,
   ⟨some 34, .mv (.t 36), none, 0⟩,
   ⟨some 37, .ext 0 (.t 34), none, 0⟩,
   ⟨some 38, .ext 1 (.t 34), none, 0⟩,
   ⟨some 10, .mv (.t 37), none, 0⟩,
   ⟨some 11, .mv (.t 38), none, 0⟩]
def K1031_3 : CC := .seq (.reg false [⟨some 19, .mv (.t 9), none, 0⟩,
   ⟨some 20, .eq .int true (.t 19) (.c (.d (.v (.int .i64 0)))), none, 0⟩,
   ⟨some 21, .mv (.t 20), none, 0⟩,
   ⟨some 22, .mv (.t 1), some (21, false), 0⟩,
   ⟨some 23, .len (.t 22), some (21, false), 0⟩,
   ⟨some 24, .ld 8 true (.t 8), some (21, false), 0⟩,
   ⟨some 25, .call (.c (.fn (.func 86) [] [])) [.t 24], some (21, false), 0⟩,
   ⟨some 26, .eq .int true (.t 23) (.t 25), some (21, false), 0⟩,
   ⟨some 27, .pick (.t 21) (.c (.d (.v (.bool true)))) (.t 26), none, 0⟩,
   ⟨some 28, .mv (.t 27), none, 0⟩,
   ⟨some 29, .ld 8 true (.t 3), some (28, false), 0⟩,
   ⟨some 30, .mv (.t 2), some (28, false), 0⟩,
   ⟨some 31, .call (.c (.fn (.func 35) [] [])) [.t 29, .t 30], some (28, false), 0⟩,
   ⟨some 32, .un .not (.t 31), some (28, false), 0⟩,
   ⟨some 33, .pick (.t 28) (.c (.d (.v (.bool true)))) (.t 32), none, 0⟩])
 (.cond 33 (.seq (.reg false [⟨some 6, .mv (.c (.d (.v (.int .i64 (-1))))), none, 0⟩,
     ⟨some 7, .mv (.c (.d (.v (.bool false)))), none, 0⟩])
   (.ret))
   (.skip))
def K1031_4 : CC := .reg false [⟨some 15, .ld 8 true (.t 3), none, 0⟩,
   ⟨some 16, .call (.c (.fn (.func 85) [] [])) [.t 15], none, 0⟩,
   ⟨some 14, .mv (.t 16), none, 0⟩,
   ⟨some 17, .ext 0 (.t 14), none, 0⟩,
   ⟨some 18, .ext 1 (.t 14), none, 0⟩,
   ⟨some 8, .newc 75 [.d (.v (.int .i64 0)), .d (.v (.int .i64 0)), .d (.v (.int .i64 0)), .d (.v (.int .i64 0)), .d (.v (.int .i64 0)), .d (.v (.int .i64 0)), .d (.v (.int .i64 0)), .d (.v (.int .u64 0))], none, 0⟩,
   ⟨none, .st 8 (.t 8) (.t 17), none, 0⟩,
   ⟨some 9, .mv (.t 18), none, 0⟩]
def K1031_5 : CC := .reg false [⟨some 3, .box 26 8 (.t 0), none, 0⟩,
   ⟨some 6, .mv (.c (.d (.v (.int .i64 0)))), none, 0⟩,
   ⟨some 7, .mv (.c (.d (.v (.bool false)))), none, 0⟩]
/-- coatcheck/entry.Live -/
def C1031 : CF := ⟨3, [(6, none), (7, none)],
 .seq K1031_5 (.seq K1031_4 (.seq K1031_3 (.seq K1031_2 K1031_1)))⟩
theorem c1031 : coF Try.prog Try.f33 = some C1031 := by kernel_rfl
def A1031 : Ann := { keep := [0, 1, 2, 3, 6, 7, 8, 9, 10, 11, 12, 13, 33, 51], live := [] }
def E1031 {Ω : Type} : Env Ω := econs 35 S1033 (econs 39 S111c (econs 71 S1068c (econs 76 S1071 (econs 85 S63 (econs 86 S64 (enil))))))
theorem e1031 : GoodE Try.prog E1031 := GoodE.cons g1033 (GoodE.cons g111c (GoodE.cons g1068c (GoodE.cons g1071 (GoodE.cons g63 (GoodE.cons g64 (GoodE.nil))))))
def S1031 {Ω : Type} : Spec Ω := inl E1031 A1031 C1031 false
theorem g1031 : Good1 Try.prog 33 S1031 := Good1.inl e1031 mix Try.func33 (by kernel_rfl) c1031 A1031 false
def K1028_1 : CC := .seq (.reg true [⟨some 48, .mv (.t 4), none, 0⟩,
   ⟨some 49, .eq .int false (.t 48) (.c (.d (.v (.int .i64 1)))), none, 1⟩,
   ⟨some 50, .mv (.t 49), none, 3⟩,
   ⟨some 51, .fa 30 (.t 3), some (50, true), 7⟩,
   ⟨some 52, .ld 1 false (.t 51), some (50, true), 15⟩,
   ⟨some 53, .call (.c (.fn (.func 68) [] [])) [.c (.d (.v (.int .i64 0))), .c (.d (.v (.int .u64 1)))], some (50, true), 7⟩,
   ⟨some 54, .eq .int false (.t 52) (.t 53), some (50, true), 63⟩,
   ⟨some 55, .pick (.t 50) (.t 54) (.c (.d (.v (.bool false)))), none, 127⟩,
   ⟨some 56, .mv (.t 55), none, 255⟩,
   ⟨some 57, .mv (.t 7), some (56, true), 511⟩,
   ⟨some 58, .pick (.t 56) (.t 57) (.c (.d (.v (.bool false)))), none, 1023⟩,
   ⟨some 59, .mv (.t 58), none, 2047⟩,
   ⟨some 60, .mv (.t 6), some (59, true), 4095⟩,
   ⟨some 61, .eq .int false (.t 60) (.c (.d (.v (.int .i64 5)))), some (59, true), 8191⟩,
   ⟨some 62, .pick (.t 59) (.t 61) (.c (.d (.v (.bool false)))), none, 16383⟩,
   ⟨some 0, .mv (.t 62), none, 32767⟩])
 (.ret)
def K1028_2 : CC := .reg true [⟨some 36, .mv (.t 1), none, 0⟩,
   ⟨some 37, .nilc (.t 36), none, 1⟩,
   ⟨some 38, .fa 0 (.t 37), none, 3⟩,
   ⟨some 39, .fa 0 (.t 38), none, 7⟩,
   ⟨some 40, .ld 8 true (.t 39), none, 15⟩,
   ⟨some 41, .mv (.t 1), none, 0⟩,
   ⟨some 42, .call (.c (.fn (.func 17) [] [])) [.t 41], none, 32⟩,
   ⟨some 43, .fa 30 (.t 3), none, 0⟩,
   ⟨some 44, .ld 1 false (.t 43), none, 128⟩,
   ⟨some 45, .call (.c (.fn (.func 33) [] [])) [.t 40, .t 42, .t 44], none, 511⟩,
   ⟨some 35, .mv (.t 45), none, 1023⟩,
   ⟨some 46, .ext 0 (.t 35), none, 2047⟩,
   ⟨some 47, .ext 1 (.t 35), none, 2047⟩,
   ⟨some 6, .mv (.t 46), none, 4095⟩,
   ⟨some 7, .mv (.t 47), none, 16383⟩]
def L1028_3 : CC := .seq (.seq (.reg false [⟨some 20, .mv (.t 5), none, 0⟩,
   ⟨some 21, .bin .lss (.t 20) (.c (.d (.v (.int .i64 5)))), none, 0⟩,
   ⟨some 22, .mv (.t 21), none, 0⟩,
   ⟨some 23, .mv (.t 4), some (22, true), 0⟩,
   ⟨some 24, .eq .int false (.t 23) (.c (.d (.v (.int .i64 0)))), some (22, true), 0⟩,
   ⟨some 25, .pick (.t 22) (.t 24) (.c (.d (.v (.bool false)))), none, 0⟩])
 (.cond 25 (.skip)
   (.exit 0)))
 (.seq (.block 1 (.reg false [⟨some 29, .mv (.t 1), none, 0⟩,
     ⟨some 30, .ld 33 true (.t 3), none, 0⟩,
     ⟨some 31, .call (.c (.fn (.func 28) [] [])) [.t 29, .t 30], none, 0⟩,
     ⟨some 28, .mv (.t 31), none, 0⟩,
     ⟨some 32, .ext 0 (.t 28), none, 0⟩,
     ⟨some 33, .ext 1 (.t 28), none, 0⟩,
     ⟨some 34, .ext 2 (.t 28), none, 0⟩,
     ⟨none, .st 33 (.t 3) (.t 32), none, 0⟩,
     ⟨some 4, .mv (.t 33), none, 0⟩]))
 (.reg false [⟨some 26, .mv (.t 5), none, 0⟩,
   ⟨some 27, .bin .add (.t 26) (.c (.d (.v (.int .i64 1)))), none, 0⟩,
   ⟨some 5, .mv (.t 27), none, 0⟩]))
def K1028_4 : CC := .reg false [⟨some 5, .mv (.c (.d (.v (.int .i64 0)))), none, 0⟩]
def K1028_5 : CC := .reg false [⟨some 19, .bld [.d (.v (.int .i64 0)), .d (.v (.int .i64 0)), .d (.v (.int .u64 0)), .d (.v (.int .u64 0)), .d (.v (.int .i64 0)), .d (.v (.bool false)), .d (.v (.int .i64 0)), .d (.v (.int .i64 0)), .d (.v (.bool false)), .d (.v (.int .u64 0)), .d (.v (.slice none 0 0)), .d (.v (.int .u64 0)), .d (.v (.slice none 0 0)), .d (.v (.int .u64 0)), .d (.v (.slice none 0 0)), .d (.v (.int .u64 0)), .d (.v (.slice none 0 0)), .d (.v (.slice none 0 0)), .d (.v (.int .i64 0)), .d (.v (.int .i64 0)), .d (.v (.int .i64 0)), .d (.v (.int .i64 0)), .d (.v (.int .i64 0)), .d (.v (.int .u64 0)), .d (.v (.int .u64 0)), .d (.v (.int .u64 0)), .d (.v (.int .u64 0)), .d (.v (.int .u64 0)), .d (.v (.int .i64 0)), .d (.v (.slice none 0 0)), .d (.v (.int .u64 0)), .d (.v (.int .i64 0)), .d (.v (.bool false))] [(0, 1, .c (.d (.v (.int .i64 20)))), (18, 1, .c (.d (.v (.int .i64 6))))], none, 0⟩,
   ⟨some 3, .newc 40 [.d (.v (.int .i64 0)), .d (.v (.int .i64 0)), .d (.v (.int .u64 0)), .d (.v (.int .u64 0)), .d (.v (.int .i64 0)), .d (.v (.bool false)), .d (.v (.int .i64 0)), .d (.v (.int .i64 0)), .d (.v (.bool false)), .d (.v (.int .u64 0)), .d (.v (.slice none 0 0)), .d (.v (.int .u64 0)), .d (.v (.slice none 0 0)), .d (.v (.int .u64 0)), .d (.v (.slice none 0 0)), .d (.v (.int .u64 0)), .d (.v (.slice none 0 0)), .d (.v (.slice none 0 0)), .d (.v (.int .i64 0)), .d (.v (.int .i64 0)), .d (.v (.int .i64 0)), .d (.v (.int .i64 0)), .d (.v (.int .i64 0)), .d (.v (.int .u64 0)), .d (.v (.int .u64 0)), .d (.v (.int .u64 0)), .d (.v (.int .u64 0)), .d (.v (.int .u64 0)), .d (.v (.int .i64 0)), .d (.v (.slice none 0 0)), .d (.v (.int .u64 0)), .d (.v (.int .i64 0)), .d (.v (.bool false))], none, 0⟩,
   ⟨none, .st 33 (.t 3) (.t 19), none, 0⟩,
   ⟨some 4, .mv (.c (.d (.v (.int .i64 0)))), none, 0⟩]
def K1028_6 : CC := .seq (.reg false [⟨some 13, .mv (.t 2), none, 0⟩,
   ⟨some 14, .eq .int true (.t 13) (.c (.d (.v (.int .i64 0)))), none, 0⟩,
   ⟨some 15, .mv (.t 14), none, 0⟩,
   ⟨some 16, .mv (.t 1), some (15, false), 0⟩,
   ⟨some 17, .eq .ptr false (.t 16) (.c (.d (.v (.pointer none)))), some (15, false), 0⟩,
   ⟨some 18, .pick (.t 15) (.c (.d (.v (.bool true)))) (.t 17), none, 0⟩])
 (.cond 18 (.seq (.reg false [⟨some 0, .mv (.c (.d (.v (.bool false)))), none, 0⟩])
   (.ret))
   (.skip))
def K1028_7 : CC := .reg false [⟨some 9, .bld [.d (.v (.int .i64 0)), .d (.v (.int .i64 0)), .d (.v (.int .i64 0)), .d (.v (.int .i64 0)), .d (.v (.int .i64 0)), .d (.v (.int .i64 0)), .d (.v (.int .i64 0)), .d (.v (.int .u64 0))] [(0, 1, .c (.d (.v (.int .i64 1)))), (1, 1, .c (.d (.v (.int .i64 1)))), (2, 1, .c (.d (.v (.int .i64 8)))), (3, 1, .c (.d (.v (.int .i64 1)))), (4, 1, .c (.d (.v (.int .i64 2)))), (6, 1, .c (.d (.v (.int .i64 1)))), (7, 1, .c (.d (.v (.int .u64 1))))], none, 0⟩,
   ⟨some 10, .call (.c (.fn (.func 12) [] [])) [.t 9], none, 0⟩,
   ⟨some 8, .mv (.t 10), none, 0⟩,
   ⟨some 11, .ext 0 (.t 8), none, 0⟩,
   ⟨some 12, .ext 1 (.t 8), none, 0⟩,
   ⟨some 1, .mv (.t 11), none, 0⟩,
   ⟨some 2, .mv (.t 12), none, 0⟩]
def K1028_8 : CC := .reg false [⟨some 0, .mv (.c (.d (.v (.bool false)))), none, 0⟩]
/-- coatcheck/coatchecklaw11.awake -/
def C1028 : CF := ⟨0, [(0, none)],
 .seq K1028_8 (.seq K1028_7 (.seq K1028_6 (.seq K1028_5 (.seq (.seq K1028_4 (.block 0 (.loop L1028_3))) (.seq K1028_2 K1028_1)))))⟩
theorem c1028 : coF Try.prog Try.f26 = some C1028 := by kernel_rfl
def A1028 : Ann := { keep := [0, 1, 2, 3, 4, 5, 6, 7, 18, 25], live := [(0, [1, 3, 4, 5])] }
def E1028 {Ω : Type} : Env Ω := econs 17 S33c (econs 12 S34 (econs 28 S1029m (econs 33 S1031 (econs 68 S1066c (enil)))))
theorem e1028 : GoodE Try.prog E1028 := GoodE.cons g33c (GoodE.cons g34 (GoodE.cons g1029m (GoodE.cons g1031 (GoodE.cons g1066c (GoodE.nil)))))
def S1028 {Ω : Type} : Spec Ω := conSpec [] FTrue
theorem g1028 : Good1 Try.prog 26 S1028 := trueGood Try.func26 (by kernel_rfl) c1028 (A := A1028) e1028 mix (by kernel_rfl)
end Go.Sx.Pr

namespace Go.Sx.Pr
open Go Go.Sx Go.Proofs
set_option maxRecDepth 100000
def K1034_1 : CC := .seq (.reg false [⟨some 12, .ld 8 true (.t 2), none, 0⟩,
   ⟨some 13, .call (.c (.fn (.func 64) [] [])) [.t 12], none, 0⟩,
   ⟨some 14, .eq .int false (.t 13) (.c (.d (.v (.int .i64 0)))), none, 0⟩,
   ⟨some 15, .mv (.t 14), none, 0⟩,
   ⟨some 16, .mv (.t 5), some (15, true), 0⟩,
   ⟨some 17, .bin .geq (.t 16) (.c (.d (.v (.int .i64 0)))), some (15, true), 0⟩,
   ⟨some 18, .pick (.t 15) (.t 17) (.c (.d (.v (.bool false)))), none, 0⟩,
   ⟨some 19, .mv (.t 18), none, 0⟩,
   ⟨some 20, .mv (.t 5), some (19, true), 0⟩,
   ⟨some 21, .fa 4 (.t 2), some (19, true), 0⟩,
   ⟨some 22, .ld 1 false (.t 21), some (19, true), 0⟩,
   ⟨some 23, .bin .lss (.t 20) (.t 22), some (19, true), 0⟩,
   ⟨some 24, .pick (.t 19) (.t 23) (.c (.d (.v (.bool false)))), none, 0⟩,
   ⟨some 25, .mv (.t 24), none, 0⟩,
   ⟨some 26, .mv (.t 6), some (25, true), 0⟩,
   ⟨some 27, .bin .geq (.t 26) (.c (.d (.v (.int .u64 1)))), some (25, true), 0⟩,
   ⟨some 28, .pick (.t 25) (.t 27) (.c (.d (.v (.bool false)))), none, 0⟩,
   ⟨some 29, .mv (.t 28), none, 0⟩,
   ⟨some 30, .mv (.t 6), some (29, true), 0⟩,
   ⟨some 31, .fa 7 (.t 2), some (29, true), 0⟩,
   ⟨some 32, .ld 1 false (.t 31), some (29, true), 0⟩,
   ⟨some 33, .bin .leq (.t 30) (.t 32), some (29, true), 0⟩,
   ⟨some 34, .pick (.t 29) (.t 33) (.c (.d (.v (.bool false)))), none, 0⟩,
   ⟨some 4, .mv (.t 34), none, 0⟩])
 (.ret)
def K1034_2 : CC := .reg false [⟨some 8, .mv (.t 1), none, 0⟩,
   ⟨some 9, .call (.c (.fn (.func 37) [] [])) [.t 8], none, 0⟩,
   ⟨some 7, .mv (.t 9), none, 0⟩,
   ⟨some 10, .ext 0 (.t 7), none, 0⟩,
   ⟨some 11, .ext 1 (.t 7), none, 0⟩,
   ⟨some 5, .mv (.t 10), none, 0⟩,
   ⟨some 6, .mv (.t 11), none, 0⟩]
def K1034_3 : CC := .reg false [⟨some 2, .box 26 8 (.t 0), none, 0⟩,
   ⟨some 4, .mv (.c (.d (.v (.bool false)))), none, 0⟩]
/-- coatcheck/coatcheckref11.Good -/
def C1034 : CF := ⟨2, [(4, none)],
 .seq K1034_3 (.seq K1034_2 K1034_1)⟩
theorem c1034 : coF Try.prog Try.f36 = some C1034 := by kernel_rfl
def A1034 : Ann := { keep := [0, 1, 2, 4, 5, 6], live := [] }
def E1034 {Ω : Type} : Env Ω := econs 37 S1035c (econs 64 S19 (enil))
theorem e1034 : GoodE Try.prog E1034 := GoodE.cons g1035c (GoodE.cons g19 (GoodE.nil))
def S1034 {Ω : Type} : Spec Ω := inl E1034 A1034 C1034 false
theorem g1034 : Good1 Try.prog 36 S1034 := Good1.inl e1034 mix Try.func36 (by kernel_rfl) c1034 A1034 false
def K1032_1 : CC := .seq (.seq (.reg false [⟨some 47, .mv (.t 12), none, 0⟩,
   ⟨some 48, .eq .int true (.t 47) (.c (.d (.v (.int .i64 1)))), none, 0⟩,
   ⟨some 49, .mv (.t 48), none, 0⟩,
   ⟨some 50, .mv (.t 10), some (49, false), 0⟩,
   ⟨some 51, .mv (.t 9), some (49, false), 0⟩,
   ⟨some 52, .eq .int true (.t 50) (.t 51), some (49, false), 0⟩,
   ⟨some 53, .pick (.t 49) (.c (.d (.v (.bool true)))) (.t 52), none, 0⟩])
 (.cond 53 (.seq (.reg false [⟨some 6, .mv (.c (.d (.v (.int .i64 (-1))))), none, 0⟩,
     ⟨some 7, .mv (.c (.d (.v (.bool false)))), none, 0⟩])
   (.ret))
   (.skip)))
 (.seq (.reg false [⟨some 54, .mv (.t 11), none, 0⟩,
   ⟨some 6, .mv (.t 54), none, 0⟩,
   ⟨some 7, .mv (.c (.d (.v (.bool true)))), none, 0⟩])
 (.ret))
def K1032_2 : CC := .reg false [⟨some 36, .mv (.t 1), none, 0⟩,
   ⟨some 37, .ld 8 true (.t 3), none, 0⟩,
   ⟨some 38, .mv (.t 8), none, 0⟩,
   ⟨some 39, .bld [.d (.v (.int .i64 0)), .d (.v (.int .i64 0)), .d (.v (.int .i64 0))] [(0, 1, .c (.d (.v (.int .i64 3)))), (1, 1, .t 38)], none, 0⟩,
   ⟨some 40, .call (.c (.fn (.func 87) [] [])) [.t 37, .t 39], none, 0⟩,
   ⟨some 41, .ixs 1 (.t 36) (.t 40), none, 0⟩,
   ⟨some 42, .ld 1 false (.t 41), none, 0⟩,
   ⟨some 43, .call (.c (.fn (.func 38) [] [])) [.t 42], none, 0⟩,
   ⟨some 35, .mv (.t 43), none, 0⟩,
   ⟨some 44, .ext 0 (.t 35), none, 0⟩,
   ⟨some 45, .ext 1 (.t 35), none, 0⟩,
   ⟨some 46, .ext 2 (.t 35), none, 0⟩,
   ⟨some 10, .mv (.t 44), none, 0⟩,
   ⟨some 11, .mv (.t 45), none, 0⟩,
   ⟨some 12, .mv (.t 46), none, 0⟩]
def K1032_3 : CC := .reg false [⟨some 31, .mv (.t 2), none, 0⟩,
   ⟨some 32, .call (.c (.fn (.func 37) [] [])) [.t 31], none, 0⟩,
   ⟨some 30, .mv (.t 32), none, 0⟩,
   ⟨some 33, .ext 0 (.t 30), none, 0⟩,
   ⟨some 34, .ext 1 (.t 30), none, 0⟩,
   ⟨some 8, .mv (.t 33), none, 0⟩,
   ⟨some 9, .mv (.t 34), none, 0⟩]
def K1032_4 : CC := .seq (.reg false [⟨some 13, .ld 8 true (.t 3), none, 0⟩,
   ⟨some 14, .call (.c (.fn (.func 64) [] [])) [.t 13], none, 0⟩,
   ⟨some 15, .eq .int true (.t 14) (.c (.d (.v (.int .i64 0)))), none, 0⟩,
   ⟨some 16, .mv (.t 15), none, 0⟩,
   ⟨some 17, .mv (.t 1), some (16, false), 0⟩,
   ⟨some 18, .len (.t 17), some (16, false), 0⟩,
   ⟨some 19, .ld 8 true (.t 3), some (16, false), 0⟩,
   ⟨some 20, .call (.c (.fn (.func 65) [] [])) [.t 19], some (16, false), 0⟩,
   ⟨some 21, .len (.t 20), some (16, false), 0⟩,
   ⟨some 22, .eq .int true (.t 18) (.t 21), some (16, false), 0⟩,
   ⟨some 23, .pick (.t 16) (.c (.d (.v (.bool true)))) (.t 22), none, 0⟩,
   ⟨some 24, .mv (.t 23), none, 0⟩,
   ⟨some 25, .ld 8 true (.t 3), some (24, false), 0⟩,
   ⟨some 26, .mv (.t 2), some (24, false), 0⟩,
   ⟨some 27, .call (.c (.fn (.func 36) [] [])) [.t 25, .t 26], some (24, false), 0⟩,
   ⟨some 28, .un .not (.t 27), some (24, false), 0⟩,
   ⟨some 29, .pick (.t 24) (.c (.d (.v (.bool true)))) (.t 28), none, 0⟩])
 (.cond 29 (.seq (.reg false [⟨some 6, .mv (.c (.d (.v (.int .i64 (-1))))), none, 0⟩,
     ⟨some 7, .mv (.c (.d (.v (.bool false)))), none, 0⟩])
   (.ret))
   (.skip))
def K1032_5 : CC := .reg false [⟨some 3, .box 26 8 (.t 0), none, 0⟩,
   ⟨some 6, .mv (.c (.d (.v (.int .i64 0)))), none, 0⟩,
   ⟨some 7, .mv (.c (.d (.v (.bool false)))), none, 0⟩]
/-- coatcheck/coatcheckref11.Live -/
def C1032 : CF := ⟨3, [(6, none), (7, none)],
 .seq K1032_5 (.seq K1032_4 (.seq K1032_3 (.seq K1032_2 K1032_1)))⟩
theorem c1032 : coF Try.prog Try.f34 = some C1032 := by kernel_rfl
def A1032 : Ann := { keep := [0, 1, 2, 3, 6, 7, 8, 9, 10, 11, 12, 29, 53], live := [] }
def E1032 {Ω : Type} : Env Ω := econs 36 S1034 (econs 37 S1035c (econs 38 S1036c (econs 64 S19 (econs 65 S20d (econs 87 S82 (enil))))))
theorem e1032 : GoodE Try.prog E1032 := GoodE.cons g1034 (GoodE.cons g1035c (GoodE.cons g1036c (GoodE.cons g19 (GoodE.cons g20d (GoodE.cons g82 (GoodE.nil))))))
end Go.Sx.Pr

/- Contracts: a ticket's form, and the block of a live ticket, program and document. -/
namespace Go.Sx.Pr
open Go Go.Sx Go.Sx.Md Go.Proofs
set_option maxRecDepth 100000

theorem n1033 {Ω : Type} (it : Itr Ω) (K : SV → SH → Option Ω) (c : Cf) (t : Int) :
    sxFnI it E1033 A1033 C1033 [.agg (encC c), U t] [] K =
    br (uB t) (br (chkC c == 0) (br (decide (t % 65536 - 1 ≥ 0)) (br (decide (t % 65536 - 1 < Cf.e c)) (br (decide (t / 65536 ≥ 1)) (K (B (decide (t / 65536 ≤ Cf.l c))) [.cells 26 (encC c)]) (K (B false) [.cells 26 (encC c)])) (K (B false) [.cells 26 (encC c)])) (K (B false) [.cells 26 (encC c)])) (K (B false) [.cells 26 (encC c)])) none := by kernel_rfl
theorem n1034 {Ω : Type} (it : Itr Ω) (K : SV → SH → Option Ω) (c : Cf) (t : Int) :
    sxFnI it E1034 A1034 C1034 [.agg (encC c), U t] [] K =
    br (uB t) (br (chkC c == 0) (br (decide (t % 65536 - 1 ≥ 0)) (br (decide (t % 65536 - 1 < Cf.e c)) (br (decide (t / 65536 ≥ 1)) (K (B (decide (t / 65536 ≤ Cf.l c))) [.cells 26 (encC c)]) (K (B false) [.cells 26 (encC c)])) (K (B false) [.cells 26 (encC c)])) (K (B false) [.cells 26 (encC c)])) (K (B false) [.cells 26 (encC c)])) none := by kernel_rfl
theorem n1031 {Ω : Type} (it : Itr Ω) (K : SV → SH → Option Ω) (c : Cf) (ws : List Int) (t : Int) :
    sxFnI it E1031 A1031 C1031 [.agg (encC c), .d (.ints .u64 ws), U t] [] K =
    br (!chkC c == 0) (br (!chkC c == 0) (K (.tup [I (-1), B false]) [.cells 26 (encC c), .cells 75 [I 0, I 0, I 0, I 0, I 0, I 0, I 0, U 0]]) (br (! (↑ (List.length ws) : Int) == 0) (K (.tup [I (-1), B false]) [.cells 26 (encC c), .cells 75 [I 0, I 0, I 0, I 0, I 0, I 0, I 0, U 0]]) (br (uB t) (br (chkC c == 0) (br (decide (t % 65536 - 1 ≥ 0)) (br (decide (t % 65536 - 1 < Cf.e c)) (br (decide (t / 65536 ≥ 1)) (br (!decide (t / 65536 ≤ Cf.l c)) (K (.tup [I (-1), B false]) [.cells 26 (encC c), .cells 75 [I 0, I 0, I 0, I 0, I 0, I 0, I 0, U 0]]) (br (uB t) none none)) (K (.tup [I (-1), B false]) [.cells 26 (encC c), .cells 75 [I 0, I 0, I 0, I 0, I 0, I 0, I 0, U 0]])) (K (.tup [I (-1), B false]) [.cells 26 (encC c), .cells 75 [I 0, I 0, I 0, I 0, I 0, I 0, I 0, U 0]])) (K (.tup [I (-1), B false]) [.cells 26 (encC c), .cells 75 [I 0, I 0, I 0, I 0, I 0, I 0, I 0, U 0]])) (K (.tup [I (-1), B false]) [.cells 26 (encC c), .cells 75 [I 0, I 0, I 0, I 0, I 0, I 0, I 0, U 0]])) none))) (br (! (↑ (List.length ws) : Int) == szC c) (K (.tup [I (-1), B false]) [.cells 26 (encC c), .cells 75 (encC c)]) (br (uB t) (br (chkC c == 0) (br (decide (t % 65536 - 1 ≥ 0)) (br (decide (t % 65536 - 1 < Cf.e c)) (br (decide (t / 65536 ≥ 1)) (br (!decide (t / 65536 ≤ Cf.l c)) (K (.tup [I (-1), B false]) [.cells 26 (encC c), .cells 75 (encC c)]) (br (uB t) (br (inB (adr c 3 (t % 65536 - 1)) (List.length ws)) (br (uB (List.getD ws (Int.toNat (adr c 3 (t % 65536 - 1))) 0)) (br (List.getD ws (Int.toNat (adr c 3 (t % 65536 - 1))) 0 % 16 == 1) (br (!List.getD ws (Int.toNat (adr c 3 (t % 65536 - 1))) 0 / 1048576 == t / 65536) (K (.tup [I (-1), B false]) [.cells 26 (encC c), .cells 75 (encC c)]) (K (.tup [I (List.getD ws (Int.toNat (adr c 3 (t % 65536 - 1))) 0 / 16 % 65536 - 1), B true]) [.cells 26 (encC c), .cells 75 (encC c)])) (K (.tup [I (-1), B false]) [.cells 26 (encC c), .cells 75 (encC c)])) none) none) none)) (K (.tup [I (-1), B false]) [.cells 26 (encC c), .cells 75 (encC c)])) (K (.tup [I (-1), B false]) [.cells 26 (encC c), .cells 75 (encC c)])) (K (.tup [I (-1), B false]) [.cells 26 (encC c), .cells 75 (encC c)])) (K (.tup [I (-1), B false]) [.cells 26 (encC c), .cells 75 (encC c)])) none)) := by kernel_rfl
theorem n1032 {Ω : Type} (it : Itr Ω) (K : SV → SH → Option Ω) (c : Cf) (ws : List Int) (t : Int) :
    sxFnI it E1032 A1032 C1032 [.agg (encC c), .d (.ints .u64 ws), U t] [] K =
    br (!chkC c == 0) (K (.tup [I (-1), B false]) [.cells 26 (encC c)]) (br (chkC c == 0) (br (! (↑ (List.length ws) : Int) == (↑ (sizeN (Int.toNat (Cf.a c)) (Int.toNat (Cf.b c)) (Int.toNat (Cf.c c)) (Int.toNat (Cf.d c)) (Int.toNat (Cf.e c))) : Int)) (K (.tup [I (-1), B false]) [.cells 26 (encC c)]) (br (uB t) (br (chkC c == 0) (br (decide (t % 65536 - 1 ≥ 0)) (br (decide (t % 65536 - 1 < Cf.e c)) (br (decide (t / 65536 ≥ 1)) (br (!decide (t / 65536 ≤ Cf.l c)) (K (.tup [I (-1), B false]) [.cells 26 (encC c)]) (br (uB t) (br (inB (adr c 3 (t % 65536 - 1)) (List.length ws)) (br (uB (List.getD ws (Int.toNat (adr c 3 (t % 65536 - 1))) 0)) (br (!List.getD ws (Int.toNat (adr c 3 (t % 65536 - 1))) 0 % 16 == 1) (K (.tup [I (-1), B false]) [.cells 26 (encC c)]) (br (!List.getD ws (Int.toNat (adr c 3 (t % 65536 - 1))) 0 / 1048576 == t / 65536) (K (.tup [I (-1), B false]) [.cells 26 (encC c)]) (K (.tup [I (List.getD ws (Int.toNat (adr c 3 (t % 65536 - 1))) 0 / 16 % 65536 - 1), B true]) [.cells 26 (encC c)]))) none) none) none)) (K (.tup [I (-1), B false]) [.cells 26 (encC c)])) (K (.tup [I (-1), B false]) [.cells 26 (encC c)])) (K (.tup [I (-1), B false]) [.cells 26 (encC c)])) (K (.tup [I (-1), B false]) [.cells 26 (encC c)])) none)) none) := by kernel_rfl

/-- Is a ticket well-formed? -/
def goodV (c : Cf) (t : Int) : Bool := (chkC c == 0) && (decide (t % 65536 - 1 ≥ 0) && (decide (t % 65536 - 1 < c.e) && (decide (t / 65536 ≥ 1) && decide (t / 65536 ≤ c.l))))
/-- The block of a live ticket. -/
def liveE (c : Cf) (ws : List Int) (t : Int) : Int × Bool :=
  bif (chkC c == 0) && (((ws.length : Int) == szC c) && (goodV c t && liveV (ws.getD (adr c 3 (tE t)).toNat 0) (tG t))) then (ws.getD (adr c 3 (tE t)).toNat 0 / 16 % 65536 - 1, true) else (-1, false)
theorem adr3 {c : Cf} (hc : chkC c = 0) (j : Int) : adr c 3 j = if 0 ≤ j ∧ j < c.e then 3 + c.a + c.b + 2 * j else -1 := at3 hc j
theorem goodV_at {c : Cf} {t : Int} (h : goodV c t = true) : 0 ≤ tE t ∧ tE t < c.e ∧ 1 ≤ tG t ∧ tG t ≤ c.l := by
  unfold goodV at h
  simp only [Bool.and_eq_true, decide_eq_true_eq, beq_iff_eq] at h
  exact ⟨h.2.1, h.2.2.1, h.2.2.2.1, h.2.2.2.2⟩
theorem inBE {c : Cf} {n : Nat} {j : Int} (hc : chkC c = 0) (hn : (n : Int) = szC c) (h0 : 0 ≤ j) (h1 : j < c.e) : inB (adr c 3 j) n = true := by
  rw [adr3 hc, if_pos ⟨h0, h1⟩]
  have hs := szC_eq hc
  obtain ⟨⟨a1, a2⟩, ⟨b1, b2⟩, _⟩ := chk_zero hc
  refine inB_of' (by omega) ?_
  unfold sizeN at hs
  omega

section
variable {c : Cf} {ws : List Int} {t : Int}
theorem v1033 (h : uB t = true) : GivesV (sxFn E1033 A1033 C1033 [.agg (encC c), U t] [] KS) (B (goodV c t)) := by
  rw [← sxFnI_eq, n1033, h, br_t]
  unfold goodV
  cases (chkC c == 0) <;> cases decide (t % 65536 - 1 ≥ 0) <;> cases decide (t % 65536 - 1 < c.e) <;> cases decide (t / 65536 ≥ 1) <;> exact givesV
theorem v1034 (h : uB t = true) : GivesV (sxFn E1034 A1034 C1034 [.agg (encC c), U t] [] KS) (B (goodV c t)) := by
  rw [← sxFnI_eq, n1034, h, br_t]
  unfold goodV
  cases (chkC c == 0) <;> cases decide (t % 65536 - 1 ≥ 0) <;> cases decide (t % 65536 - 1 < c.e) <;> cases decide (t / 65536 ≥ 1) <;> exact givesV
theorem liveE_no (h : ¬ (chkC c = 0 ∧ (ws.length : Int) = szC c ∧ goodV c t = true)) : liveE c ws t = (-1, false) := by
  unfold liveE
  cases e : (chkC c == 0) && (((ws.length : Int) == szC c) && (goodV c t && liveV (ws.getD (adr c 3 (tE t)).toNat 0) (tG t))) with
  | false => rfl
  | true =>
    simp only [Bool.and_eq_true, beq_iff_eq] at e
    exact absurd ⟨e.1, e.2.1, e.2.2.1⟩ h
theorem liveE_at (h0 : chkC c = 0) (h1 : (ws.length : Int) = szC c) (h2 : goodV c t = true) : liveE c ws t = bif liveV (ws.getD (adr c 3 (tE t)).toNat 0) (tG t) then (ws.getD (adr c 3 (tE t)).toNat 0 / 16 % 65536 - 1, true) else (-1, false) := by
  unfold liveE; simp [h0, h1, h2]
theorem v1031 (h : (u64B ws && uB t) = true) : GivesV (sxFn E1031 A1031 C1031 [.agg (encC c), .d (.ints .u64 ws), U t] [] KS) (.tup [I (liveE c ws t).1, B (liveE c ws t).2]) := by
  simp only [Bool.and_eq_true] at h
  obtain ⟨hw, ht⟩ := h
  rw [← sxFnI_eq, n1031]
  have no : ¬ (chkC c = 0 ∧ (ws.length : Int) = szC c ∧ goodV c t = true) → ∀ H, GivesV (KS (.tup [I (-1), B false]) H) (.tup [I (liveE c ws t).1, B (liveE c ws t).2]) := fun q H => by rw [liveE_no q]; exact givesV
  by_cases h0 : chkC c = 0
  · rw [bang_f h0, br_f]
    by_cases h1 : (ws.length : Int) = szC c
    · rw [bang_f h1, br_f]
      cases hg : goodV c t with
      | true =>
        obtain ⟨g1, g2, g3, g4⟩ := goodV_at hg
        rw [liveE_at h0 h1 hg]
        rw [ht, br_t, h0, show ((0 : Int) == 0) = true from rfl, br_t, decide_eq_true g1, br_t, decide_eq_true g2, br_t, decide_eq_true g3, br_t, decide_eq_true g4, Bool.not_true, br_f, br_t, inBE h0 h1 g1 g2, br_t, u64B_all hw, br_t]
        unfold liveV
        cases (ws.getD (adr c 3 (t % 65536 - 1)).toNat 0 % 16 == 1) <;> cases (ws.getD (adr c 3 (t % 65536 - 1)).toNat 0 / 1048576 == t / 65536) <;> exact givesV
      | false =>
        have q := no (by simp [hg])
        have hg' := hg
        unfold goodV at hg'
        rw [ht, br_t, h0, show ((0 : Int) == 0) = true from rfl, br_t]
        rw [h0, show ((0 : Int) == 0) = true from rfl, Bool.true_and] at hg'
        cases e1 : decide (t % 65536 - 1 ≥ 0) with
        | false => exact q _
        | true =>
          cases e2 : decide (t % 65536 - 1 < c.e) with
          | false => exact q _
          | true =>
            cases e3 : decide (t / 65536 ≥ 1) with
            | false => exact q _
            | true =>
              cases e4 : decide (t / 65536 ≤ c.l) with
              | false => exact q _
              | true => rw [e1, e2, e3, e4] at hg'; cases hg'
    · rw [bang_t h1, br_t]
      exact no (fun q => h1 q.2.1) _
  · have q := no (fun q => h0 q.1)
    rw [bang_t h0, br_t, br_t]
    exact q _
theorem v1032 (h : (u64B ws && uB t) = true) : GivesV (sxFn E1032 A1032 C1032 [.agg (encC c), .d (.ints .u64 ws), U t] [] KS) (.tup [I (liveE c ws t).1, B (liveE c ws t).2]) := by
  simp only [Bool.and_eq_true] at h
  obtain ⟨hw, ht⟩ := h
  rw [← sxFnI_eq, n1032]
  have no : ¬ (chkC c = 0 ∧ (ws.length : Int) = szC c ∧ goodV c t = true) → ∀ H, GivesV (KS (.tup [I (-1), B false]) H) (.tup [I (liveE c ws t).1, B (liveE c ws t).2]) := fun q H => by rw [liveE_no q]; exact givesV
  by_cases h0 : chkC c = 0
  · rw [bang_f h0, br_f, h0, show ((0 : Int) == 0) = true from rfl, br_t, ← szC_eq h0]
    by_cases h1 : (ws.length : Int) = szC c
    · rw [bang_f h1, br_f]
      cases hg : goodV c t with
      | true =>
        obtain ⟨g1, g2, g3, g4⟩ := goodV_at hg
        rw [liveE_at h0 h1 hg]
        rw [ht, br_t, br_t, decide_eq_true g1, br_t, decide_eq_true g2, br_t, decide_eq_true g3, br_t, decide_eq_true g4, Bool.not_true, br_f, br_t, inBE h0 h1 g1 g2, br_t, u64B_all hw, br_t]
        unfold liveV
        cases (ws.getD (adr c 3 (t % 65536 - 1)).toNat 0 % 16 == 1) <;> cases (ws.getD (adr c 3 (t % 65536 - 1)).toNat 0 / 1048576 == t / 65536) <;> exact givesV
      | false =>
        have q := no (by simp [hg])
        have hg' := hg
        unfold goodV at hg'
        rw [ht, br_t, br_t]
        rw [h0, show ((0 : Int) == 0) = true from rfl, Bool.true_and] at hg'
        cases e1 : decide (t % 65536 - 1 ≥ 0) with
        | false => exact q _
        | true =>
          cases e2 : decide (t % 65536 - 1 < c.e) with
          | false => exact q _
          | true =>
            cases e3 : decide (t / 65536 ≥ 1) with
            | false => exact q _
            | true =>
              cases e4 : decide (t / 65536 ≤ c.l) with
              | false => exact q _
              | true => rw [e1, e2, e3, e4] at hg'; cases hg'
    · rw [bang_t h1, br_t]
      exact no (fun q => h1 q.2.1) _
  · rw [bang_t h0, br_t]
    exact no (fun q => h0 q.1) _
end
def F1033v : List (List Int) → Option (Bool × SV × SH)
  | [[c_a, c_b, c_c, c_d, c_e, c_f, c_g, c_l], [t]] => let c := (⟨c_a, c_b, c_c, c_d, c_e, c_f, c_g, c_l⟩ : Md.Cf); some (uB t, B (goodV c t), [])
  | _ => none
def S1033c {Ω : Type} : Spec Ω := conSpec [.g cfgK, .i .u64] F1033v
theorem g1033c : Good1 Try.prog 35 S1033c := conGood Try.func35 (by kernel_rfl) c1033 e1033 mix (A := A1033) fun L r hr hl hF => by
  obtain ⟨q0, l0, rfl, z0, hl1⟩ := lenAs_cons hl
  obtain ⟨c_a, c_b, c_c, c_d, c_e, c_f, c_g, c_l, rfl⟩ := eight z0
  obtain ⟨q1, l1, rfl, z1, hl2⟩ := lenAs_cons hl1
  obtain ⟨t, rfl⟩ := one_of' z1
  have hz := lenAs_nil hl2
  subst hz
  simp only [F1033v, Option.some.injEq, Prod.mk.injEq] at hF
  obtain ⟨hu, rfl, rfl⟩ := hF
  obtain ⟨H, hH⟩ := v1033 (c := (⟨c_a, c_b, c_c, c_d, c_e, c_f, c_g, c_l⟩ : Md.Cf)) (t := t) (by first | exact hu | exact rfl)
  exact ⟨by first | exact trivial | exact ⟨trivial, trivial⟩ | exact ⟨trivial, trivial, trivial⟩ | exact ⟨trivial, trivial, trivial, trivial⟩, trivial, H, trim_none rfl _, hH⟩

def F1034v : List (List Int) → Option (Bool × SV × SH)
  | [[c_a, c_b, c_c, c_d, c_e, c_f, c_g, c_l], [t]] => let c := (⟨c_a, c_b, c_c, c_d, c_e, c_f, c_g, c_l⟩ : Md.Cf); some (uB t, B (goodV c t), [])
  | _ => none
def S1034c {Ω : Type} : Spec Ω := conSpec [.g cfgK, .i .u64] F1034v
theorem g1034c : Good1 Try.prog 36 S1034c := conGood Try.func36 (by kernel_rfl) c1034 e1034 mix (A := A1034) fun L r hr hl hF => by
  obtain ⟨q0, l0, rfl, z0, hl1⟩ := lenAs_cons hl
  obtain ⟨c_a, c_b, c_c, c_d, c_e, c_f, c_g, c_l, rfl⟩ := eight z0
  obtain ⟨q1, l1, rfl, z1, hl2⟩ := lenAs_cons hl1
  obtain ⟨t, rfl⟩ := one_of' z1
  have hz := lenAs_nil hl2
  subst hz
  simp only [F1034v, Option.some.injEq, Prod.mk.injEq] at hF
  obtain ⟨hu, rfl, rfl⟩ := hF
  obtain ⟨H, hH⟩ := v1034 (c := (⟨c_a, c_b, c_c, c_d, c_e, c_f, c_g, c_l⟩ : Md.Cf)) (t := t) (by first | exact hu | exact rfl)
  exact ⟨by first | exact trivial | exact ⟨trivial, trivial⟩ | exact ⟨trivial, trivial, trivial⟩ | exact ⟨trivial, trivial, trivial, trivial⟩, trivial, H, trim_none rfl _, hH⟩

def F1031v : List (List Int) → Option (Bool × SV × SH)
  | [[c_a, c_b, c_c, c_d, c_e, c_f, c_g, c_l], ws, [t]] => let c := (⟨c_a, c_b, c_c, c_d, c_e, c_f, c_g, c_l⟩ : Md.Cf); some (u64B ws && uB t, .tup [I (liveE c ws t).1, B (liveE c ws t).2], [])
  | _ => none
def S1031c {Ω : Type} : Spec Ω := conSpec [.g cfgK, .s .u64, .i .u64] F1031v
theorem g1031c : Good1 Try.prog 33 S1031c := conGood Try.func33 (by kernel_rfl) c1031 e1031 mix (A := A1031) fun L r hr hl hF => by
  obtain ⟨q0, l0, rfl, z0, hl1⟩ := lenAs_cons hl
  obtain ⟨c_a, c_b, c_c, c_d, c_e, c_f, c_g, c_l, rfl⟩ := eight z0
  obtain ⟨ws, l1, rfl, z1, hl2⟩ := lenAs_cons hl1
  obtain ⟨q2, l2, rfl, z2, hl3⟩ := lenAs_cons hl2
  obtain ⟨t, rfl⟩ := one_of' z2
  have hz := lenAs_nil hl3
  subst hz
  simp only [F1031v, Option.some.injEq, Prod.mk.injEq] at hF
  obtain ⟨hu, rfl, rfl⟩ := hF
  obtain ⟨H, hH⟩ := v1031 (c := (⟨c_a, c_b, c_c, c_d, c_e, c_f, c_g, c_l⟩ : Md.Cf)) (ws := ws) (t := t) (by first | exact hu | exact rfl)
  exact ⟨by first | exact trivial | exact ⟨trivial, trivial⟩ | exact ⟨trivial, trivial, trivial⟩ | exact ⟨trivial, trivial, trivial, trivial⟩, trivial, H, trim_none rfl _, hH⟩

def F1032v : List (List Int) → Option (Bool × SV × SH)
  | [[c_a, c_b, c_c, c_d, c_e, c_f, c_g, c_l], ws, [t]] => let c := (⟨c_a, c_b, c_c, c_d, c_e, c_f, c_g, c_l⟩ : Md.Cf); some (u64B ws && uB t, .tup [I (liveE c ws t).1, B (liveE c ws t).2], [])
  | _ => none
def S1032c {Ω : Type} : Spec Ω := conSpec [.g cfgK, .s .u64, .i .u64] F1032v
theorem g1032c : Good1 Try.prog 34 S1032c := conGood Try.func34 (by kernel_rfl) c1032 e1032 mix (A := A1032) fun L r hr hl hF => by
  obtain ⟨q0, l0, rfl, z0, hl1⟩ := lenAs_cons hl
  obtain ⟨c_a, c_b, c_c, c_d, c_e, c_f, c_g, c_l, rfl⟩ := eight z0
  obtain ⟨ws, l1, rfl, z1, hl2⟩ := lenAs_cons hl1
  obtain ⟨q2, l2, rfl, z2, hl3⟩ := lenAs_cons hl2
  obtain ⟨t, rfl⟩ := one_of' z2
  have hz := lenAs_nil hl3
  subst hz
  simp only [F1032v, Option.some.injEq, Prod.mk.injEq] at hF
  obtain ⟨hu, rfl, rfl⟩ := hF
  obtain ⟨H, hH⟩ := v1032 (c := (⟨c_a, c_b, c_c, c_d, c_e, c_f, c_g, c_l⟩ : Md.Cf)) (ws := ws) (t := t) (by first | exact hu | exact rfl)
  exact ⟨by first | exact trivial | exact ⟨trivial, trivial⟩ | exact ⟨trivial, trivial, trivial⟩ | exact ⟨trivial, trivial, trivial, trivial⟩, trivial, H, trim_none rfl _, hH⟩

end Go.Sx.Pr

namespace Go.Sx.Pr
open Go Go.Sx Go.Proofs
set_option maxRecDepth 100000
def K1005_1 : CC := .seq (.reg true [⟨some 34, .mv (.t 7), none, 0⟩,
   ⟨some 35, .mv (.t 9), none, 0⟩,
   ⟨some 36, .eq .int false (.t 34) (.t 35), none, 3⟩,
   ⟨some 37, .mv (.t 36), none, 7⟩,
   ⟨some 38, .mv (.t 8), some (37, true), 15⟩,
   ⟨some 39, .mv (.t 10), some (37, true), 15⟩,
   ⟨some 40, .eq .bool false (.t 38) (.t 39), some (37, true), 63⟩,
   ⟨some 41, .pick (.t 37) (.t 40) (.c (.d (.v (.bool false)))), none, 127⟩,
   ⟨some 42, .mv (.t 41), none, 255⟩,
   ⟨some 43, .ld 8 true (.t 3), some (42, true), 511⟩,
   ⟨some 44, .mv (.t 2), some (42, true), 511⟩,
   ⟨some 45, .call (.c (.fn (.func 35) [] [])) [.t 43, .t 44], some (42, true), 2047⟩,
   ⟨some 46, .ld 8 true (.t 3), some (42, true), 511⟩,
   ⟨some 47, .mv (.t 2), some (42, true), 511⟩,
   ⟨some 48, .call (.c (.fn (.func 36) [] [])) [.t 46, .t 47], some (42, true), 16383⟩,
   ⟨some 49, .eq .bool false (.t 45) (.t 48), some (42, true), 32767⟩,
   ⟨some 50, .pick (.t 42) (.t 49) (.c (.d (.v (.bool false)))), none, 65535⟩,
   ⟨some 6, .mv (.t 50), none, 131071⟩])
 (.ret)
def K1005_2 : CC := .reg false [⟨some 28, .ld 8 true (.t 3), none, 0⟩,
   ⟨some 29, .mv (.t 1), none, 0⟩,
   ⟨some 30, .mv (.t 2), none, 0⟩,
   ⟨some 31, .call (.c (.fn (.func 34) [] [])) [.t 28, .t 29, .t 30], none, 0⟩,
   ⟨some 27, .mv (.t 31), none, 0⟩,
   ⟨some 32, .ext 0 (.t 27), none, 0⟩,
   ⟨some 33, .ext 1 (.t 27), none, 0⟩,
   ⟨some 9, .mv (.t 32), none, 0⟩,
   ⟨some 10, .mv (.t 33), none, 0⟩]
def K1005_3 : CC := .reg false [⟨some 21, .ld 8 true (.t 3), none, 0⟩,
   ⟨some 22, .mv (.t 1), none, 0⟩,
   ⟨some 23, .mv (.t 2), none, 0⟩,
   ⟨some 24, .call (.c (.fn (.func 33) [] [])) [.t 21, .t 22, .t 23], none, 0⟩,
   ⟨some 20, .mv (.t 24), none, 0⟩,
   ⟨some 25, .ext 0 (.t 20), none, 0⟩,
   ⟨some 26, .ext 1 (.t 20), none, 0⟩,
   ⟨some 7, .mv (.t 25), none, 0⟩,
   ⟨some 8, .mv (.t 26), none, 0⟩]
def K1005_4 : CC := .seq (.reg false [⟨some 13, .ld 8 true (.t 3), none, 0⟩,
   ⟨some 14, .call (.c (.fn (.func 18) [] [])) [.t 13], none, 0⟩,
   ⟨some 15, .mv (.t 14), none, 0⟩,
   ⟨some 16, .mv (.t 1), some (15, false), 0⟩,
   ⟨some 17, .len (.t 16), some (15, false), 0⟩,
   ⟨some 18, .bin .gtr (.t 17) (.c (.d (.v (.int .i64 400)))), some (15, false), 0⟩,
   ⟨some 19, .pick (.t 15) (.c (.d (.v (.bool true)))) (.t 18), none, 0⟩])
 (.cond 19 (.seq (.reg false [⟨some 6, .mv (.c (.d (.v (.bool true)))), none, 0⟩])
   (.ret))
   (.skip))
def K1005_5 : CC := .seq (.reg false [⟨some 11, .call (.c (.fn (.func 26) [] [])) [], none, 0⟩,
   ⟨some 12, .un .not (.t 11), none, 0⟩])
 (.cond 12 (.seq (.reg false [⟨some 6, .mv (.c (.d (.v (.bool false)))), none, 0⟩])
   (.ret))
   (.skip))
def K1005_6 : CC := .reg false [⟨some 3, .box 26 8 (.t 0), none, 0⟩,
   ⟨some 6, .mv (.c (.d (.v (.bool false)))), none, 0⟩]
/-- coatcheck/coatchecklaw11.EntryLives -/
def C1005 : CF := ⟨3, [(6, none)],
 .seq K1005_6 (.seq K1005_5 (.seq K1005_4 (.seq K1005_3 (.seq K1005_2 K1005_1))))⟩
theorem c1005 : coF Try.prog Try.f6 = some C1005 := by kernel_rfl
def A1005 : Ann := { keep := [0, 1, 2, 3, 6, 7, 8, 9, 10, 12, 19], live := [] }
def E1005 {Ω : Type} : Env Ω := econs 18 S16 (econs 26 S1028 (econs 33 S1031c (econs 34 S1032c (econs 35 S1033c (econs 36 S1034c (enil))))))
theorem e1005 : GoodE Try.prog E1005 := GoodE.cons g16 (GoodE.cons g1028 (GoodE.cons g1031c (GoodE.cons g1032c (GoodE.cons g1033c (GoodE.cons g1034c (GoodE.nil))))))
end Go.Sx.Pr

/- EntryLives: the law answers true on symbolic arguments. -/
namespace Go.Sx.Pr
open Go Go.Sx Go.Sx.Md Go.Proofs
set_option maxRecDepth 100000
theorem nT7 {Ω : Type} (it : Itr Ω) (K : SV → SH → Option Ω) (c : Cf) (ws : List Int) (t : Int) :
    sxFnI it E1005 A1005 C1005 [.agg (encC c), .d (.ints .u64 ws), U t] [] K =
    br (chkC c == 0) (br (decide (w64' (Cf.b c * Cf.c c) > 40)) (K (B true) [.cells 26 (encC c)]) (br (decide (Cf.e c > 16)) (K (B true) [.cells 26 (encC c)]) (br (decide ((↑ (List.length ws) : Int) > 400)) (K (B true) [.cells 26 (encC c)]) (br (u64B ws && uB t) (br (u64B ws && uB t) (br (Prod.fst (liveE (c) ws t) == Prod.fst (liveE (c) ws t)) (br (Prod.snd (liveE (c) ws t) == Prod.snd (liveE (c) ws t)) (br (uB t) (br (uB t) (K (B (goodV (c) t == goodV (c) t)) [.cells 26 (encC c)]) none) none) (K (B false) [.cells 26 (encC c)])) (K (B false) [.cells 26 (encC c)])) none) none)))) (br (decide ((↑ (List.length ws) : Int) > 400)) (K (B true) [.cells 26 (encC c)]) (br (u64B ws && uB t) (br (u64B ws && uB t) (br (Prod.fst (liveE (c) ws t) == Prod.fst (liveE (c) ws t)) (br (Prod.snd (liveE (c) ws t) == Prod.snd (liveE (c) ws t)) (br (uB t) (br (uB t) (K (B (goodV (c) t == goodV (c) t)) [.cells 26 (encC c)]) none) none) (K (B false) [.cells 26 (encC c)])) (K (B false) [.cells 26 (encC c)])) none) none)) := by kernel_rfl

theorem mainT7 {c : Cf} {ws : List Int} {t : Int} (hw : u64B ws = true) (h1 : uB t = true) : Tru (sxFn E1005 A1005 C1005 [.agg (encC c), .d (.ints .u64 ws), U t] [] KS) := by
  rw [← sxFnI_eq, nT7]
  simp only [hw, h1, br_t, br_f, beq_self_eq_true, Bool.and_self]
  repeat (first | exact tru_ret | refine Tru.br (fun _ => ?_) (fun _ => ?_))
end Go.Sx.Pr

/- A worker's state as an argument of a law. -/
namespace Go.Sx.Pr
open Go Go.Sx Go.Sx.Md Go.Proofs Go.ChangeShapes Go.WideShapes Go.ChangeAt Go.RowKit
set_option maxRecDepth 100000

theorem uB_wf {x : Int} (h : (Lit.int .u64 x).wf = true) : uB x = true := uB_iff.2 (u64_wf h)

section
variable {H : Type} {enc : TypeId × Value → H} {w : World}
end
end Go.Sx.Pr

/- A list of bytes as an argument of a law. -/
namespace Go.Sx.Pr
open Go Go.Sx Go.Proofs Go.ChangeShapes Go.WideShapes Go.ChangeAt Go.RowKit
set_option maxRecDepth 100000
section
variable {H : Type} {enc : TypeId × Value → H} {w : World}
end
end Go.Sx.Pr
