/- Pieces of the code of functions, compiled for the symbolic interpreter, each checked against the program; no conditions. -/
import Derived.Test.YtljmncdlehinnaaR2e
import Derived.Test.YtljmncdlehinnaaR15
import Derived.Test.YtljmncdlehinnaaRows
import Derived.KernelRfl
import Derived.Test.YtljmncdlehinnaaR2e
import Derived.Test.YtljmncdlehinnaaR2e
import Derived.Test.YtljmncdlehinnaaR9
set_option linter.all false
set_option linter.unusedVariables false
set_option linter.unusedSimpArgs false
set_option linter.unnecessarySimpa false
namespace Go.Sx.Pr
open Go Go.Sx Go.Proofs
set_option maxRecDepth 100000
def K1033_1 : CC := .seq (.reg false [⟨some 12, .ld 8 true (.t 2), none, 0⟩,
   ⟨some 13, .call (.c (.fn (.func 88) [] [])) [.t 12], none, 0⟩,
   ⟨some 14, .eq .int false (.t 13) (.c (.d (.v (.int .i64 0)))), none, 0⟩,
   ⟨some 15, .mv (.t 14), none, 0⟩,
   ⟨some 16, .mv (.t 5), some (15, true), 0⟩,
   ⟨some 17, .bin .geq (.t 16) (.c (.d (.v (.int .i64 0)))), some (15, true), 0⟩,
   ⟨some 18, .pick (.t 15) (.t 17) (.c (.d (.v (.bool false)))), none, 0⟩,
   ⟨some 19, .mv (.t 18), none, 0⟩,
   ⟨some 20, .mv (.t 5), some (19, true), 0⟩,
   ⟨some 21, .fa 4 (.t 2), some (19, true), 0⟩,
   ⟨some 22, .ld 1 false (.t 21), some (19, true), 0⟩,
   ⟨some 23, .bin .lss (.t 20) (.t 22), some (19, true), 0⟩,
   ⟨some 24, .pick (.t 19) (.t 23) (.c (.d (.v (.bool false)))), none, 0⟩,
   ⟨some 25, .mv (.t 24), none, 0⟩,
   ⟨some 26, .mv (.t 6), some (25, true), 0⟩,
   ⟨some 27, .bin .geq (.t 26) (.c (.d (.v (.int .u64 1)))), some (25, true), 0⟩,
   ⟨some 28, .pick (.t 25) (.t 27) (.c (.d (.v (.bool false)))), none, 0⟩,
   ⟨some 29, .mv (.t 28), none, 0⟩,
   ⟨some 30, .mv (.t 6), some (29, true), 0⟩,
   ⟨some 31, .fa 7 (.t 2), some (29, true), 0⟩,
   ⟨some 32, .ld 1 false (.t 31), some (29, true), 0⟩,
   ⟨some 33, .bin .leq (.t 30) (.t 32), some (29, true), 0⟩,
   ⟨some 34, .pick (.t 29) (.t 33) (.c (.d (.v (.bool false)))), none, 0⟩,
   ⟨some 4, .mv (.t 34), none, 0⟩])
 (.ret)
def K1033_2 : CC := .reg false [⟨some 8, .mv (.t 1), none, 0⟩,
   ⟨some 9, .call (.c (.fn (.func 71) [] [])) [.t 8], none, 0⟩,
   ⟨some 7, .mv (.t 9), none, 0⟩,
   ⟨some 10, .ext 0 (.t 7), none, 0⟩,
   ⟨some 11, .ext 1 (.t 7), none, 0⟩,
   ⟨some 5, .mv (.t 10), none, 0⟩,
   ⟨some 6, .mv (.t 11), none, 0⟩]
def K1033_3 : CC := .reg false [⟨some 2, .box 26 8 (.t 0), none, 0⟩,
   ⟨some 4, .mv (.c (.d (.v (.bool false)))), none, 0⟩]
/-- coatcheck/entry.Good -/
def C1033 : CF := ⟨2, [(4, none)],
 .seq K1033_3 (.seq K1033_2 K1033_1)⟩
theorem c1033 : coF Try.prog Try.f35 = some C1033 := by kernel_rfl
def A1033 : Ann := { keep := [0, 1, 2, 4, 5, 6], live := [] }
def E1033 {Ω : Type} : Env Ω := econs 71 S1068c (econs 88 S106 (enil))
theorem e1033 : GoodE Try.prog E1033 := GoodE.cons g1068c (GoodE.cons g106 (GoodE.nil))
def S1033 {Ω : Type} : Spec Ω := inl E1033 A1033 C1033 false
theorem g1033 : Good1 Try.prog 35 S1033 := Good1.inl e1033 mix Try.func35 (by kernel_rfl) c1033 A1033 false
def K1031_1 : CC := .seq (.reg false [⟨some 40, .mv (.t 1), none, 0⟩,
   ⟨some 41, .ld 8 true (.t 8), none, 0⟩,
   ⟨some 42, .mv (.t 10), none, 0⟩,
   ⟨some 43, .call (.c (.fn (.func 39) [] [])) [.t 41, .t 42], none, 0⟩,
   ⟨some 44, .ixs 1 (.t 40) (.t 43), none, 0⟩,
   ⟨some 45, .ld 1 false (.t 44), none, 0⟩,
   ⟨some 46, .mv (.t 11), none, 0⟩,
   ⟨some 47, .call (.c (.fn (.func 76) [] [])) [.t 45, .t 46], none, 0⟩,
   ⟨some 39, .mv (.t 47), none, 0⟩,
   ⟨some 48, .ext 0 (.t 39), none, 0⟩,
   ⟨some 49, .ext 1 (.t 39), none, 0⟩,
   ⟨some 12, .mv (.t 48), none, 0⟩,
   ⟨some 13, .mv (.t 49), none, 0⟩])
 (.seq (.seq (.reg false [⟨some 50, .mv (.t 13), none, 0⟩,
   ⟨some 51, .un .not (.t 50), none, 0⟩])
 (.cond 51 (.seq (.reg false [⟨some 6, .mv (.c (.d (.v (.int .i64 (-1))))), none, 0⟩,
     ⟨some 7, .mv (.c (.d (.v (.bool false)))), none, 0⟩])
   (.ret))
   (.skip)))
 (.seq (.reg false [⟨some 52, .mv (.t 12), none, 0⟩,
   ⟨some 6, .mv (.t 52), none, 0⟩,
   ⟨some 7, .mv (.c (.d (.v (.bool true)))), none, 0⟩])
 (.ret)))
def K1031_2 : CC := .reg false [⟨some 35, .mv (.t 2), none, 0⟩,
   ⟨some 36, .call (.c (.fn (.func 71) [] [])) [.t 35], none, 0⟩,
   ⟨some 34, .mv (.t 36), none, 0⟩,
   ⟨some 37, .ext 0 (.t 34), none, 0⟩,
   ⟨some 38, .ext 1 (.t 34), none, 0⟩,
   ⟨some 10, .mv (.t 37), none, 0⟩,
   ⟨some 11, .mv (.t 38), none, 0⟩]
def K1031_3 : CC := .seq (.reg false [⟨some 19, .mv (.t 9), none, 0⟩,
   ⟨some 20, .eq .int true (.t 19) (.c (.d (.v (.int .i64 0)))), none, 0⟩,
   ⟨some 21, .mv (.t 20), none, 0⟩,
   ⟨some 22, .mv (.t 1), some (21, false), 0⟩,
   ⟨some 23, .len (.t 22), some (21, false), 0⟩,
   ⟨some 24, .ld 8 true (.t 8), some (21, false), 0⟩,
   ⟨some 25, .call (.c (.fn (.func 86) [] [])) [.t 24], some (21, false), 0⟩,
   ⟨some 26, .eq .int true (.t 23) (.t 25), some (21, false), 0⟩,
   ⟨some 27, .pick (.t 21) (.c (.d (.v (.bool true)))) (.t 26), none, 0⟩,
   ⟨some 28, .mv (.t 27), none, 0⟩,
   ⟨some 29, .ld 8 true (.t 3), some (28, false), 0⟩,
   ⟨some 30, .mv (.t 2), some (28, false), 0⟩,
   ⟨some 31, .call (.c (.fn (.func 35) [] [])) [.t 29, .t 30], some (28, false), 0⟩,
   ⟨some 32, .un .not (.t 31), some (28, false), 0⟩,
   ⟨some 33, .pick (.t 28) (.c (.d (.v (.bool true)))) (.t 32), none, 0⟩])
 (.cond 33 (.seq (.reg false [⟨some 6, .mv (.c (.d (.v (.int .i64 (-1))))), none, 0⟩,
     ⟨some 7, .mv (.c (.d (.v (.bool false)))), none, 0⟩])
   (.ret))
   (.skip))
def K1031_4 : CC := .reg false [⟨some 15, .ld 8 true (.t 3), none, 0⟩,
   ⟨some 16, .call (.c (.fn (.func 85) [] [])) [.t 15], none, 0⟩,
   ⟨some 14, .mv (.t 16), none, 0⟩,
   ⟨some 17, .ext 0 (.t 14), none, 0⟩,
   ⟨some 18, .ext 1 (.t 14), none, 0⟩,
   ⟨some 8, .newc 75 [.d (.v (.int .i64 0)), .d (.v (.int .i64 0)), .d (.v (.int .i64 0)), .d (.v (.int .i64 0)), .d (.v (.int .i64 0)), .d (.v (.int .i64 0)), .d (.v (.int .i64 0)), .d (.v (.int .u64 0))], none, 0⟩,
   ⟨none, .st 8 (.t 8) (.t 17), none, 0⟩,
   ⟨some 9, .mv (.t 18), none, 0⟩]
def K1031_5 : CC := .reg false [⟨some 3, .box 26 8 (.t 0), none, 0⟩,
   ⟨some 6, .mv (.c (.d (.v (.int .i64 0)))), none, 0⟩,
   ⟨some 7, .mv (.c (.d (.v (.bool false)))), none, 0⟩]
/-- coatcheck/entry.Live -/
def C1031 : CF := ⟨3, [(6, none), (7, none)],
 .seq K1031_5 (.seq K1031_4 (.seq K1031_3 (.seq K1031_2 K1031_1)))⟩
theorem c1031 : coF Try.prog Try.f33 = some C1031 := by kernel_rfl
def A1031 : Ann := { keep := [0, 1, 2, 3, 6, 7, 8, 9, 10, 11, 12, 13, 33, 51], live := [] }
def E1031 {Ω : Type} : Env Ω := econs 35 S1033 (econs 39 S111c (econs 71 S1068c (econs 76 S1071 (econs 85 S63 (econs 86 S64 (enil))))))
theorem e1031 : GoodE Try.prog E1031 := GoodE.cons g1033 (GoodE.cons g111c (GoodE.cons g1068c (GoodE.cons g1071 (GoodE.cons g63 (GoodE.cons g64 (GoodE.nil))))))
def S1031 {Ω : Type} : Spec Ω := inl E1031 A1031 C1031 false
theorem g1031 : Good1 Try.prog 33 S1031 := Good1.inl e1031 mix Try.func33 (by kernel_rfl) c1031 A1031 false
def K1028_1 : CC := .seq (.reg true [⟨some 48, .mv (.t 4), none, 0⟩,
   ⟨some 49, .eq .int false (.t 48) (.c (.d (.v (.int .i64 1)))), none, 1⟩,
   ⟨some 50, .mv (.t 49), none, 3⟩,
   ⟨some 51, .fa 30 (.t 3), some (50, true), 7⟩,
   ⟨some 52, .ld 1 false (.t 51), some (50, true), 15⟩,
   ⟨some 53, .call (.c (.fn (.func 68) [] [])) [.c (.d (.v (.int .i64 0))), .c (.d (.v (.int .u64 1)))], some (50, true), 7⟩,
   ⟨some 54, .eq .int false (.t 52) (.t 53), some (50, true), 63⟩,
   ⟨some 55, .pick (.t 50) (.t 54) (.c (.d (.v (.bool false)))), none, 127⟩,
   ⟨some 56, .mv (.t 55), none, 255⟩,
   ⟨some 57, .mv (.t 7), some (56, true), 511⟩,
   ⟨some 58, .pick (.t 56) (.t 57) (.c (.d (.v (.bool false)))), none, 1023⟩,
   ⟨some 59, .mv (.t 58), none, 2047⟩,
   ⟨some 60, .mv (.t 6), some (59, true), 4095⟩,
   ⟨some 61, .eq .int false (.t 60) (.c (.d (.v (.int .i64 5)))), some (59, true), 8191⟩,
   ⟨some 62, .pick (.t 59) (.t 61) (.c (.d (.v (.bool false)))), none, 16383⟩,
   ⟨some 0, .mv (.t 62), none, 32767⟩])
 (.ret)
def K1028_2 : CC := .reg true [⟨some 36, .mv (.t 1), none, 0⟩,
   ⟨some 37, .nilc (.t 36), none, 1⟩,
   ⟨some 38, .fa 0 (.t 37), none, 3⟩,
   ⟨some 39, .fa 0 (.t 38), none, 7⟩,
   ⟨some 40, .ld 8 true (.t 39), none, 15⟩,
   ⟨some 41, .mv (.t 1), none, 0⟩,
   ⟨some 42, .call (.c (.fn (.func 17) [] [])) [.t 41], none, 32⟩,
   ⟨some 43, .fa 30 (.t 3), none, 0⟩,
   ⟨some 44, .ld 1 false (.t 43), none, 128⟩,
   ⟨some 45, .call (.c (.fn (.func 33) [] [])) [.t 40, .t 42, .t 44], none, 511⟩,
   ⟨some 35, .mv (.t 45), none, 1023⟩,
   ⟨some 46, .ext 0 (.t 35), none, 2047⟩,
   ⟨some 47, .ext 1 (.t 35), none, 2047⟩,
   ⟨some 6, .mv (.t 46), none, 4095⟩,
   ⟨some 7, .mv (.t 47), none, 16383⟩]
def L1028_3 : CC := .seq (.seq (.reg false [⟨some 20, .mv (.t 5), none, 0⟩,
   ⟨some 21, .bin .lss (.t 20) (.c (.d (.v (.int .i64 5)))), none, 0⟩,
   ⟨some 22, .mv (.t 21), none, 0⟩,
   ⟨some 23, .mv (.t 4), some (22, true), 0⟩,
   ⟨some 24, .eq .int false (.t 23) (.c (.d (.v (.int .i64 0)))), some (22, true), 0⟩,
   ⟨some 25, .pick (.t 22) (.t 24) (.c (.d (.v (.bool false)))), none, 0⟩])
 (.cond 25 (.skip)
   (.exit 0)))
 (.seq (.block 1 (.reg false [⟨some 29, .mv (.t 1), none, 0⟩,
     ⟨some 30, .ld 33 true (.t 3), none, 0⟩,
     ⟨some 31, .call (.c (.fn (.func 28) [] [])) [.t 29, .t 30], none, 0⟩,
     ⟨some 28, .mv (.t 31), none, 0⟩,
     ⟨some 32, .ext 0 (.t 28), none, 0⟩,
     ⟨some 33, .ext 1 (.t 28), none, 0⟩,
     ⟨some 34, .ext 2 (.t 28), none, 0⟩,
     ⟨none, .st 33 (.t 3) (.t 32), none, 0⟩,
     ⟨some 4, .mv (.t 33), none, 0⟩]))
 (.reg false [⟨some 26, .mv (.t 5), none, 0⟩,
   ⟨some 27, .bin .add (.t 26) (.c (.d (.v (.int .i64 1)))), none, 0⟩,
   ⟨some 5, .mv (.t 27), none, 0⟩]))
def K1028_4 : CC := .reg false [⟨some 5, .mv (.c (.d (.v (.int .i64 0)))), none, 0⟩]
def K1028_5 : CC := .reg false [⟨some 19, .bld [.d (.v (.int .i64 0)), .d (.v (.int .i64 0)), .d (.v (.int .u64 0)), .d (.v (.int .u64 0)), .d (.v (.int .i64 0)), .d (.v (.bool false)), .d (.v (.int .i64 0)), .d (.v (.int .i64 0)), .d (.v (.bool false)), .d (.v (.int .u64 0)), .d (.v (.slice none 0 0)), .d (.v (.int .u64 0)), .d (.v (.slice none 0 0)), .d (.v (.int .u64 0)), .d (.v (.slice none 0 0)), .d (.v (.int .u64 0)), .d (.v (.slice none 0 0)), .d (.v (.slice none 0 0)), .d (.v (.int .i64 0)), .d (.v (.int .i64 0)), .d (.v (.int .i64 0)), .d (.v (.int .i64 0)), .d (.v (.int .i64 0)), .d (.v (.int .u64 0)), .d (.v (.int .u64 0)), .d (.v (.int .u64 0)), .d (.v (.int .u64 0)), .d (.v (.int .u64 0)), .d (.v (.int .i64 0)), .d (.v (.slice none 0 0)), .d (.v (.int .u64 0)), .d (.v (.int .i64 0)), .d (.v (.bool false))] [(0, 1, .c (.d (.v (.int .i64 20)))), (18, 1, .c (.d (.v (.int .i64 6))))], none, 0⟩,
   ⟨some 3, .newc 40 [.d (.v (.int .i64 0)), .d (.v (.int .i64 0)), .d (.v (.int .u64 0)), .d (.v (.int .u64 0)), .d (.v (.int .i64 0)), .d (.v (.bool false)), .d (.v (.int .i64 0)), .d (.v (.int .i64 0)), .d (.v (.bool false)), .d (.v (.int .u64 0)), .d (.v (.slice none 0 0)), .d (.v (.int .u64 0)), .d (.v (.slice none 0 0)), .d (.v (.int .u64 0)), .d (.v (.slice none 0 0)), .d (.v (.int .u64 0)), .d (.v (.slice none 0 0)), .d (.v (.slice none 0 0)), .d (.v (.int .i64 0)), .d (.v (.int .i64 0)), .d (.v (.int .i64 0)), .d (.v (.int .i64 0)), .d (.v (.int .i64 0)), .d (.v (.int .u64 0)), .d (.v (.int .u64 0)), .d (.v (.int .u64 0)), .d (.v (.int .u64 0)), .d (.v (.int .u64 0)), .d (.v (.int .i64 0)), .d (.v (.slice none 0 0)), .d (.v (.int .u64 0)), .d (.v (.int .i64 0)), .d (.v (.bool false))], none, 0⟩,
   ⟨none, .st 33 (.t 3) (.t 19), none, 0⟩,
   ⟨some 4, .mv (.c (.d (.v (.int .i64 0)))), none, 0⟩]
def K1028_6 : CC := .seq (.reg false [⟨some 13, .mv (.t 2), none, 0⟩,
   ⟨some 14, .eq .int true (.t 13) (.c (.d (.v (.int .i64 0)))), none, 0⟩,
   ⟨some 15, .mv (.t 14), none, 0⟩,
   ⟨some 16, .mv (.t 1), some (15, false), 0⟩,
   ⟨some 17, .eq .ptr false (.t 16) (.c (.d (.v (.pointer none)))), some (15, false), 0⟩,
   ⟨some 18, .pick (.t 15) (.c (.d (.v (.bool true)))) (.t 17), none, 0⟩])
 (.cond 18 (.seq (.reg false [⟨some 0, .mv (.c (.d (.v (.bool false)))), none, 0⟩])
   (.ret))
   (.skip))
def K1028_7 : CC := .reg false [⟨some 9, .bld [.d (.v (.int .i64 0)), .d (.v (.int .i64 0)), .d (.v (.int .i64 0)), .d (.v (.int .i64 0)), .d (.v (.int .i64 0)), .d (.v (.int .i64 0)), .d (.v (.int .i64 0)), .d (.v (.int .u64 0))] [(0, 1, .c (.d (.v (.int .i64 1)))), (1, 1, .c (.d (.v (.int .i64 1)))), (2, 1, .c (.d (.v (.int .i64 8)))), (3, 1, .c (.d (.v (.int .i64 1)))), (4, 1, .c (.d (.v (.int .i64 2)))), (6, 1, .c (.d (.v (.int .i64 1)))), (7, 1, .c (.d (.v (.int .u64 1))))], none, 0⟩,
   ⟨some 10, .call (.c (.fn (.func 12) [] [])) [.t 9], none, 0⟩,
   ⟨some 8, .mv (.t 10), none, 0⟩,
   ⟨some 11, .ext 0 (.t 8), none, 0⟩,
   ⟨some 12, .ext 1 (.t 8), none, 0⟩,
   ⟨some 1, .mv (.t 11), none, 0⟩,
   ⟨some 2, .mv (.t 12), none, 0⟩]
def K1028_8 : CC := .reg false [⟨some 0, .mv (.c (.d (.v (.bool false)))), none, 0⟩]
/-- coatcheck/coatchecklaw11.awake -/
def C1028 : CF := ⟨0, [(0, none)],
 .seq K1028_8 (.seq K1028_7 (.seq K1028_6 (.seq K1028_5 (.seq (.seq K1028_4 (.block 0 (.loop L1028_3))) (.seq K1028_2 K1028_1)))))⟩
theorem c1028 : coF Try.prog Try.f26 = some C1028 := by kernel_rfl
def A1028 : Ann := { keep := [0, 1, 2, 3, 4, 5, 6, 7, 18, 25], live := [(0, [1, 3, 4, 5])] }
def E1028 {Ω : Type} : Env Ω := econs 17 S33c (econs 12 S34 (econs 28 S1029m (econs 33 S1031 (econs 68 S1066c (enil)))))
theorem e1028 : GoodE Try.prog E1028 := GoodE.cons g33c (GoodE.cons g34 (GoodE.cons g1029m (GoodE.cons g1031 (GoodE.cons g1066c (GoodE.nil)))))
def S1028 {Ω : Type} : Spec Ω := conSpec [] FTrue
theorem g1028 : Good1 Try.prog 26 S1028 := trueGood Try.func26 (by kernel_rfl) c1028 (A := A1028) e1028 mix (by kernel_rfl)
end Go.Sx.Pr

namespace Go.Sx.Pr
open Go Go.Sx Go.Proofs
set_option maxRecDepth 100000
def K1034_1 : CC := .seq (.reg false [⟨some 12, .ld 8 true (.t 2), none, 0⟩,
   ⟨some 13, .call (.c (.fn (.func 64) [] [])) [.t 12], none, 0⟩,
   ⟨some 14, .eq .int false (.t 13) (.c (.d (.v (.int .i64 0)))), none, 0⟩,
   ⟨some 15, .mv (.t 14), none, 0⟩,
   ⟨some 16, .mv (.t 5), some (15, true), 0⟩,
   ⟨some 17, .bin .geq (.t 16) (.c (.d (.v (.int .i64 0)))), some (15, true), 0⟩,
   ⟨some 18, .pick (.t 15) (.t 17) (.c (.d (.v (.bool false)))), none, 0⟩,
   ⟨some 19, .mv (.t 18), none, 0⟩,
   ⟨some 20, .mv (.t 5), some (19, true), 0⟩,
   ⟨some 21, .fa 4 (.t 2), some (19, true), 0⟩,
   ⟨some 22, .ld 1 false (.t 21), some (19, true), 0⟩,
   ⟨some 23, .bin .lss (.t 20) (.t 22), some (19, true), 0⟩,
   ⟨some 24, .pick (.t 19) (.t 23) (.c (.d (.v (.bool false)))), none, 0⟩,
   ⟨some 25, .mv (.t 24), none, 0⟩,
   ⟨some 26, .mv (.t 6), some (25, true), 0⟩,
   ⟨some 27, .bin .geq (.t 26) (.c (.d (.v (.int .u64 1)))), some (25, true), 0⟩,
   ⟨some 28, .pick (.t 25) (.t 27) (.c (.d (.v (.bool false)))), none, 0⟩,
   ⟨some 29, .mv (.t 28), none, 0⟩,
   ⟨some 30, .mv (.t 6), some (29, true), 0⟩,
   ⟨some 31, .fa 7 (.t 2), some (29, true), 0⟩,
   ⟨some 32, .ld 1 false (.t 31), some (29, true), 0⟩,
   ⟨some 33, .bin .leq (.t 30) (.t 32), some (29, true), 0⟩,
   ⟨some 34, .pick (.t 29) (.t 33) (.c (.d (.v (.bool false)))), none, 0⟩,
   ⟨some 4, .mv (.t 34), none, 0⟩])
 (.ret)
def K1034_2 : CC := .reg false [⟨some 8, .mv (.t 1), none, 0⟩,
   ⟨some 9, .call (.c (.fn (.func 37) [] [])) [.t 8], none, 0⟩,
   ⟨some 7, .mv (.t 9), none, 0⟩,
   ⟨some 10, .ext 0 (.t 7), none, 0⟩,
   ⟨some 11, .ext 1 (.t 7), none, 0⟩,
   ⟨some 5, .mv (.t 10), none, 0⟩,
   ⟨some 6, .mv (.t 11), none, 0⟩]
def K1034_3 : CC := .reg false [⟨some 2, .box 26 8 (.t 0), none, 0⟩,
   ⟨some 4, .mv (.c (.d (.v (.bool false)))), none, 0⟩]
/-- coatcheck/coatcheckref11.Good -/
def C1034 : CF := ⟨2, [(4, none)],
 .seq K1034_3 (.seq K1034_2 K1034_1)⟩
theorem c1034 : coF Try.prog Try.f36 = some C1034 := by kernel_rfl
def A1034 : Ann := { keep := [0, 1, 2, 4, 5, 6], live := [] }
def E1034 {Ω : Type} : Env Ω := econs 37 S1035c (econs 64 S19 (enil))
theorem e1034 : GoodE Try.prog E1034 := GoodE.cons g1035c (GoodE.cons g19 (GoodE.nil))
def S1034 {Ω : Type} : Spec Ω := inl E1034 A1034 C1034 false
theorem g1034 : Good1 Try.prog 36 S1034 := Good1.inl e1034 mix Try.func36 (by kernel_rfl) c1034 A1034 false
def K1032_1 : CC := .seq (.seq (.reg false [⟨some 47, .mv (.t 12), none, 0⟩,
   ⟨some 48, .eq .int true (.t 47) (.c (.d (.v (.int .i64 1)))), none, 0⟩,
   ⟨some 49, .mv (.t 48), none, 0⟩,
   ⟨some 50, .mv (.t 10), some (49, false), 0⟩,
   ⟨some 51, .mv (.t 9), some (49, false), 0⟩,
   ⟨some 52, .eq .int true (.t 50) (.t 51), some (49, false), 0⟩,
   ⟨some 53, .pick (.t 49) (.c (.d (.v (.bool true)))) (.t 52), none, 0⟩])
 (.cond 53 (.seq (.reg false [⟨some 6, .mv (.c (.d (.v (.int .i64 (-1))))), none, 0⟩,
     ⟨some 7, .mv (.c (.d (.v (.bool false)))), none, 0⟩])
   (.ret))
   (.skip)))
 (.seq (.reg false [⟨some 54, .mv (.t 11), none, 0⟩,
   ⟨some 6, .mv (.t 54), none, 0⟩,
   ⟨some 7, .mv (.c (.d (.v (.bool true)))), none, 0⟩])
 (.ret))
def K1032_2 : CC := .reg false [⟨some 36, .mv (.t 1), none, 0⟩,
   ⟨some 37, .ld 8 true (.t 3), none, 0⟩,
   ⟨some 38, .mv (.t 8), none, 0⟩,
   ⟨some 39, .bld [.d (.v (.int .i64 0)), .d (.v (.int .i64 0)), .d (.v (.int .i64 0))] [(0, 1, .c (.d (.v (.int .i64 3)))), (1, 1, .t 38)], none, 0⟩,
   ⟨some 40, .call (.c (.fn (.func 87) [] [])) [.t 37, .t 39], none, 0⟩,
   ⟨some 41, .ixs 1 (.t 36) (.t 40), none, 0⟩,
   ⟨some 42, .ld 1 false (.t 41), none, 0⟩,
   ⟨some 43, .call (.c (.fn (.func 38) [] [])) [.t 42], none, 0⟩,
   ⟨some 35, .mv (.t 43), none, 0⟩,
   ⟨some 44, .ext 0 (.t 35), none, 0⟩,
   ⟨some 45, .ext 1 (.t 35), none, 0⟩,
   ⟨some 46, .ext 2 (.t 35), none, 0⟩,
   ⟨some 10, .mv (.t 44), none, 0⟩,
   ⟨some 11, .mv (.t 45), none, 0⟩,
   ⟨some 12, .mv (.t 46), none, 0⟩]
def K1032_3 : CC := .reg false [⟨some 31, .mv (.t 2), none, 0⟩,
   ⟨some 32, .call (.c (.fn (.func 37) [] [])) [.t 31], none, 0⟩,
   ⟨some 30, .mv (.t 32), none, 0⟩,
   ⟨some 33, .ext 0 (.t 30), none, 0⟩,
   ⟨some 34, .ext 1 (.t 30), none, 0⟩,
   ⟨some 8, .mv (.t 33), none, 0⟩,
   ⟨some 9, .mv (.t 34), none, 0⟩]
def K1032_4 : CC := .seq (.reg false [⟨some 13, .ld 8 true (.t 3), none, 0⟩,
   ⟨some 14, .call (.c (.fn (.func 64) [] [])) [.t 13], none, 0⟩,
   ⟨some 15, .eq .int true (.t 14) (.c (.d (.v (.int .i64 0)))), none, 0⟩,
   ⟨some 16, .mv (.t 15), none, 0⟩,
   ⟨some 17, .mv (.t 1), some (16, false), 0⟩,
   ⟨some 18, .len (.t 17), some (16, false), 0⟩,
   ⟨some 19, .ld 8 true (.t 3), some (16, false), 0⟩,
   ⟨some 20, .call (.c (.fn (.func 65) [] [])) [.t 19], some (16, false), 0⟩,
   ⟨some 21, .len (.t 20), some (16, false), 0⟩,
   ⟨some 22, .eq .int true (.t 18) (.t 21), some (16, false), 0⟩,
   ⟨some 23, .pick (.t 16) (.c (.d (.v (.bool true)))) (.t 22), none, 0⟩,
   ⟨some 24, .mv (.t 23), none, 0⟩,
   ⟨some 25, .ld 8 true (.t 3), some (24, false), 0⟩,
   ⟨some 26, .mv (.t 2), some (24, false), 0⟩,
   ⟨some 27, .call (.c (.fn (.func 36) [] [])) [.t 25, .t 26], some (24, false), 0⟩,
   ⟨some 28, .un .not (.t 27), some (24, false), 0⟩,
   ⟨some 29, .pick (.t 24) (.c (.d (.v (.bool true)))) (.t 28), none, 0⟩])
 (.cond 29 (.seq (.reg false [⟨some 6, .mv (.c (.d (.v (.int .i64 (-1))))), none, 0⟩,
     ⟨some 7, .mv (.c (.d (.v (.bool false)))), none, 0⟩])
   (.ret))
   (.skip))
def K1032_5 : CC := .reg false [⟨some 3, .box 26 8 (.t 0), none, 0⟩,
   ⟨some 6, .mv (.c (.d (.v (.int .i64 0)))), none, 0⟩,
   ⟨some 7, .mv (.c (.d (.v (.bool false)))), none, 0⟩]
/-- coatcheck/coatcheckref11.Live -/
def C1032 : CF := ⟨3, [(6, none), (7, none)],
 .seq K1032_5 (.seq K1032_4 (.seq K1032_3 (.seq K1032_2 K1032_1)))⟩
theorem c1032 : coF Try.prog Try.f34 = some C1032 := by kernel_rfl
def A1032 : Ann := { keep := [0, 1, 2, 3, 6, 7, 8, 9, 10, 11, 12, 29, 53], live := [] }
def E1032 {Ω : Type} : Env Ω := econs 36 S1034 (econs 37 S1035c (econs 38 S1036c (econs 64 S19 (econs 65 S20d (econs 87 S82 (enil))))))
theorem e1032 : GoodE Try.prog E1032 := GoodE.cons g1034 (GoodE.cons g1035c (GoodE.cons g1036c (GoodE.cons g19 (GoodE.cons g20d (GoodE.cons g82 (GoodE.nil))))))
end Go.Sx.Pr

/- Contracts: a ticket's form, and the block of a live ticket, program and document. -/
namespace Go.Sx.Pr
open Go Go.Sx Go.Sx.Md Go.Proofs
set_option maxRecDepth 100000

theorem n1034 {Ω : Type} (it : Itr Ω) (K : SV → SH → Option Ω) (c : Cf) (t : Int) :
    sxFnI it E1034 A1034 C1034 [.agg (encC c), U t] [] K =
    br (uB t) (br (chkC c == 0) (br (decide (t % 65536 - 1 ≥ 0)) (br (decide (t % 65536 - 1 < Cf.e c)) (br (decide (t / 65536 ≥ 1)) (K (B (decide (t / 65536 ≤ Cf.l c))) [.cells 26 (encC c)]) (K (B false) [.cells 26 (encC c)])) (K (B false) [.cells 26 (encC c)])) (K (B false) [.cells 26 (encC c)])) (K (B false) [.cells 26 (encC c)])) none := by kernel_rfl
theorem n1031 {Ω : Type} (it : Itr Ω) (K : SV → SH → Option Ω) (c : Cf) (ws : List Int) (t : Int) :
    sxFnI it E1031 A1031 C1031 [.agg (encC c), .d (.ints .u64 ws), U t] [] K =
    br (!chkC c == 0) (br (!chkC c == 0) (K (.tup [I (-1), B false]) [.cells 26 (encC c), .cells 75 [I 0, I 0, I 0, I 0, I 0, I 0, I 0, U 0]]) (br (! (↑ (List.length ws) : Int) == 0) (K (.tup [I (-1), B false]) [.cells 26 (encC c), .cells 75 [I 0, I 0, I 0, I 0, I 0, I 0, I 0, U 0]]) (br (uB t) (br (chkC c == 0) (br (decide (t % 65536 - 1 ≥ 0)) (br (decide (t % 65536 - 1 < Cf.e c)) (br (decide (t / 65536 ≥ 1)) (br (!decide (t / 65536 ≤ Cf.l c)) (K (.tup [I (-1), B false]) [.cells 26 (encC c), .cells 75 [I 0, I 0, I 0, I 0, I 0, I 0, I 0, U 0]]) (br (uB t) none none)) (K (.tup [I (-1), B false]) [.cells 26 (encC c), .cells 75 [I 0, I 0, I 0, I 0, I 0, I 0, I 0, U 0]])) (K (.tup [I (-1), B false]) [.cells 26 (encC c), .cells 75 [I 0, I 0, I 0, I 0, I 0, I 0, I 0, U 0]])) (K (.tup [I (-1), B false]) [.cells 26 (encC c), .cells 75 [I 0, I 0, I 0, I 0, I 0, I 0, I 0, U 0]])) (K (.tup [I (-1), B false]) [.cells 26 (encC c), .cells 75 [I 0, I 0, I 0, I 0, I 0, I 0, I 0, U 0]])) none))) (br (! (↑ (List.length ws) : Int) == szC c) (K (.tup [I (-1), B false]) [.cells 26 (encC c), .cells 75 (encC c)]) (br (uB t) (br (chkC c == 0) (br (decide (t % 65536 - 1 ≥ 0)) (br (decide (t % 65536 - 1 < Cf.e c)) (br (decide (t / 65536 ≥ 1)) (br (!decide (t / 65536 ≤ Cf.l c)) (K (.tup [I (-1), B false]) [.cells 26 (encC c), .cells 75 (encC c)]) (br (uB t) (br (inB (adr c 3 (t % 65536 - 1)) (List.length ws)) (br (uB (List.getD ws (Int.toNat (adr c 3 (t % 65536 - 1))) 0)) (br (List.getD ws (Int.toNat (adr c 3 (t % 65536 - 1))) 0 % 16 == 1) (br (!List.getD ws (Int.toNat (adr c 3 (t % 65536 - 1))) 0 / 1048576 == t / 65536) (K (.tup [I (-1), B false]) [.cells 26 (encC c), .cells 75 (encC c)]) (K (.tup [I (List.getD ws (Int.toNat (adr c 3 (t % 65536 - 1))) 0 / 16 % 65536 - 1), B true]) [.cells 26 (encC c), .cells 75 (encC c)])) (K (.tup [I (-1), B false]) [.cells 26 (encC c), .cells 75 (encC c)])) none) none) none)) (K (.tup [I (-1), B false]) [.cells 26 (encC c), .cells 75 (encC c)])) (K (.tup [I (-1), B false]) [.cells 26 (encC c), .cells 75 (encC c)])) (K (.tup [I (-1), B false]) [.cells 26 (encC c), .cells 75 (encC c)])) (K (.tup [I (-1), B false]) [.cells 26 (encC c), .cells 75 (encC c)])) none)) := by kernel_rfl
theorem n1032 {Ω : Type} (it : Itr Ω) (K : SV → SH → Option Ω) (c : Cf) (ws : List Int) (t : Int) :
    sxFnI it E1032 A1032 C1032 [.agg (encC c), .d (.ints .u64 ws), U t] [] K =
    br (!chkC c == 0) (K (.tup [I (-1), B false]) [.cells 26 (encC c)]) (br (chkC c == 0) (br (! (↑ (List.length ws) : Int) == (↑ (sizeN (Int.toNat (Cf.a c)) (Int.toNat (Cf.b c)) (Int.toNat (Cf.c c)) (Int.toNat (Cf.d c)) (Int.toNat (Cf.e c))) : Int)) (K (.tup [I (-1), B false]) [.cells 26 (encC c)]) (br (uB t) (br (chkC c == 0) (br (decide (t % 65536 - 1 ≥ 0)) (br (decide (t % 65536 - 1 < Cf.e c)) (br (decide (t / 65536 ≥ 1)) (br (!decide (t / 65536 ≤ Cf.l c)) (K (.tup [I (-1), B false]) [.cells 26 (encC c)]) (br (uB t) (br (inB (adr c 3 (t % 65536 - 1)) (List.length ws)) (br (uB (List.getD ws (Int.toNat (adr c 3 (t % 65536 - 1))) 0)) (br (!List.getD ws (Int.toNat (adr c 3 (t % 65536 - 1))) 0 % 16 == 1) (K (.tup [I (-1), B false]) [.cells 26 (encC c)]) (br (!List.getD ws (Int.toNat (adr c 3 (t % 65536 - 1))) 0 / 1048576 == t / 65536) (K (.tup [I (-1), B false]) [.cells 26 (encC c)]) (K (.tup [I (List.getD ws (Int.toNat (adr c 3 (t % 65536 - 1))) 0 / 16 % 65536 - 1), B true]) [.cells 26 (encC c)]))) none) none) none)) (K (.tup [I (-1), B false]) [.cells 26 (encC c)])) (K (.tup [I (-1), B false]) [.cells 26 (encC c)])) (K (.tup [I (-1), B false]) [.cells 26 (encC c)])) (K (.tup [I (-1), B false]) [.cells 26 (encC c)])) none)) none) := by kernel_rfl

/-- Is a ticket well-formed? -/
def goodV (c : Cf) (t : Int) : Bool := (chkC c == 0) && (decide (t % 65536 - 1 ≥ 0) && (decide (t % 65536 - 1 < c.e) && (decide (t / 65536 ≥ 1) && decide (t / 65536 ≤ c.l))))
/-- The block of a live ticket. -/
def liveE (c : Cf) (ws : List Int) (t : Int) : Int × Bool :=
  bif (chkC c == 0) && (((ws.length : Int) == szC c) && (goodV c t && liveV (ws.getD (adr c 3 (tE t)).toNat 0) (tG t))) then (ws.getD (adr c 3 (tE t)).toNat 0 / 16 % 65536 - 1, true) else (-1, false)
theorem adr3 {c : Cf} (hc : chkC c = 0) (j : Int) : adr c 3 j = if 0 ≤ j ∧ j < c.e then 3 + c.a + c.b + 2 * j else -1 := at3 hc j
theorem goodV_at {c : Cf} {t : Int} (h : goodV c t = true) : 0 ≤ tE t ∧ tE t < c.e ∧ 1 ≤ tG t ∧ tG t ≤ c.l := by
  unfold goodV at h
  simp only [Bool.and_eq_true, decide_eq_true_eq, beq_iff_eq] at h
  exact ⟨h.2.1, h.2.2.1, h.2.2.2.1, h.2.2.2.2⟩
theorem inBE {c : Cf} {n : Nat} {j : Int} (hc : chkC c = 0) (hn : (n : Int) = szC c) (h0 : 0 ≤ j) (h1 : j < c.e) : inB (adr c 3 j) n = true := by
  rw [adr3 hc, if_pos ⟨h0, h1⟩]
  have hs := szC_eq hc
  obtain ⟨⟨a1, a2⟩, ⟨b1, b2⟩, _⟩ := chk_zero hc
  refine inB_of' (by omega) ?_
  unfold sizeN at hs
  omega

section
variable {c : Cf} {ws : List Int} {t : Int}
theorem v1034 (h : uB t = true) : GivesV (sxFn E1034 A1034 C1034 [.agg (encC c), U t] [] KS) (B (goodV c t)) := by
  rw [← sxFnI_eq, n1034, h, br_t]
  unfold goodV
  cases (chkC c == 0) <;> cases decide (t % 65536 - 1 ≥ 0) <;> cases decide (t % 65536 - 1 < c.e) <;> cases decide (t / 65536 ≥ 1) <;> exact givesV
theorem liveE_no (h : ¬ (chkC c = 0 ∧ (ws.length : Int) = szC c ∧ goodV c t = true)) : liveE c ws t = (-1, false) := by
  unfold liveE
  cases e : (chkC c == 0) && (((ws.length : Int) == szC c) && (goodV c t && liveV (ws.getD (adr c 3 (tE t)).toNat 0) (tG t))) with
  | false => rfl
  | true =>
    simp only [Bool.and_eq_true, beq_iff_eq] at e
    exact absurd ⟨e.1, e.2.1, e.2.2.1⟩ h
theorem liveE_at (h0 : chkC c = 0) (h1 : (ws.length : Int) = szC c) (h2 : goodV c t = true) : liveE c ws t = bif liveV (ws.getD (adr c 3 (tE t)).toNat 0) (tG t) then (ws.getD (adr c 3 (tE t)).toNat 0 / 16 % 65536 - 1, true) else (-1, false) := by
  unfold liveE; simp [h0, h1, h2]
theorem v1031 (h : (u64B ws && uB t) = true) : GivesV (sxFn E1031 A1031 C1031 [.agg (encC c), .d (.ints .u64 ws), U t] [] KS) (.tup [I (liveE c ws t).1, B (liveE c ws t).2]) := by
  simp only [Bool.and_eq_true] at h
  obtain ⟨hw, ht⟩ := h
  rw [← sxFnI_eq, n1031]
  have no : ¬ (chkC c = 0 ∧ (ws.length : Int) = szC c ∧ goodV c t = true) → ∀ H, GivesV (KS (.tup [I (-1), B false]) H) (.tup [I (liveE c ws t).1, B (liveE c ws t).2]) := fun q H => by rw [liveE_no q]; exact givesV
  by_cases h0 : chkC c = 0
  · rw [bang_f h0, br_f]
    by_cases h1 : (ws.length : Int) = szC c
    · rw [bang_f h1, br_f]
      cases hg : goodV c t with
      | true =>
        obtain ⟨g1, g2, g3, g4⟩ := goodV_at hg
        rw [liveE_at h0 h1 hg]
        rw [ht, br_t, h0, show ((0 : Int) == 0) = true from rfl, br_t, decide_eq_true g1, br_t, decide_eq_true g2, br_t, decide_eq_true g3, br_t, decide_eq_true g4, Bool.not_true, br_f, br_t, inBE h0 h1 g1 g2, br_t, u64B_all hw, br_t]
        unfold liveV
        cases (ws.getD (adr c 3 (t % 65536 - 1)).toNat 0 % 16 == 1) <;> cases (ws.getD (adr c 3 (t % 65536 - 1)).toNat 0 / 1048576 == t / 65536) <;> exact givesV
      | false =>
        have q := no (by simp [hg])
        have hg' := hg
        unfold goodV at hg'
        rw [ht, br_t, h0, show ((0 : Int) == 0) = true from rfl, br_t]
        rw [h0, show ((0 : Int) == 0) = true from rfl, Bool.true_and] at hg'
        cases e1 : decide (t % 65536 - 1 ≥ 0) with
        | false => exact q _
        | true =>
          cases e2 : decide (t % 65536 - 1 < c.e) with
          | false => exact q _
          | true =>
            cases e3 : decide (t / 65536 ≥ 1) with
            | false => exact q _
            | true =>
              cases e4 : decide (t / 65536 ≤ c.l) with
              | false => exact q _
              | true => rw [e1, e2, e3, e4] at hg'; cases hg'
    · rw [bang_t h1, br_t]
      exact no (fun q => h1 q.2.1) _
  · have q := no (fun q => h0 q.1)
    rw [bang_t h0, br_t, br_t]
    exact q _
theorem v1032 (h : (u64B ws && uB t) = true) : GivesV (sxFn E1032 A1032 C1032 [.agg (encC c), .d (.ints .u64 ws), U t] [] KS) (.tup [I (liveE c ws t).1, B (liveE c ws t).2]) := by
  simp only [Bool.and_eq_true] at h
  obtain ⟨hw, ht⟩ := h
  rw [← sxFnI_eq, n1032]
  have no : ¬ (chkC c = 0 ∧ (ws.length : Int) = szC c ∧ goodV c t = true) → ∀ H, GivesV (KS (.tup [I (-1), B false]) H) (.tup [I (liveE c ws t).1, B (liveE c ws t).2]) := fun q H => by rw [liveE_no q]; exact givesV
  by_cases h0 : chkC c = 0
  · rw [bang_f h0, br_f, h0, show ((0 : Int) == 0) = true from rfl, br_t, ← szC_eq h0]
    by_cases h1 : (ws.length : Int) = szC c
    · rw [bang_f h1, br_f]
      cases hg : goodV c t with
      | true =>
        obtain ⟨g1, g2, g3, g4⟩ := goodV_at hg
        rw [liveE_at h0 h1 hg]
        rw [ht, br_t, br_t, decide_eq_true g1, br_t, decide_eq_true g2, br_t, decide_eq_true g3, br_t, decide_eq_true g4, Bool.not_true, br_f, br_t, inBE h0 h1 g1 g2, br_t, u64B_all hw, br_t]
        unfold liveV
        cases (ws.getD (adr c 3 (t % 65536 - 1)).toNat 0 % 16 == 1) <;> cases (ws.getD (adr c 3 (t % 65536 - 1)).toNat 0 / 1048576 == t / 65536) <;> exact givesV
      | false =>
        have q := no (by simp [hg])
        have hg' := hg
        unfold goodV at hg'
        rw [ht, br_t, br_t]
        rw [h0, show ((0 : Int) == 0) = true from rfl, Bool.true_and] at hg'
        cases e1 : decide (t % 65536 - 1 ≥ 0) with
        | false => exact q _
        | true =>
          cases e2 : decide (t % 65536 - 1 < c.e) with
          | false => exact q _
          | true =>
            cases e3 : decide (t / 65536 ≥ 1) with
            | false => exact q _
            | true =>
              cases e4 : decide (t / 65536 ≤ c.l) with
              | false => exact q _
              | true => rw [e1, e2, e3, e4] at hg'; cases hg'
    · rw [bang_t h1, br_t]
      exact no (fun q => h1 q.2.1) _
  · rw [bang_t h0, br_t]
    exact no (fun q => h0 q.1) _
end
def F1034v : List (List Int) → Option (Bool × SV × SH)
  | [[c_a, c_b, c_c, c_d, c_e, c_f, c_g, c_l], [t]] => let c := (⟨c_a, c_b, c_c, c_d, c_e, c_f, c_g, c_l⟩ : Md.Cf); some (uB t, B (goodV c t), [])
  | _ => none
def S1034c {Ω : Type} : Spec Ω := conSpec [.g cfgK, .i .u64] F1034v
theorem g1034c : Good1 Try.prog 36 S1034c := conGood Try.func36 (by kernel_rfl) c1034 e1034 mix (A := A1034) fun L r hr hl hF => by
  obtain ⟨q0, l0, rfl, z0, hl1⟩ := lenAs_cons hl
  obtain ⟨c_a, c_b, c_c, c_d, c_e, c_f, c_g, c_l, rfl⟩ := eight z0
  obtain ⟨q1, l1, rfl, z1, hl2⟩ := lenAs_cons hl1
  obtain ⟨t, rfl⟩ := one_of' z1
  have hz := lenAs_nil hl2
  subst hz
  simp only [F1034v, Option.some.injEq, Prod.mk.injEq] at hF
  obtain ⟨hu, rfl, rfl⟩ := hF
  obtain ⟨H, hH⟩ := v1034 (c := (⟨c_a, c_b, c_c, c_d, c_e, c_f, c_g, c_l⟩ : Md.Cf)) (t := t) (by first | exact hu | exact rfl)
  exact ⟨by first | exact trivial | exact ⟨trivial, trivial⟩ | exact ⟨trivial, trivial, trivial⟩ | exact ⟨trivial, trivial, trivial, trivial⟩, trivial, H, trim_none rfl _, hH⟩

def F1031v : List (List Int) → Option (Bool × SV × SH)
  | [[c_a, c_b, c_c, c_d, c_e, c_f, c_g, c_l], ws, [t]] => let c := (⟨c_a, c_b, c_c, c_d, c_e, c_f, c_g, c_l⟩ : Md.Cf); some (u64B ws && uB t, .tup [I (liveE c ws t).1, B (liveE c ws t).2], [])
  | _ => none
def S1031c {Ω : Type} : Spec Ω := conSpec [.g cfgK, .s .u64, .i .u64] F1031v
theorem g1031c : Good1 Try.prog 33 S1031c := conGood Try.func33 (by kernel_rfl) c1031 e1031 mix (A := A1031) fun L r hr hl hF => by
  obtain ⟨q0, l0, rfl, z0, hl1⟩ := lenAs_cons hl
  obtain ⟨c_a, c_b, c_c, c_d, c_e, c_f, c_g, c_l, rfl⟩ := eight z0
  obtain ⟨ws, l1, rfl, z1, hl2⟩ := lenAs_cons hl1
  obtain ⟨q2, l2, rfl, z2, hl3⟩ := lenAs_cons hl2
  obtain ⟨t, rfl⟩ := one_of' z2
  have hz := lenAs_nil hl3
  subst hz
  simp only [F1031v, Option.some.injEq, Prod.mk.injEq] at hF
  obtain ⟨hu, rfl, rfl⟩ := hF
  obtain ⟨H, hH⟩ := v1031 (c := (⟨c_a, c_b, c_c, c_d, c_e, c_f, c_g, c_l⟩ : Md.Cf)) (ws := ws) (t := t) (by first | exact hu | exact rfl)
  exact ⟨by first | exact trivial | exact ⟨trivial, trivial⟩ | exact ⟨trivial, trivial, trivial⟩ | exact ⟨trivial, trivial, trivial, trivial⟩, trivial, H, trim_none rfl _, hH⟩

def F1032v : List (List Int) → Option (Bool × SV × SH)
  | [[c_a, c_b, c_c, c_d, c_e, c_f, c_g, c_l], ws, [t]] => let c := (⟨c_a, c_b, c_c, c_d, c_e, c_f, c_g, c_l⟩ : Md.Cf); some (u64B ws && uB t, .tup [I (liveE c ws t).1, B (liveE c ws t).2], [])
  | _ => none
def S1032c {Ω : Type} : Spec Ω := conSpec [.g cfgK, .s .u64, .i .u64] F1032v
theorem g1032c : Good1 Try.prog 34 S1032c := conGood Try.func34 (by kernel_rfl) c1032 e1032 mix (A := A1032) fun L r hr hl hF => by
  obtain ⟨q0, l0, rfl, z0, hl1⟩ := lenAs_cons hl
  obtain ⟨c_a, c_b, c_c, c_d, c_e, c_f, c_g, c_l, rfl⟩ := eight z0
  obtain ⟨ws, l1, rfl, z1, hl2⟩ := lenAs_cons hl1
  obtain ⟨q2, l2, rfl, z2, hl3⟩ := lenAs_cons hl2
  obtain ⟨t, rfl⟩ := one_of' z2
  have hz := lenAs_nil hl3
  subst hz
  simp only [F1032v, Option.some.injEq, Prod.mk.injEq] at hF
  obtain ⟨hu, rfl, rfl⟩ := hF
  obtain ⟨H, hH⟩ := v1032 (c := (⟨c_a, c_b, c_c, c_d, c_e, c_f, c_g, c_l⟩ : Md.Cf)) (ws := ws) (t := t) (by first | exact hu | exact rfl)
  exact ⟨by first | exact trivial | exact ⟨trivial, trivial⟩ | exact ⟨trivial, trivial, trivial⟩ | exact ⟨trivial, trivial, trivial, trivial⟩, trivial, H, trim_none rfl _, hH⟩

end Go.Sx.Pr

namespace Go.Sx.Pr
open Go Go.Sx Go.Proofs
set_option maxRecDepth 100000
def K1007_1 : CC := .seq (.reg false [⟨some 198, .mv (.t 23), none, 0⟩,
   ⟨some 199, .mv (.t 22), none, 0⟩,
   ⟨some 200, .bin .add (.t 199) (.c (.d (.v (.int .u64 1)))), none, 0⟩,
   ⟨some 201, .eq .int false (.t 198) (.t 200), none, 0⟩,
   ⟨some 202, .mv (.t 201), none, 0⟩,
   ⟨some 203, .mv (.t 25), some (202, true), 0⟩,
   ⟨some 204, .eq .int false (.t 203) (.c (.d (.v (.int .i64 0)))), some (202, true), 0⟩,
   ⟨some 205, .pick (.t 202) (.t 204) (.c (.d (.v (.bool false)))), none, 0⟩,
   ⟨some 206, .mv (.t 205), none, 0⟩,
   ⟨some 207, .fa 20 (.t 14), some (206, true), 0⟩,
   ⟨some 208, .ld 1 false (.t 207), some (206, true), 0⟩,
   ⟨some 209, .mv (.t 21), some (206, true), 0⟩,
   ⟨some 210, .bin .add (.t 209) (.c (.d (.v (.int .i64 1)))), some (206, true), 0⟩,
   ⟨some 211, .eq .int false (.t 208) (.t 210), some (206, true), 0⟩,
   ⟨some 212, .pick (.t 206) (.t 211) (.c (.d (.v (.bool false)))), none, 0⟩,
   ⟨some 8, .mv (.t 212), none, 0⟩])
 (.ret)
def K1007_2 : CC := .seq (.reg false [⟨some 182, .mv (.t 22), none, 0⟩,
   ⟨some 183, .fa 7 (.t 4), none, 0⟩,
   ⟨some 184, .ld 1 false (.t 183), none, 0⟩,
   ⟨some 185, .bin .geq (.t 182) (.t 184), none, 0⟩])
 (.cond 185 (.seq (.reg false [⟨some 186, .mv (.t 23), none, 0⟩,
     ⟨some 187, .mv (.t 22), none, 0⟩,
     ⟨some 188, .eq .int false (.t 186) (.t 187), none, 0⟩,
     ⟨some 189, .mv (.t 188), none, 0⟩,
     ⟨some 190, .mv (.t 25), some (189, true), 0⟩,
     ⟨some 191, .eq .int false (.t 190) (.c (.d (.v (.int .i64 2)))), some (189, true), 0⟩,
     ⟨some 192, .pick (.t 189) (.t 191) (.c (.d (.v (.bool false)))), none, 0⟩,
     ⟨some 193, .mv (.t 192), none, 0⟩,
     ⟨some 194, .fa 20 (.t 14), some (193, true), 0⟩,
     ⟨some 195, .ld 1 false (.t 194), some (193, true), 0⟩,
     ⟨some 196, .eq .int false (.t 195) (.c (.d (.v (.int .i64 0)))), some (193, true), 0⟩,
     ⟨some 197, .pick (.t 193) (.t 196) (.c (.d (.v (.bool false)))), none, 0⟩,
     ⟨some 8, .mv (.t 197), none, 0⟩])
   (.ret))
   (.skip))
def K1007_3 : CC := .seq (.reg false [⟨some 169, .mv (.t 15), none, 0⟩,
   ⟨some 170, .eq .int true (.t 169) (.c (.d (.v (.int .i64 1)))), none, 0⟩,
   ⟨some 171, .mv (.t 170), none, 0⟩,
   ⟨some 172, .mv (.t 17), some (171, false), 0⟩,
   ⟨some 173, .eq .int true (.t 172) (.c (.d (.v (.int .i64 1)))), some (171, false), 0⟩,
   ⟨some 174, .pick (.t 171) (.c (.d (.v (.bool true)))) (.t 173), none, 0⟩,
   ⟨some 175, .mv (.t 174), none, 0⟩,
   ⟨some 176, .mv (.t 20), some (175, false), 0⟩,
   ⟨some 177, .pick (.t 175) (.c (.d (.v (.bool true)))) (.t 176), none, 0⟩,
   ⟨some 178, .mv (.t 177), none, 0⟩,
   ⟨some 179, .mv (.t 24), some (178, false), 0⟩,
   ⟨some 180, .eq .int true (.t 179) (.c (.d (.v (.int .i64 (-1))))), some (178, false), 0⟩,
   ⟨some 181, .pick (.t 178) (.c (.d (.v (.bool true)))) (.t 180), none, 0⟩])
 (.cond 181 (.seq (.reg false [⟨some 8, .mv (.c (.d (.v (.bool false)))), none, 0⟩])
   (.ret))
   (.skip))
def K1007_4 : CC := .reg false [⟨some 157, .mv (.t 9), none, 0⟩,
   ⟨some 158, .mv (.t 9), none, 0⟩,
   ⟨some 159, .nilc (.t 158), none, 0⟩,
   ⟨some 160, .fa 0 (.t 159), none, 0⟩,
   ⟨some 161, .ld 8 true (.t 160), none, 0⟩,
   ⟨some 162, .mv (.t 21), none, 0⟩,
   ⟨some 163, .call (.c (.fn (.func 39) [] [])) [.t 161, .t 162], none, 0⟩,
   ⟨some 164, .call (.c (.fn (.func 14) [] [])) [.t 157, .t 163], none, 0⟩,
   ⟨some 165, .call (.c (.fn (.func 38) [] [])) [.t 164], none, 0⟩,
   ⟨some 156, .mv (.t 165), none, 0⟩,
   ⟨some 166, .ext 0 (.t 156), none, 0⟩,
   ⟨some 167, .ext 1 (.t 156), none, 0⟩,
   ⟨some 168, .ext 2 (.t 156), none, 0⟩,
   ⟨some 23, .mv (.t 166), none, 0⟩,
   ⟨some 24, .mv (.t 167), none, 0⟩,
   ⟨some 25, .mv (.t 168), none, 0⟩]
def K1007_5 : CC := .reg false [⟨some 152, .mv (.t 2), none, 0⟩,
   ⟨some 153, .call (.c (.fn (.func 37) [] [])) [.t 152], none, 0⟩,
   ⟨some 151, .mv (.t 153), none, 0⟩,
   ⟨some 154, .ext 0 (.t 151), none, 0⟩,
   ⟨some 155, .ext 1 (.t 151), none, 0⟩,
   ⟨some 21, .mv (.t 154), none, 0⟩,
   ⟨some 22, .mv (.t 155), none, 0⟩]
def K1007_6 : CC := .reg true [⟨some 144, .ld 8 true (.t 4), none, 0⟩,
   ⟨some 145, .mv (.t 9), none, 0⟩,
   ⟨some 146, .call (.c (.fn (.func 17) [] [])) [.t 145], none, 2⟩,
   ⟨some 147, .mv (.t 2), none, 0⟩,
   ⟨some 148, .call (.c (.fn (.func 33) [] [])) [.t 144, .t 146, .t 147], none, 15⟩,
   ⟨some 143, .mv (.t 148), none, 31⟩,
   ⟨some 149, .ext 0 (.t 143), none, 63⟩,
   ⟨some 150, .ext 1 (.t 143), none, 63⟩,
   ⟨some 20, .mv (.t 150), none, 255⟩]
def K1007_7 : CC := .reg false [⟨some 137, .mv (.t 9), none, 0⟩,
   ⟨some 138, .ld 33 true (.t 14), none, 0⟩,
   ⟨some 139, .call (.c (.fn (.func 28) [] [])) [.t 137, .t 138], none, 0⟩,
   ⟨some 136, .mv (.t 139), none, 0⟩,
   ⟨some 140, .ext 0 (.t 136), none, 0⟩,
   ⟨some 141, .ext 1 (.t 136), none, 0⟩,
   ⟨some 142, .ext 2 (.t 136), none, 0⟩,
   ⟨none, .st 33 (.t 14) (.t 140), none, 0⟩,
   ⟨some 17, .mv (.t 141), none, 0⟩]
def K1007_8 : CC := .reg false [⟨some 135, .fa 0 (.t 14), none, 0⟩,
   ⟨none, .st 1 (.t 135) (.c (.d (.v (.int .i64 43)))), none, 0⟩]
def K1007_9 : CC := .reg false [⟨some 128, .mv (.t 9), none, 0⟩,
   ⟨some 129, .mv (.t 2), none, 0⟩,
   ⟨some 130, .bld [.d (.v (.int .i64 0)), .d (.v (.int .i64 0)), .d (.v (.int .u64 0)), .d (.v (.int .u64 0)), .d (.v (.int .i64 0)), .d (.v (.bool false)), .d (.v (.int .i64 0)), .d (.v (.int .i64 0)), .d (.v (.bool false)), .d (.v (.int .u64 0)), .d (.v (.slice none 0 0)), .d (.v (.int .u64 0)), .d (.v (.slice none 0 0)), .d (.v (.int .u64 0)), .d (.v (.slice none 0 0)), .d (.v (.int .u64 0)), .d (.v (.slice none 0 0)), .d (.v (.slice none 0 0)), .d (.v (.int .i64 0)), .d (.v (.int .i64 0)), .d (.v (.int .i64 0)), .d (.v (.int .i64 0)), .d (.v (.int .i64 0)), .d (.v (.int .u64 0)), .d (.v (.int .u64 0)), .d (.v (.int .u64 0)), .d (.v (.int .u64 0)), .d (.v (.int .u64 0)), .d (.v (.int .i64 0)), .d (.v (.slice none 0 0)), .d (.v (.int .u64 0)), .d (.v (.int .i64 0)), .d (.v (.bool false))] [(0, 1, .c (.d (.v (.int .i64 42)))), (30, 1, .t 129)], none, 0⟩,
   ⟨some 131, .call (.c (.fn (.func 28) [] [])) [.t 128, .t 130], none, 0⟩,
   ⟨some 127, .mv (.t 131), none, 0⟩,
   ⟨some 132, .ext 0 (.t 127), none, 0⟩,
   ⟨some 133, .ext 1 (.t 127), none, 0⟩,
   ⟨some 134, .ext 2 (.t 127), none, 0⟩,
   ⟨none, .st 33 (.t 14) (.t 132), none, 0⟩,
   ⟨some 15, .mv (.t 133), none, 0⟩]
def K1007_10 : CC := .cond 126 (.seq (.reg false [⟨some 8, .mv (.c (.d (.v (.bool false)))), none, 0⟩])
   (.ret))
   (.skip)
def K1007_11 : CC := .reg false [⟨some 98, .mv (.t 15), none, 0⟩,
   ⟨some 99, .eq .int true (.t 98) (.c (.d (.v (.int .i64 1)))), none, 0⟩,
   ⟨some 100, .mv (.t 99), none, 0⟩,
   ⟨some 101, .mv (.t 17), some (100, false), 0⟩,
   ⟨some 102, .eq .int true (.t 101) (.c (.d (.v (.int .i64 1)))), some (100, false), 0⟩,
   ⟨some 103, .pick (.t 100) (.c (.d (.v (.bool true)))) (.t 102), none, 0⟩,
   ⟨some 104, .mv (.t 103), none, 0⟩,
   ⟨some 105, .fa 18 (.t 14), some (104, false), 0⟩,
   ⟨some 106, .ld 1 false (.t 105), some (104, false), 0⟩,
   ⟨some 107, .eq .int true (.t 106) (.c (.d (.v (.int .i64 0)))), some (104, false), 0⟩,
   ⟨some 108, .pick (.t 104) (.c (.d (.v (.bool true)))) (.t 107), none, 0⟩,
   ⟨some 109, .mv (.t 108), none, 0⟩,
   ⟨some 110, .fa 21 (.t 14), some (109, false), 0⟩,
   ⟨some 111, .ld 1 false (.t 110), some (109, false), 0⟩,
   ⟨some 112, .mv (.t 12), some (109, false), 0⟩,
   ⟨some 113, .bin .add (.t 112) (.c (.d (.v (.int .i64 1)))), some (109, false), 0⟩,
   ⟨some 114, .eq .int true (.t 111) (.t 113), some (109, false), 0⟩,
   ⟨some 115, .pick (.t 109) (.c (.d (.v (.bool true)))) (.t 114), none, 0⟩,
   ⟨some 116, .mv (.t 115), none, 0⟩,
   ⟨some 117, .mv (.t 20), some (116, false), 0⟩,
   ⟨some 118, .un .not (.t 117), some (116, false), 0⟩,
   ⟨some 119, .pick (.t 116) (.c (.d (.v (.bool true)))) (.t 118), none, 0⟩,
   ⟨some 120, .mv (.t 119), none, 0⟩,
   ⟨some 121, .mv (.t 19), some (120, false), 0⟩,
   ⟨some 122, .mv (.t 3), some (120, false), 0⟩,
   ⟨some 123, .conv .i64 (.t 122), some (120, false), 0⟩,
   ⟨some 124, .bin .rem (.t 123) (.c (.d (.v (.int .i64 40)))), some (120, false), 0⟩,
   ⟨some 125, .eq .int true (.t 121) (.t 124), some (120, false), 0⟩,
   ⟨some 126, .pick (.t 120) (.c (.d (.v (.bool true)))) (.t 125), none, 0⟩]
def K1007_12 : CC := .reg true [⟨some 91, .ld 8 true (.t 4), none, 0⟩,
   ⟨some 92, .mv (.t 9), none, 0⟩,
   ⟨some 93, .call (.c (.fn (.func 17) [] [])) [.t 92], none, 2⟩,
   ⟨some 94, .mv (.t 2), none, 0⟩,
   ⟨some 95, .call (.c (.fn (.func 33) [] [])) [.t 91, .t 93, .t 94], none, 15⟩,
   ⟨some 90, .mv (.t 95), none, 31⟩,
   ⟨some 96, .ext 0 (.t 90), none, 63⟩,
   ⟨some 97, .ext 1 (.t 90), none, 63⟩,
   ⟨some 19, .mv (.t 96), none, 127⟩,
   ⟨some 20, .mv (.t 97), none, 511⟩]
def K1007_13 : CC := .reg false [⟨some 84, .mv (.t 9), none, 0⟩,
   ⟨some 85, .ld 33 true (.t 14), none, 0⟩,
   ⟨some 86, .call (.c (.fn (.func 28) [] [])) [.t 84, .t 85], none, 0⟩,
   ⟨some 83, .mv (.t 86), none, 0⟩,
   ⟨some 87, .ext 0 (.t 83), none, 0⟩,
   ⟨some 88, .ext 1 (.t 83), none, 0⟩,
   ⟨some 89, .ext 2 (.t 83), none, 0⟩,
   ⟨none, .st 33 (.t 14) (.t 87), none, 0⟩,
   ⟨some 17, .mv (.t 88), none, 0⟩,
   ⟨some 18, .mv (.t 89), none, 0⟩]
def K1007_14 : CC := .reg false [⟨some 77, .mv (.t 3), none, 0⟩,
   ⟨some 78, .conv .i64 (.t 77), none, 0⟩,
   ⟨some 79, .bin .rem (.t 78) (.c (.d (.v (.int .i64 40)))), none, 0⟩,
   ⟨some 80, .bin .add (.t 79) (.c (.d (.v (.int .i64 1)))), none, 0⟩,
   ⟨some 81, .fa 0 (.t 14), none, 0⟩,
   ⟨none, .st 1 (.t 81) (.c (.d (.v (.int .i64 45)))), none, 0⟩,
   ⟨some 82, .fa 18 (.t 14), none, 0⟩,
   ⟨none, .st 1 (.t 82) (.t 80), none, 0⟩]
def K1007_15 : CC := .reg false [⟨some 70, .mv (.t 9), none, 0⟩,
   ⟨some 71, .mv (.t 2), none, 0⟩,
   ⟨some 72, .bld [.d (.v (.int .i64 0)), .d (.v (.int .i64 0)), .d (.v (.int .u64 0)), .d (.v (.int .u64 0)), .d (.v (.int .i64 0)), .d (.v (.bool false)), .d (.v (.int .i64 0)), .d (.v (.int .i64 0)), .d (.v (.bool false)), .d (.v (.int .u64 0)), .d (.v (.slice none 0 0)), .d (.v (.int .u64 0)), .d (.v (.slice none 0 0)), .d (.v (.int .u64 0)), .d (.v (.slice none 0 0)), .d (.v (.int .u64 0)), .d (.v (.slice none 0 0)), .d (.v (.slice none 0 0)), .d (.v (.int .i64 0)), .d (.v (.int .i64 0)), .d (.v (.int .i64 0)), .d (.v (.int .i64 0)), .d (.v (.int .i64 0)), .d (.v (.int .u64 0)), .d (.v (.int .u64 0)), .d (.v (.int .u64 0)), .d (.v (.int .u64 0)), .d (.v (.int .u64 0)), .d (.v (.int .i64 0)), .d (.v (.slice none 0 0)), .d (.v (.int .u64 0)), .d (.v (.int .i64 0)), .d (.v (.bool false))] [(0, 1, .c (.d (.v (.int .i64 44)))), (30, 1, .t 71)], none, 0⟩,
   ⟨some 73, .call (.c (.fn (.func 28) [] [])) [.t 70, .t 72], none, 0⟩,
   ⟨some 69, .mv (.t 73), none, 0⟩,
   ⟨some 74, .ext 0 (.t 69), none, 0⟩,
   ⟨some 75, .ext 1 (.t 69), none, 0⟩,
   ⟨some 76, .ext 2 (.t 69), none, 0⟩,
   ⟨none, .st 33 (.t 14) (.t 74), none, 0⟩,
   ⟨some 15, .mv (.t 75), none, 0⟩]
def K1007_16 : CC := .seq (.reg false [⟨some 60, .mv (.t 15), none, 0⟩,
   ⟨some 61, .eq .int true (.t 60) (.c (.d (.v (.int .i64 1)))), none, 0⟩,
   ⟨some 62, .mv (.t 61), none, 0⟩,
   ⟨some 63, .fa 21 (.t 14), some (62, false), 0⟩,
   ⟨some 64, .ld 1 false (.t 63), some (62, false), 0⟩,
   ⟨some 65, .mv (.t 12), some (62, false), 0⟩,
   ⟨some 66, .bin .add (.t 65) (.c (.d (.v (.int .i64 1)))), some (62, false), 0⟩,
   ⟨some 67, .eq .int true (.t 64) (.t 66), some (62, false), 0⟩,
   ⟨some 68, .pick (.t 62) (.c (.d (.v (.bool true)))) (.t 67), none, 0⟩])
 (.cond 68 (.seq (.reg false [⟨some 8, .mv (.c (.d (.v (.bool false)))), none, 0⟩])
   (.ret))
   (.skip))
def K1007_17 : CC := .seq (.reg false [⟨some 56, .mv (.t 13), none, 0⟩,
   ⟨some 57, .un .not (.t 56), none, 0⟩])
 (.cond 57 (.seq (.reg false [⟨some 58, .mv (.t 15), none, 0⟩,
     ⟨some 59, .eq .int false (.t 58) (.c (.d (.v (.int .i64 2)))), none, 0⟩,
     ⟨some 8, .mv (.t 59), none, 0⟩])
   (.ret))
   (.skip))
def K1007_18 : CC := .seq (.reg false [⟨some 52, .ld 8 true (.t 4), none, 0⟩,
   ⟨some 53, .mv (.t 2), none, 0⟩,
   ⟨some 54, .call (.c (.fn (.func 36) [] [])) [.t 52, .t 53], none, 0⟩,
   ⟨some 55, .un .not (.t 54), none, 0⟩])
 (.cond 55 (.seq (.reg false [⟨some 8, .mv (.c (.d (.v (.bool true)))), none, 0⟩])
   (.ret))
   (.skip))
def K1007_19 : CC := .reg false [⟨some 45, .mv (.t 9), none, 0⟩,
   ⟨some 46, .mv (.t 2), none, 0⟩,
   ⟨some 47, .bld [.d (.v (.int .i64 0)), .d (.v (.int .i64 0)), .d (.v (.int .u64 0)), .d (.v (.int .u64 0)), .d (.v (.int .i64 0)), .d (.v (.bool false)), .d (.v (.int .i64 0)), .d (.v (.int .i64 0)), .d (.v (.bool false)), .d (.v (.int .u64 0)), .d (.v (.slice none 0 0)), .d (.v (.int .u64 0)), .d (.v (.slice none 0 0)), .d (.v (.int .u64 0)), .d (.v (.slice none 0 0)), .d (.v (.int .u64 0)), .d (.v (.slice none 0 0)), .d (.v (.slice none 0 0)), .d (.v (.int .i64 0)), .d (.v (.int .i64 0)), .d (.v (.int .i64 0)), .d (.v (.int .i64 0)), .d (.v (.int .i64 0)), .d (.v (.int .u64 0)), .d (.v (.int .u64 0)), .d (.v (.int .u64 0)), .d (.v (.int .u64 0)), .d (.v (.int .u64 0)), .d (.v (.int .i64 0)), .d (.v (.slice none 0 0)), .d (.v (.int .u64 0)), .d (.v (.int .i64 0)), .d (.v (.bool false))] [(0, 1, .c (.d (.v (.int .i64 60)))), (30, 1, .t 46)], none, 0⟩,
   ⟨some 48, .call (.c (.fn (.func 28) [] [])) [.t 45, .t 47], none, 0⟩,
   ⟨some 44, .mv (.t 48), none, 0⟩,
   ⟨some 49, .ext 0 (.t 44), none, 0⟩,
   ⟨some 50, .ext 1 (.t 44), none, 0⟩,
   ⟨some 51, .ext 2 (.t 44), none, 0⟩,
   ⟨some 14, .newc 40 [.d (.v (.int .i64 0)), .d (.v (.int .i64 0)), .d (.v (.int .u64 0)), .d (.v (.int .u64 0)), .d (.v (.int .i64 0)), .d (.v (.bool false)), .d (.v (.int .i64 0)), .d (.v (.int .i64 0)), .d (.v (.bool false)), .d (.v (.int .u64 0)), .d (.v (.slice none 0 0)), .d (.v (.int .u64 0)), .d (.v (.slice none 0 0)), .d (.v (.int .u64 0)), .d (.v (.slice none 0 0)), .d (.v (.int .u64 0)), .d (.v (.slice none 0 0)), .d (.v (.slice none 0 0)), .d (.v (.int .i64 0)), .d (.v (.int .i64 0)), .d (.v (.int .i64 0)), .d (.v (.int .i64 0)), .d (.v (.int .i64 0)), .d (.v (.int .u64 0)), .d (.v (.int .u64 0)), .d (.v (.int .u64 0)), .d (.v (.int .u64 0)), .d (.v (.int .u64 0)), .d (.v (.int .i64 0)), .d (.v (.slice none 0 0)), .d (.v (.int .u64 0)), .d (.v (.int .i64 0)), .d (.v (.bool false))], none, 0⟩,
   ⟨none, .st 33 (.t 14) (.t 49), none, 0⟩,
   ⟨some 15, .mv (.t 50), none, 0⟩,
   ⟨some 16, .mv (.t 51), none, 0⟩]
def K1007_20 : CC := .reg false [⟨some 38, .ld 8 true (.t 4), none, 0⟩,
   ⟨some 39, .mv (.t 1), none, 0⟩,
   ⟨some 40, .mv (.t 2), none, 0⟩,
   ⟨some 41, .call (.c (.fn (.func 34) [] [])) [.t 38, .t 39, .t 40], none, 0⟩,
   ⟨some 37, .mv (.t 41), none, 0⟩,
   ⟨some 42, .ext 0 (.t 37), none, 0⟩,
   ⟨some 43, .ext 1 (.t 37), none, 0⟩,
   ⟨some 12, .mv (.t 42), none, 0⟩,
   ⟨some 13, .mv (.t 43), none, 0⟩]
def K1007_21 : CC := .seq (.reg false [⟨some 35, .mv (.t 11), none, 0⟩,
   ⟨some 36, .un .not (.t 35), none, 0⟩])
 (.cond 36 (.seq (.reg false [⟨some 8, .mv (.c (.d (.v (.bool true)))), none, 0⟩])
   (.ret))
   (.skip))
def K1007_22 : CC := .reg false [⟨some 29, .ld 8 true (.t 4), none, 0⟩,
   ⟨some 30, .mv (.t 1), none, 0⟩,
   ⟨some 31, .call (.c (.fn (.func 27) [] [])) [.t 29, .t 30], none, 0⟩,
   ⟨some 28, .mv (.t 31), none, 0⟩,
   ⟨some 32, .ext 0 (.t 28), none, 0⟩,
   ⟨some 33, .ext 1 (.t 28), none, 0⟩,
   ⟨some 34, .ext 2 (.t 28), none, 0⟩,
   ⟨some 9, .mv (.t 32), none, 0⟩,
   ⟨some 10, .mv (.t 33), none, 0⟩,
   ⟨some 11, .mv (.t 34), none, 0⟩]
def K1007_23 : CC := .seq (.reg false [⟨some 26, .call (.c (.fn (.func 26) [] [])) [], none, 0⟩,
   ⟨some 27, .un .not (.t 26), none, 0⟩])
 (.cond 27 (.seq (.reg false [⟨some 8, .mv (.c (.d (.v (.bool false)))), none, 0⟩])
   (.ret))
   (.skip))
def K1007_24 : CC := .reg false [⟨some 4, .box 26 8 (.t 0), none, 0⟩,
   ⟨some 8, .mv (.c (.d (.v (.bool false)))), none, 0⟩]
def PA7 : CC := .seq K1007_24 (.seq K1007_23 (.seq K1007_22 K1007_21))
def PB7 : CC := .seq K1007_20 K1007_19
def PB7' : CC := .seq K1007_18 (.seq K1007_17 K1007_16)
def PC7 : CC := .seq K1007_15 K1007_14
def PD7 : CC := .seq K1007_13 (.seq K1007_12 (.seq K1007_11 K1007_10))
def PE7 : CC := .seq K1007_9 K1007_8
def PF7 : CC := .seq K1007_7 (.seq K1007_6 (.seq K1007_5 (.seq K1007_4 K1007_3)))
/-- coatcheck/coatchecklaw11.EntryChanges -/
def C1007 : CF := ⟨4, [(8, none)],
 .seq K1007_24 (.seq K1007_23 (.seq K1007_22 (.seq K1007_21 (.seq K1007_20 (.seq K1007_19 (.seq K1007_18 (.seq K1007_17 (.seq K1007_16 (.seq K1007_15 (.seq K1007_14 (.seq K1007_13 (.seq K1007_12 (.seq (.seq K1007_11 K1007_10) (.seq K1007_9 (.seq K1007_8 (.seq K1007_7 (.seq K1007_6 (.seq K1007_5 (.seq K1007_4 (.seq K1007_3 (.seq K1007_2 K1007_1)))))))))))))))))))))⟩
theorem c1007 : coF Try.prog Try.f8 = some C1007 := by kernel_rfl
def A1007 : Ann := { keep := [0, 1, 2, 3, 4, 8, 9, 11, 12, 13, 14, 15, 17, 19, 20, 21, 22, 23, 24, 25, 27, 36, 55, 57, 68, 126, 181, 185], live := [] }
def E1007 {Ω : Type} : Env Ω := econs 14 S30m (econs 17 S33c (econs 26 S1028 (econs 27 S44c (econs 28 S1029m (econs 33 S1031c (econs 34 S1032c (econs 36 S1034c (econs 37 S1035c (econs 38 S1036c (econs 39 S111c (enil)))))))))))
theorem e1007 : GoodE Try.prog E1007 := GoodE.cons g30m (GoodE.cons g33c (GoodE.cons g1028 (GoodE.cons g44c (GoodE.cons g1029m (GoodE.cons g1031c (GoodE.cons g1032c (GoodE.cons g1034c (GoodE.cons g1035c (GoodE.cons g1036c (GoodE.cons g111c (GoodE.nil)))))))))))
end Go.Sx.Pr

/- Rows of workers' states and of bools, as functions of their places. -/
namespace Go.Sx.Pr
open Go Go.Sx Go.Sx.Md
def wk0 : Wk := ⟨0, 0, 0, 0, 0, false, 0, 0, false, 0, [], 0, [], 0, [], 0, [], [], 0, 0, 0, 0, 0, 0, 0, 0, 0, 0, 0, [], 0, 0, false⟩
end Go.Sx.Pr

/- Normal forms of coatchecklaw11.EntryChanges, piece by piece. -/
namespace Go.Sx.Pr
open Go Go.Sx Go.Sx.Md Go.Proofs
set_option maxRecDepth 100000
theorem nA7 {Ω : Type} (it : Itr Ω) (K : SE → SS → Option Ω) (c : Cf) (ws : List Int) (t k : Int) :
    sxI it E1007 A1007 PA7 0 ⟨[(0, .agg (encC c)), (1, .d (.ints .u64 ws)), (2, U t), (3, .d (.v (.int .u8 k)))], []⟩ K =
    br (bothV (c) ws) (K .norm (SS.mk [(0, .agg [I (Cf.a c), I (Cf.b c), I (Cf.c c), I (Cf.d c), I (Cf.e c), I (Cf.f c), I (Cf.g c), U (Cf.l c)]), (1, .d (DV.ints .u64 ws)), (2, U t), (3, .d (DV.v (Value.int .u8 k))), (4, .ptr 0 0), (8, B false), (9, .ptr 5 0), (11, B true)] [.cells 26 (encC c), .dead, .dead, .dead, .rowi 24 .u64 ws, .cells 79 (memC (c) ac0 4), .dead, .rowi 24 .u64 ws, .cells 103 (memD (c) ac0 7)])) (K .ret (SS.mk [(0, .agg [I (Cf.a c), I (Cf.b c), I (Cf.c c), I (Cf.d c), I (Cf.e c), I (Cf.f c), I (Cf.g c), U (Cf.l c)]), (1, .d (DV.ints .u64 ws)), (2, U t), (3, .d (DV.v (Value.int .u8 k))), (4, .ptr 0 0), (8, B true), (11, B false)] [.cells 26 (encC c)])) := by kernel_rfl
theorem nB7 {Ω : Type} (it : Itr Ω) (K : SE → SS → Option Ω) (c : Cf) (ws : List Int) (t k : Int) (m : Mm) :
    sxI it E1007 A1007 PB7 0 ⟨[(0, .agg (encC c)), (1, .d (.ints .u64 ws)), (2, U t), (3, .d (.v (.int .u8 k))), (4, .ptr 0 0), (8, B false), (9, .ptr 5 0), (11, B true)], [.cells 26 (encC c), .dead, .dead, .dead, .rowi 24 .u64 m.ws, .cells 79 (memC m.c m.s 4), .dead, .rowi 24 .u64 ws, .cells 103 (memD c ac0 7)]⟩ K =
    br (u64B ws && uB t) (br (okM (m) && okW ({ wk0 with line := 60, T := t })) (K .norm (SS.mk [(0, .agg [I (Cf.a c), I (Cf.b c), I (Cf.c c), I (Cf.d c), I (Cf.e c), I (Cf.f c), I (Cf.g c), U (Cf.l c)]), (1, .d (DV.ints .u64 ws)), (2, U t), (3, .d (DV.v (Value.int .u8 k))), (4, .ptr 0 0), (8, B false), (9, .ptr 5 0), (11, B true), (12, I (Prod.fst (liveE (c) ws t))), (13, B (Prod.snd (liveE (c) ws t))), (14, .ptr 9 0), (15, I (SR.way (stepN (m) ({ wk0 with line := 60, T := t }))))] [.cells 26 (encC c), .dead, .dead, .dead, .rowi 24 .u64 (Mm.ws (SR.m (stepN (m) ({ wk0 with line := 60, T := t })))), .cells 79 (memC (Mm.c (SR.m (stepN (m) ({ wk0 with line := 60, T := t })))) (Mm.s (SR.m (stepN (m) ({ wk0 with line := 60, T := t })))) 4), .dead, .rowi 24 .u64 ws, .cells 103 (memD c ac0 7), .cells 40 (encW (SR.x (stepN (m) ({ wk0 with line := 60, T := t }))))])) none) none := by kernel_rfl
theorem nB7r {Ω : Type} (it : Itr Ω) (K : SE → SS → Option Ω) (c : Cf) (ws : List Int) (t k p way : Int) (q : Bool) (m : Mm) (x : Wk) :
    sxI it E1007 A1007 PB7' 0 ⟨[(0, .agg (encC c)), (1, .d (.ints .u64 ws)), (2, U t), (3, .d (.v (.int .u8 k))), (4, .ptr 0 0), (8, B false), (9, .ptr 5 0), (11, B true), (12, I p), (13, B q), (14, .ptr 9 0), (15, I way)], [.cells 26 (encC c), .dead, .dead, .dead, .rowi 24 .u64 m.ws, .cells 79 (memC m.c m.s 4), .dead, .rowi 24 .u64 ws, .cells 103 (memD c ac0 7), .cells 40 (encW x)]⟩ K =
    br (uB t) (br (!goodV (c) t) (K .ret (SS.mk [(0, .agg [I (Cf.a c), I (Cf.b c), I (Cf.c c), I (Cf.d c), I (Cf.e c), I (Cf.f c), I (Cf.g c), U (Cf.l c)]), (1, .d (DV.ints .u64 ws)), (2, U t), (3, .d (DV.v (Value.int .u8 k))), (4, .ptr 0 0), (8, B true), (9, .ptr 5 0), (11, B true), (12, I p), (13, B q), (14, .ptr 9 0), (15, I way)] [.cells 26 (encC c), .dead, .dead, .dead, .rowi 24 .u64 (Mm.ws m), .cells 79 (memC (Mm.c m) (Mm.s m) 4), .dead, .rowi 24 .u64 ws, .cells 103 (memD c ac0 7), .cells 40 (encW x)])) (br (!q) (K .ret (SS.mk [(0, .agg [I (Cf.a c), I (Cf.b c), I (Cf.c c), I (Cf.d c), I (Cf.e c), I (Cf.f c), I (Cf.g c), U (Cf.l c)]), (1, .d (DV.ints .u64 ws)), (2, U t), (3, .d (DV.v (Value.int .u8 k))), (4, .ptr 0 0), (8, B (way == 2)), (9, .ptr 5 0), (11, B true), (12, I p), (13, B q), (14, .ptr 9 0), (15, I way)] [.cells 26 (encC c), .dead, .dead, .dead, .rowi 24 .u64 (Mm.ws m), .cells 79 (memC (Mm.c m) (Mm.s m) 4), .dead, .rowi 24 .u64 ws, .cells 103 (memD c ac0 7), .cells 40 (encW x)])) (br (!way == 1) (K .ret (SS.mk [(0, .agg [I (Cf.a c), I (Cf.b c), I (Cf.c c), I (Cf.d c), I (Cf.e c), I (Cf.f c), I (Cf.g c), U (Cf.l c)]), (1, .d (DV.ints .u64 ws)), (2, U t), (3, .d (DV.v (Value.int .u8 k))), (4, .ptr 0 0), (8, B false), (9, .ptr 5 0), (11, B true), (12, I p), (13, B q), (14, .ptr 9 0), (15, I way)] [.cells 26 (encC c), .dead, .dead, .dead, .rowi 24 .u64 (Mm.ws m), .cells 79 (memC (Mm.c m) (Mm.s m) 4), .dead, .rowi 24 .u64 ws, .cells 103 (memD c ac0 7), .cells 40 (encW x)])) (br (!Wk.C x == IntKind.wrap .i64 (p + 1)) (K .ret (SS.mk [(0, .agg [I (Cf.a c), I (Cf.b c), I (Cf.c c), I (Cf.d c), I (Cf.e c), I (Cf.f c), I (Cf.g c), U (Cf.l c)]), (1, .d (DV.ints .u64 ws)), (2, U t), (3, .d (DV.v (Value.int .u8 k))), (4, .ptr 0 0), (8, B false), (9, .ptr 5 0), (11, B true), (12, I p), (13, B q), (14, .ptr 9 0), (15, I way)] [.cells 26 (encC c), .dead, .dead, .dead, .rowi 24 .u64 (Mm.ws m), .cells 79 (memC (Mm.c m) (Mm.s m) 4), .dead, .rowi 24 .u64 ws, .cells 103 (memD c ac0 7), .cells 40 (encW x)])) (K .norm (SS.mk [(0, .agg [I (Cf.a c), I (Cf.b c), I (Cf.c c), I (Cf.d c), I (Cf.e c), I (Cf.f c), I (Cf.g c), U (Cf.l c)]), (1, .d (DV.ints .u64 ws)), (2, U t), (3, .d (DV.v (Value.int .u8 k))), (4, .ptr 0 0), (8, B false), (9, .ptr 5 0), (11, B true), (12, I p), (13, B q), (14, .ptr 9 0), (15, I way)] [.cells 26 (encC c), .dead, .dead, .dead, .rowi 24 .u64 (Mm.ws m), .cells 79 (memC (Mm.c m) (Mm.s m) 4), .dead, .rowi 24 .u64 ws, .cells 103 (memD c ac0 7), .cells 40 (encW x)])))))) none := by kernel_rfl
end Go.Sx.Pr
