/- Pieces of the code of functions, compiled for the symbolic interpreter, each checked against the program; no conditions. -/
import Derived.Test.YtljmncdlehinnaaQ4b
import Derived.Test.YtljmncdlehinnaaR15
import Derived.Test.YtljmncdlehinnaaRows
import Derived.KernelRfl
set_option linter.unusedVariables false
set_option linter.unusedSimpArgs false
namespace Go.Sx.Pr
open Go Go.Sx Go.Proofs
set_option maxRecDepth 100000
def K1033_1 : CC := .seq (.reg false [⟨some 12, .ld 8 true (.t 2), none, 0⟩,
   ⟨some 13, .call (.c (.fn (.func 88) [] [])) [.t 12], none, 0⟩,
   ⟨some 14, .eq .int false (.t 13) (.c (.d (.v (.int .i64 0)))), none, 0⟩,
   ⟨some 15, .mv (.t 14), none, 0⟩,
   ⟨some 16, .mv (.t 5), some (15, true), 0⟩,
   ⟨some 17, .bin .geq (.t 16) (.c (.d (.v (.int .i64 0)))), some (15, true), 0⟩,
   ⟨some 18, .pick (.t 15) (.t 17) (.c (.d (.v (.bool false)))), none, 0⟩,
   ⟨some 19, .mv (.t 18), none, 0⟩,
   ⟨some 20, .mv (.t 5), some (19, true), 0⟩,
   ⟨some 21, .fa 4 (.t 2), some (19, true), 0⟩,
   ⟨some 22, .ld 1 false (.t 21), some (19, true), 0⟩,
   ⟨some 23, .bin .lss (.t 20) (.t 22), some (19, true), 0⟩,
   ⟨some 24, .pick (.t 19) (.t 23) (.c (.d (.v (.bool false)))), none, 0⟩,
   ⟨some 25, .mv (.t 24), none, 0⟩,
   ⟨some 26, .mv (.t 6), some (25, true), 0⟩,
   ⟨some 27, .bin .geq (.t 26) (.c (.d (.v (.int .u64 1)))), some (25, true), 0⟩,
   ⟨some 28, .pick (.t 25) (.t 27) (.c (.d (.v (.bool false)))), none, 0⟩,
   ⟨some 29, .mv (.t 28), none, 0⟩,
   ⟨some 30, .mv (.t 6), some (29, true), 0⟩,
   ⟨some 31, .fa 7 (.t 2), some (29, true), 0⟩,
   ⟨some 32, .ld 1 false (.t 31), some (29, true), 0⟩,
   ⟨some 33, .bin .leq (.t 30) (.t 32), some (29, true), 0⟩,
   ⟨some 34, .pick (.t 29) (.t 33) (.c (.d (.v (.bool false)))), none, 0⟩,
   ⟨some 4, .mv (.t 34), none, 0⟩])
 (.ret)
def K1033_2 : CC := .reg false [⟨some 8, .mv (.t 1), none, 0⟩,
   ⟨some 9, .call (.c (.fn (.func 71) [] [])) [.t 8], none, 0⟩,
   ⟨some 7, .mv (.t 9), none, 0⟩,
   ⟨some 10, .ext 0 (.t 7), none, 0⟩,
   ⟨some 11, .ext 1 (.t 7), none, 0⟩,
   ⟨some 5, .mv (.t 10), none, 0⟩,
   ⟨some 6, .mv (.t 11), none, 0⟩]
def K1033_3 : CC := .reg false [⟨some 2, .box 26 8 (.t 0), none, 0⟩,
   ⟨some 4, .mv (.c (.d (.v (.bool false)))), none, 0⟩]
/-- coatcheck/entry.Good -/
def C1033 : CF := ⟨2, [(4, none)],
 .seq K1033_3 (.seq K1033_2 K1033_1)⟩
theorem c1033 : coF Try.prog Try.f35 = some C1033 := by kernel_rfl
def A1033 : Ann := { keep := [0, 1, 2, 4, 5, 6], live := [] }
def E1033 {Ω : Type} : Env Ω := econs 71 S1068c (econs 88 S106 (enil))
theorem e1033 : GoodE Try.prog E1033 := GoodE.cons g1068c (GoodE.cons g106 (GoodE.nil))
def S1033 {Ω : Type} : Spec Ω := inl E1033 A1033 C1033 false
theorem g1033 : Good1 Try.prog 35 S1033 := Good1.inl e1033 mix Try.func35 (by kernel_rfl) c1033 A1033 false
def K1031_1 : CC := .seq (.reg false [⟨some 40, .mv (.t 1), none, 0⟩,
   ⟨some 41, .ld 8 true (.t 8), none, 0⟩,
   ⟨some 42, .mv (.t 10), none, 0⟩,
   ⟨some 43, .call (.c (.fn (.func 39) [] [])) [.t 41, .t 42], none, 0⟩,
   ⟨some 44, .ixs 1 (.t 40) (.t 43), none, 0⟩,
   ⟨some 45, .ld 1 false (.t 44), none, 0⟩,
   ⟨some 46, .mv (.t 11), none, 0⟩,
   ⟨some 47, .call (.c (.fn (.func 76) [] [])) [.t 45, .t 46], none, 0⟩,
   ⟨some 39, .mv (.t 47), none, 0⟩,
   ⟨some 48, .ext 0 (.t 39), none, 0⟩,
   ⟨some 49, .ext 1 (.t 39), none, 0⟩,
   ⟨some 12, .mv (.t 48), none, 0⟩,
   ⟨some 13, .mv (.t 49), none, 0⟩])
 (.seq (.seq (.reg false [⟨some 50, .mv (.t 13), none, 0⟩,
   ⟨some 51, .un .not (.t 50), none, 0⟩])
 (.cond 51 (.seq (.reg false [⟨some 6, .mv (.c (.d (.v (.int .i64 (-1))))), none, 0⟩,
     ⟨some 7, .mv (.c (.d (.v (.bool false)))), none, 0⟩])
   (.ret))
   (.skip)))
 (.seq (.reg false [⟨some 52, .mv (.t 12), none, 0⟩,
   ⟨some 6, .mv (.t 52), none, 0⟩,
   ⟨some 7, .mv (.c (.d (.v (.bool true)))), none, 0⟩])
 (.ret)))
def K1031_2 : CC := .reg false [⟨some 35, .mv (.t 2), none, 0⟩,
   ⟨some 36, .call (.c (.fn (.func 71) [] [])) [.t 35], none, 0⟩,
   ⟨some 34, .mv (.t 36), none, 0⟩,
   ⟨some 37, .ext 0 (.t 34), none, 0⟩,
   ⟨some 38, .ext 1 (.t 34), none, 0⟩,
   ⟨some 10, .mv (.t 37), none, 0⟩,
   ⟨some 11, .mv (.t 38), none, 0⟩]
def K1031_3 : CC := .seq (.reg false [⟨some 19, .mv (.t 9), none, 0⟩,
   ⟨some 20, .eq .int true (.t 19) (.c (.d (.v (.int .i64 0)))), none, 0⟩,
   ⟨some 21, .mv (.t 20), none, 0⟩,
   ⟨some 22, .mv (.t 1), some (21, false), 0⟩,
   ⟨some 23, .len (.t 22), some (21, false), 0⟩,
   ⟨some 24, .ld 8 true (.t 8), some (21, false), 0⟩,
   ⟨some 25, .call (.c (.fn (.func 86) [] [])) [.t 24], some (21, false), 0⟩,
   ⟨some 26, .eq .int true (.t 23) (.t 25), some (21, false), 0⟩,
   ⟨some 27, .pick (.t 21) (.c (.d (.v (.bool true)))) (.t 26), none, 0⟩,
   ⟨some 28, .mv (.t 27), none, 0⟩,
   ⟨some 29, .ld 8 true (.t 3), some (28, false), 0⟩,
   ⟨some 30, .mv (.t 2), some (28, false), 0⟩,
   ⟨some 31, .call (.c (.fn (.func 35) [] [])) [.t 29, .t 30], some (28, false), 0⟩,
   ⟨some 32, .un .not (.t 31), some (28, false), 0⟩,
   ⟨some 33, .pick (.t 28) (.c (.d (.v (.bool true)))) (.t 32), none, 0⟩])
 (.cond 33 (.seq (.reg false [⟨some 6, .mv (.c (.d (.v (.int .i64 (-1))))), none, 0⟩,
     ⟨some 7, .mv (.c (.d (.v (.bool false)))), none, 0⟩])
   (.ret))
   (.skip))
def K1031_4 : CC := .reg false [⟨some 15, .ld 8 true (.t 3), none, 0⟩,
   ⟨some 16, .call (.c (.fn (.func 85) [] [])) [.t 15], none, 0⟩,
   ⟨some 14, .mv (.t 16), none, 0⟩,
   ⟨some 17, .ext 0 (.t 14), none, 0⟩,
   ⟨some 18, .ext 1 (.t 14), none, 0⟩,
   ⟨some 8, .newc 75 [.d (.v (.int .i64 0)), .d (.v (.int .i64 0)), .d (.v (.int .i64 0)), .d (.v (.int .i64 0)), .d (.v (.int .i64 0)), .d (.v (.int .i64 0)), .d (.v (.int .i64 0)), .d (.v (.int .u64 0))], none, 0⟩,
   ⟨none, .st 8 (.t 8) (.t 17), none, 0⟩,
   ⟨some 9, .mv (.t 18), none, 0⟩]
def K1031_5 : CC := .reg false [⟨some 3, .box 26 8 (.t 0), none, 0⟩,
   ⟨some 6, .mv (.c (.d (.v (.int .i64 0)))), none, 0⟩,
   ⟨some 7, .mv (.c (.d (.v (.bool false)))), none, 0⟩]
/-- coatcheck/entry.Live -/
def C1031 : CF := ⟨3, [(6, none), (7, none)],
 .seq K1031_5 (.seq K1031_4 (.seq K1031_3 (.seq K1031_2 K1031_1)))⟩
theorem c1031 : coF Try.prog Try.f33 = some C1031 := by kernel_rfl
def A1031 : Ann := { keep := [0, 1, 2, 3, 6, 7, 8, 9, 10, 11, 12, 13, 33, 51], live := [] }
def E1031 {Ω : Type} : Env Ω := econs 35 S1033 (econs 39 S111c (econs 71 S1068c (econs 76 S1071 (econs 85 S63 (econs 86 S64 (enil))))))
theorem e1031 : GoodE Try.prog E1031 := GoodE.cons g1033 (GoodE.cons g111c (GoodE.cons g1068c (GoodE.cons g1071 (GoodE.cons g63 (GoodE.cons g64 (GoodE.nil))))))
def S1031 {Ω : Type} : Spec Ω := inl E1031 A1031 C1031 false
theorem g1031 : Good1 Try.prog 33 S1031 := Good1.inl e1031 mix Try.func33 (by kernel_rfl) c1031 A1031 false
def K1028_1 : CC := .seq (.reg true [⟨some 48, .mv (.t 4), none, 0⟩,
   ⟨some 49, .eq .int false (.t 48) (.c (.d (.v (.int .i64 1)))), none, 1⟩,
   ⟨some 50, .mv (.t 49), none, 3⟩,
   ⟨some 51, .fa 30 (.t 3), some (50, true), 7⟩,
   ⟨some 52, .ld 1 false (.t 51), some (50, true), 15⟩,
   ⟨some 53, .call (.c (.fn (.func 68) [] [])) [.c (.d (.v (.int .i64 0))), .c (.d (.v (.int .u64 1)))], some (50, true), 7⟩,
   ⟨some 54, .eq .int false (.t 52) (.t 53), some (50, true), 63⟩,
   ⟨some 55, .pick (.t 50) (.t 54) (.c (.d (.v (.bool false)))), none, 127⟩,
   ⟨some 56, .mv (.t 55), none, 255⟩,
   ⟨some 57, .mv (.t 7), some (56, true), 511⟩,
   ⟨some 58, .pick (.t 56) (.t 57) (.c (.d (.v (.bool false)))), none, 1023⟩,
   ⟨some 59, .mv (.t 58), none, 2047⟩,
   ⟨some 60, .mv (.t 6), some (59, true), 4095⟩,
   ⟨some 61, .eq .int false (.t 60) (.c (.d (.v (.int .i64 5)))), some (59, true), 8191⟩,
   ⟨some 62, .pick (.t 59) (.t 61) (.c (.d (.v (.bool false)))), none, 16383⟩,
   ⟨some 0, .mv (.t 62), none, 32767⟩])
 (.ret)
def K1028_2 : CC := .reg true [⟨some 36, .mv (.t 1), none, 0⟩,
   ⟨some 37, .nilc (.t 36), none, 1⟩,
   ⟨some 38, .fa 0 (.t 37), none, 3⟩,
   ⟨some 39, .fa 0 (.t 38), none, 7⟩,
   ⟨some 40, .ld 8 true (.t 39), none, 15⟩,
   ⟨some 41, .mv (.t 1), none, 0⟩,
   ⟨some 42, .call (.c (.fn (.func 17) [] [])) [.t 41], none, 32⟩,
   ⟨some 43, .fa 30 (.t 3), none, 0⟩,
   ⟨some 44, .ld 1 false (.t 43), none, 128⟩,
   ⟨some 45, .call (.c (.fn (.func 33) [] [])) [.t 40, .t 42, .t 44], none, 511⟩,
   ⟨some 35, .mv (.t 45), none, 1023⟩,
   ⟨some 46, .ext 0 (.t 35), none, 2047⟩,
   ⟨some 47, .ext 1 (.t 35), none, 2047⟩,
   ⟨some 6, .mv (.t 46), none, 4095⟩,
   ⟨some 7, .mv (.t 47), none, 16383⟩]
def L1028_3 : CC := .seq (.seq (.reg false [⟨some 20, .mv (.t 5), none, 0⟩,
   ⟨some 21, .bin .lss (.t 20) (.c (.d (.v (.int .i64 5)))), none, 0⟩,
   ⟨some 22, .mv (.t 21), none, 0⟩,
   ⟨some 23, .mv (.t 4), some (22, true), 0⟩,
   ⟨some 24, .eq .int false (.t 23) (.c (.d (.v (.int .i64 0)))), some (22, true), 0⟩,
   ⟨some 25, .pick (.t 22) (.t 24) (.c (.d (.v (.bool false)))), none, 0⟩])
 (.cond 25 (.skip)
   (.exit 0)))
 (.seq (.block 1 (.reg false [⟨some 29, .mv (.t 1), none, 0⟩,
     ⟨some 30, .ld 33 true (.t 3), none, 0⟩,
     ⟨some 31, .call (.c (.fn (.func 28) [] [])) [.t 29, .t 30], none, 0⟩,
     ⟨some 28, .mv (.t 31), none, 0⟩,
     ⟨some 32, .ext 0 (.t 28), none, 0⟩,
     ⟨some 33, .ext 1 (.t 28), none, 0⟩,
     ⟨some 34, .ext 2 (.t 28), none, 0⟩,
     ⟨none, .st 33 (.t 3) (.t 32), none, 0⟩,
     ⟨some 4, .mv (.t 33), none, 0⟩]))
 (.reg false [⟨some 26, .mv (.t 5), none, 0⟩,
   ⟨some 27, .bin .add (.t 26) (.c (.d (.v (.int .i64 1)))), none, 0⟩,
   ⟨some 5, .mv (.t 27), none, 0⟩]))
def K1028_4 : CC := .reg false [⟨some 5, .mv (.c (.d (.v (.int .i64 0)))), none, 0⟩]
def K1028_5 : CC := .reg false [⟨some 19, .bld [.d (.v (.int .i64 0)), .d (.v (.int .i64 0)), .d (.v (.int .u64 0)), .d (.v (.int .u64 0)), .d (.v (.int .i64 0)), .d (.v (.bool false)), .d (.v (.int .i64 0)), .d (.v (.int .i64 0)), .d (.v (.bool false)), .d (.v (.int .u64 0)), .d (.v (.slice none 0 0)), .d (.v (.int .u64 0)), .d (.v (.slice none 0 0)), .d (.v (.int .u64 0)), .d (.v (.slice none 0 0)), .d (.v (.int .u64 0)), .d (.v (.slice none 0 0)), .d (.v (.slice none 0 0)), .d (.v (.int .i64 0)), .d (.v (.int .i64 0)), .d (.v (.int .i64 0)), .d (.v (.int .i64 0)), .d (.v (.int .i64 0)), .d (.v (.int .u64 0)), .d (.v (.int .u64 0)), .d (.v (.int .u64 0)), .d (.v (.int .u64 0)), .d (.v (.int .u64 0)), .d (.v (.int .i64 0)), .d (.v (.slice none 0 0)), .d (.v (.int .u64 0)), .d (.v (.int .i64 0)), .d (.v (.bool false))] [(0, 1, .c (.d (.v (.int .i64 20)))), (18, 1, .c (.d (.v (.int .i64 6))))], none, 0⟩,
   ⟨some 3, .newc 40 [.d (.v (.int .i64 0)), .d (.v (.int .i64 0)), .d (.v (.int .u64 0)), .d (.v (.int .u64 0)), .d (.v (.int .i64 0)), .d (.v (.bool false)), .d (.v (.int .i64 0)), .d (.v (.int .i64 0)), .d (.v (.bool false)), .d (.v (.int .u64 0)), .d (.v (.slice none 0 0)), .d (.v (.int .u64 0)), .d (.v (.slice none 0 0)), .d (.v (.int .u64 0)), .d (.v (.slice none 0 0)), .d (.v (.int .u64 0)), .d (.v (.slice none 0 0)), .d (.v (.slice none 0 0)), .d (.v (.int .i64 0)), .d (.v (.int .i64 0)), .d (.v (.int .i64 0)), .d (.v (.int .i64 0)), .d (.v (.int .i64 0)), .d (.v (.int .u64 0)), .d (.v (.int .u64 0)), .d (.v (.int .u64 0)), .d (.v (.int .u64 0)), .d (.v (.int .u64 0)), .d (.v (.int .i64 0)), .d (.v (.slice none 0 0)), .d (.v (.int .u64 0)), .d (.v (.int .i64 0)), .d (.v (.bool false))], none, 0⟩,
   ⟨none, .st 33 (.t 3) (.t 19), none, 0⟩,
   ⟨some 4, .mv (.c (.d (.v (.int .i64 0)))), none, 0⟩]
def K1028_6 : CC := .seq (.reg false [⟨some 13, .mv (.t 2), none, 0⟩,
   ⟨some 14, .eq .int true (.t 13) (.c (.d (.v (.int .i64 0)))), none, 0⟩,
   ⟨some 15, .mv (.t 14), none, 0⟩,
   ⟨some 16, .mv (.t 1), some (15, false), 0⟩,
   ⟨some 17, .eq .ptr false (.t 16) (.c (.d (.v (.pointer none)))), some (15, false), 0⟩,
   ⟨some 18, .pick (.t 15) (.c (.d (.v (.bool true)))) (.t 17), none, 0⟩])
 (.cond 18 (.seq (.reg false [⟨some 0, .mv (.c (.d (.v (.bool false)))), none, 0⟩])
   (.ret))
   (.skip))
def K1028_7 : CC := .reg false [⟨some 9, .bld [.d (.v (.int .i64 0)), .d (.v (.int .i64 0)), .d (.v (.int .i64 0)), .d (.v (.int .i64 0)), .d (.v (.int .i64 0)), .d (.v (.int .i64 0)), .d (.v (.int .i64 0)), .d (.v (.int .u64 0))] [(0, 1, .c (.d (.v (.int .i64 1)))), (1, 1, .c (.d (.v (.int .i64 1)))), (2, 1, .c (.d (.v (.int .i64 8)))), (3, 1, .c (.d (.v (.int .i64 1)))), (4, 1, .c (.d (.v (.int .i64 2)))), (6, 1, .c (.d (.v (.int .i64 1)))), (7, 1, .c (.d (.v (.int .u64 1))))], none, 0⟩,
   ⟨some 10, .call (.c (.fn (.func 12) [] [])) [.t 9], none, 0⟩,
   ⟨some 8, .mv (.t 10), none, 0⟩,
   ⟨some 11, .ext 0 (.t 8), none, 0⟩,
   ⟨some 12, .ext 1 (.t 8), none, 0⟩,
   ⟨some 1, .mv (.t 11), none, 0⟩,
   ⟨some 2, .mv (.t 12), none, 0⟩]
def K1028_8 : CC := .reg false [⟨some 0, .mv (.c (.d (.v (.bool false)))), none, 0⟩]
/-- coatcheck/coatchecklaw11.awake -/
def C1028 : CF := ⟨0, [(0, none)],
 .seq K1028_8 (.seq K1028_7 (.seq K1028_6 (.seq K1028_5 (.seq (.seq K1028_4 (.block 0 (.loop L1028_3))) (.seq K1028_2 K1028_1)))))⟩
theorem c1028 : coF Try.prog Try.f26 = some C1028 := by kernel_rfl
def A1028 : Ann := { keep := [0, 1, 2, 3, 4, 5, 6, 7, 18, 25], live := [(0, [1, 3, 4, 5])] }
def E1028 {Ω : Type} : Env Ω := econs 17 S33c (econs 12 S34 (econs 28 S1029m (econs 33 S1031 (econs 68 S1066c (enil)))))
theorem e1028 : GoodE Try.prog E1028 := GoodE.cons g33c (GoodE.cons g34 (GoodE.cons g1029m (GoodE.cons g1031 (GoodE.cons g1066c (GoodE.nil)))))
def S1028 {Ω : Type} : Spec Ω := conSpec [] FTrue
theorem g1028 : Good1 Try.prog 26 S1028 := trueGood Try.func26 (by kernel_rfl) c1028 (A := A1028) e1028 mix (by kernel_rfl)
end Go.Sx.Pr
