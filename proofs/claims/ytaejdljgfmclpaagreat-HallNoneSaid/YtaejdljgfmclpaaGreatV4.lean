/- Pieces of the code of functions, compiled for the symbolic interpreter, each checked against the program; no conditions. -/
import Derived.Test.YtaejdljgfmclpaaGreatSxCon3
import Derived.Test.YtaejdljgfmclpaaGreatV31
import Derived.Test.YtaejdljgfmclpaaGreatV31
import Derived.Test.YtaejdljgfmclpaaGreatRows
import Derived.KernelRfl
set_option linter.all false
set_option linter.unusedVariables false
set_option linter.unusedSimpArgs false
set_option linter.unnecessarySimpa false
namespace Go.Sx.Pr
open Go Go.Sx Go.Proofs
set_option maxRecDepth 100000
def K1078_1 : CC := .seq (.reg false [⟨some 76, .ld 33 true (.t 3), none, 0⟩,
   ⟨some 77, .mv (.t 10), none, 0⟩,
   ⟨none, .st 33 (.t 4) (.t 76), none, 0⟩,
   ⟨some 5, .mv (.t 77), none, 0⟩,
   ⟨some 6, .mv (.c (.d (.v (.bool true)))), none, 0⟩])
 (.ret)
def K1078_2 : CC := .seq (.reg false [⟨some 55, .mv (.t 10), none, 0⟩])
 (.block 0 (.seq (.reg false [⟨some 57, .eq .int false (.t 55) (.c (.d (.v (.int .i64 1)))), none, 0⟩,
     ⟨some 56, .mv (.t 57), none, 0⟩])
   (.cond 56 (.reg false [⟨some 59, .fa 1 (.t 8), none, 0⟩,
       ⟨some 60, .ld 1 false (.t 59), none, 0⟩,
       ⟨some 61, .mv (.t 0), none, 0⟩,
       ⟨some 62, .ld 33 true (.t 3), none, 0⟩,
       ⟨some 63, .call (.t 60) [.t 61, .t 62], none, 0⟩,
       ⟨some 58, .mv (.t 63), none, 0⟩,
       ⟨some 64, .ext 0 (.t 58), none, 0⟩,
       ⟨some 65, .ext 1 (.t 58), none, 0⟩,
       ⟨none, .st 33 (.t 3) (.t 64), none, 0⟩,
       ⟨some 10, .mv (.t 65), none, 0⟩])
     (.seq (.reg false [⟨some 67, .eq .int false (.t 55) (.c (.d (.v (.int .i64 2)))), none, 0⟩,
       ⟨some 66, .mv (.t 67), none, 0⟩])
     (.cond 66 (.reg false [⟨some 69, .fa 2 (.t 8), none, 0⟩,
         ⟨some 70, .ld 1 false (.t 69), none, 0⟩,
         ⟨some 71, .mv (.t 0), none, 0⟩,
         ⟨some 72, .ld 33 true (.t 3), none, 0⟩,
         ⟨some 73, .call (.t 70) [.t 71, .t 72], none, 0⟩,
         ⟨some 68, .mv (.t 73), none, 0⟩,
         ⟨some 74, .ext 0 (.t 68), none, 0⟩,
         ⟨some 75, .ext 1 (.t 68), none, 0⟩,
         ⟨none, .st 33 (.t 3) (.t 74), none, 0⟩,
         ⟨some 10, .mv (.t 75), none, 0⟩])
       (.skip))))))
def K1078_3 : CC := .reg false [⟨some 47, .fa 0 (.t 8), none, 0⟩,
   ⟨some 48, .ld 1 false (.t 47), none, 0⟩,
   ⟨some 49, .mv (.t 0), none, 0⟩,
   ⟨some 50, .ld 33 true (.t 3), none, 0⟩,
   ⟨some 51, .call (.t 48) [.t 49, .t 50], none, 0⟩,
   ⟨some 46, .mv (.t 51), none, 0⟩,
   ⟨some 52, .ext 0 (.t 46), none, 0⟩,
   ⟨some 53, .ext 1 (.t 46), none, 0⟩,
   ⟨some 54, .ext 2 (.t 46), none, 0⟩,
   ⟨none, .st 33 (.t 3) (.t 52), none, 0⟩,
   ⟨some 10, .mv (.t 53), none, 0⟩,
   ⟨some 11, .mv (.t 54), none, 0⟩]
def K1078_4 : CC := .seq (.reg false [⟨some 43, .mv (.t 9), none, 0⟩,
   ⟨some 44, .un .not (.t 43), none, 0⟩])
 (.cond 44 (.seq (.reg false [⟨some 45, .ld 33 true (.t 3), none, 0⟩,
     ⟨none, .st 33 (.t 4) (.t 45), none, 0⟩,
     ⟨some 5, .mv (.c (.d (.v (.int .i64 0)))), none, 0⟩,
     ⟨some 6, .mv (.c (.d (.v (.bool false)))), none, 0⟩])
   (.ret))
   (.skip))
def K1078_5 : CC := .reg true [⟨some 37, .call (.c (.fn (.func 135) [] [])) [], none, 0⟩,
   ⟨some 38, .fa 0 (.t 3), none, 0⟩,
   ⟨some 39, .ld 1 false (.t 38), none, 2⟩,
   ⟨some 40, .lku 0 (.agg [.d (.v (.nilFunc)), .d (.v (.nilFunc)), .d (.v (.nilFunc))]) true (.t 37) (.t 39), none, 7⟩,
   ⟨some 36, .mv (.t 40), none, 15⟩,
   ⟨some 41, .ext 0 (.t 36), none, 31⟩,
   ⟨some 42, .ext 1 (.t 36), none, 31⟩,
   ⟨some 8, .newc 167 [.d (.v (.nilFunc)), .d (.v (.nilFunc)), .d (.v (.nilFunc))], none, 0⟩,
   ⟨none, .st 3 (.t 8) (.t 41), none, 191⟩,
   ⟨some 9, .mv (.t 42), none, 511⟩]
def K1078_6 : CC := .seq (.reg false [⟨some 20, .mv (.t 0), none, 0⟩,
   ⟨some 21, .call (.c (.fn (.func 80) [] [])) [.t 20, .c (.d (.v (.int .i64 1)))], none, 0⟩,
   ⟨some 7, .mv (.t 21), none, 0⟩])
 (.seq (.seq (.reg false [⟨some 22, .mv (.t 7), none, 0⟩,
   ⟨some 23, .conv .u32 (.t 22), none, 0⟩,
   ⟨some 24, .eq .int false (.t 23) (.c (.d (.v (.int .u32 0)))), none, 0⟩,
   ⟨some 25, .mv (.t 24), none, 0⟩,
   ⟨some 26, .mv (.t 7), some (25, true), 0⟩,
   ⟨some 27, .bin .shr (.t 26) (.c (.d (.v (.int .u64 32)))), some (25, true), 0⟩,
   ⟨some 28, .fa 26 (.t 3), some (25, true), 0⟩,
   ⟨some 29, .ld 1 false (.t 28), some (25, true), 0⟩,
   ⟨some 30, .eq .int false (.t 27) (.t 29), some (25, true), 0⟩,
   ⟨some 31, .pick (.t 25) (.t 30) (.c (.d (.v (.bool false)))), none, 0⟩])
 (.cond 31 (.seq (.reg false [⟨some 32, .fa 0 (.t 3), none, 0⟩,
     ⟨none, .st 1 (.t 32) (.c (.d (.v (.int .i64 0)))), none, 0⟩])
   (.seq (.reg false [⟨some 33, .ld 33 true (.t 3), none, 0⟩,
     ⟨none, .st 33 (.t 4) (.t 33), none, 0⟩,
     ⟨some 5, .mv (.c (.d (.v (.int .i64 2)))), none, 0⟩,
     ⟨some 6, .mv (.c (.d (.v (.bool true)))), none, 0⟩])
   (.ret)))
   (.skip)))
 (.seq (.reg false [⟨some 34, .ld 33 true (.t 3), none, 0⟩,
   ⟨some 35, .call (.c (.fn (.func 109) [] [])) [.t 34], none, 0⟩,
   ⟨none, .st 33 (.t 4) (.t 35), none, 0⟩,
   ⟨some 5, .mv (.c (.d (.v (.int .i64 0)))), none, 0⟩,
   ⟨some 6, .mv (.c (.d (.v (.bool true)))), none, 0⟩])
 (.ret)))
def K1078_7 : CC := .reg false [⟨some 18, .mv (.t 0), none, 0⟩,
   ⟨some 19, .call (.c (.fn (.func 77) [] [])) [.t 18], none, 0⟩]
def K1078_8 : CC := .reg false [⟨some 15, .fa 0 (.t 3), none, 0⟩,
   ⟨some 16, .ld 1 false (.t 15), none, 0⟩,
   ⟨some 17, .eq .int false (.t 16) (.c (.d (.v (.int .i64 38)))), none, 0⟩]
def K1078_9 : CC := .seq (.reg false [⟨some 12, .mv (.t 0), none, 0⟩,
   ⟨some 13, .eq .ptr false (.t 12) (.c (.d (.v (.pointer none)))), none, 0⟩])
 (.cond 13 (.seq (.reg false [⟨some 14, .ld 33 true (.t 3), none, 0⟩,
     ⟨none, .st 33 (.t 4) (.t 14), none, 0⟩,
     ⟨some 5, .mv (.c (.d (.v (.int .i64 0)))), none, 0⟩,
     ⟨some 6, .mv (.c (.d (.v (.bool false)))), none, 0⟩])
   (.ret))
   (.skip))
def K1078_10 : CC := .reg false [⟨some 3, .box 56 33 (.t 1), none, 0⟩,
   ⟨some 4, .newc 56 [.d (.v (.int .i64 0)), .d (.v (.int .i64 0)), .d (.v (.int .u64 0)), .d (.v (.int .u64 0)), .d (.v (.int .i64 0)), .d (.v (.bool false)), .d (.v (.int .i64 0)), .d (.v (.int .i64 0)), .d (.v (.bool false)), .d (.v (.int .u64 0)), .d (.v (.slice none 0 0)), .d (.v (.int .u64 0)), .d (.v (.slice none 0 0)), .d (.v (.int .u64 0)), .d (.v (.slice none 0 0)), .d (.v (.int .u64 0)), .d (.v (.slice none 0 0)), .d (.v (.slice none 0 0)), .d (.v (.int .i64 0)), .d (.v (.int .i64 0)), .d (.v (.int .i64 0)), .d (.v (.int .i64 0)), .d (.v (.int .i64 0)), .d (.v (.int .u64 0)), .d (.v (.int .u64 0)), .d (.v (.int .u64 0)), .d (.v (.int .u64 0)), .d (.v (.int .u64 0)), .d (.v (.int .i64 0)), .d (.v (.slice none 0 0)), .d (.v (.int .u64 0)), .d (.v (.int .i64 0)), .d (.v (.bool false))], none, 0⟩,
   ⟨some 5, .mv (.c (.d (.v (.int .i64 0)))), none, 0⟩,
   ⟨some 6, .mv (.c (.d (.v (.bool false)))), none, 0⟩]
/-- coatcheck/take.Step -/
def C1078 : CF := ⟨2, [(4, some (33, true)), (5, none), (6, none)],
 .seq K1078_10 (.seq K1078_9 (.seq (.seq K1078_8 (.cond 17 (.seq K1078_7 K1078_6) .skip)) (.seq K1078_5 (.seq K1078_4 (.seq K1078_3 (.seq K1078_2 K1078_1))))))⟩
theorem c1078 : coF Tryz.prog Tryz.f95 = some C1078 := by kernel_rfl
def A1078 : Ann := { keep := [0, 1, 3, 4, 5, 6, 7, 8, 9, 10, 13, 17, 31, 44, 55, 56, 66], live := [], pu := [135] }
def E1078 {Ω : Type} : Env Ω := econs 109 S1077 (econs 77 S29m (econs 80 S21m (econs 90 S61i (econs 133 S45i (econs 135 S1084p (econs 156 S1087 (econs 157 S1088 (econs 158 S1089 (econs 159 S1090 (econs 160 S1091 (econs 161 S1092 (econs 162 S1093 (enil)))))))))))))
theorem e1078 : GoodE Tryz.prog E1078 := GoodE.cons g1077 (GoodE.cons g29m (GoodE.cons g21m (GoodE.cons g61i (GoodE.cons g45i (GoodE.cons g1084p (GoodE.cons g1087 (GoodE.cons g1088 (GoodE.cons g1089 (GoodE.cons g1090 (GoodE.cons g1091 (GoodE.cons g1092 (GoodE.cons g1093 (GoodE.nil)))))))))))))
def S1078 {Ω : Type} : Spec Ω := inl E1078 A1078 C1078 false
theorem g1078 : Good1 Tryz.prog 95 S1078 := Good1.inl e1078 mix Tryz.func95 (by kernel_rfl) c1078 A1078 false
def K1039_1 : CC := .seq (.reg false [⟨some 69, .fa 19 (.t 3), none, 0⟩,
   ⟨none, .st 1 (.t 69) (.c (.d (.v (.int .i64 0)))), none, 0⟩])
 (.seq (.reg false [⟨some 71, .ld 33 true (.t 3), none, 0⟩,
   ⟨some 72, .call (.c (.fn (.func 110) [] [])) [.t 71], none, 0⟩,
   ⟨some 70, .mv (.t 72), none, 0⟩,
   ⟨some 73, .ext 0 (.t 70), none, 0⟩,
   ⟨some 74, .ext 1 (.t 70), none, 0⟩,
   ⟨none, .st 33 (.t 3) (.t 73), none, 0⟩,
   ⟨some 9, .mv (.t 74), none, 0⟩])
 (.seq (.reg false [⟨some 75, .ld 33 true (.t 3), none, 0⟩,
   ⟨some 76, .mv (.t 9), none, 0⟩,
   ⟨none, .st 33 (.t 4) (.t 75), none, 0⟩,
   ⟨some 5, .mv (.t 76), none, 0⟩,
   ⟨some 6, .mv (.c (.d (.v (.bool true)))), none, 0⟩])
 (.ret)))
def K1039_2 : CC := .seq (.reg false [⟨some 41, .ld 33 true (.t 3), none, 0⟩,
   ⟨some 42, .mv (.t 9), none, 0⟩,
   ⟨none, .st 33 (.t 4) (.t 41), none, 0⟩,
   ⟨some 5, .mv (.t 42), none, 0⟩,
   ⟨some 6, .mv (.c (.d (.v (.bool true)))), none, 0⟩])
 (.ret)
def K1039_3 : CC := .seq (.reg false [⟨some 46, .fa 0 (.t 3), none, 0⟩,
   ⟨none, .st 1 (.t 46) (.c (.d (.v (.int .i64 30)))), none, 0⟩])
 (.seq (.reg false [⟨some 47, .ld 33 true (.t 3), none, 0⟩,
   ⟨none, .st 33 (.t 4) (.t 47), none, 0⟩,
   ⟨some 5, .mv (.c (.d (.v (.int .i64 0)))), none, 0⟩,
   ⟨some 6, .mv (.c (.d (.v (.bool true)))), none, 0⟩])
 (.ret))
def K1039_4 : CC := .seq (.seq (.reg false [⟨some 64, .mv (.t 12), none, 0⟩,
   ⟨some 65, .un .not (.t 64), none, 0⟩])
 (.cond 65 (.seq (.reg false [⟨some 66, .fa 0 (.t 3), none, 0⟩,
     ⟨none, .st 1 (.t 66) (.c (.d (.v (.int .i64 13)))), none, 0⟩])
   (.seq (.reg false [⟨some 67, .ld 33 true (.t 3), none, 0⟩,
     ⟨none, .st 33 (.t 4) (.t 67), none, 0⟩,
     ⟨some 5, .mv (.c (.d (.v (.int .i64 0)))), none, 0⟩,
     ⟨some 6, .mv (.c (.d (.v (.bool true)))), none, 0⟩])
   (.ret)))
   (.skip)))
 (.reg false [⟨some 68, .ld 33 true (.t 11), none, 0⟩,
   ⟨none, .st 33 (.t 3) (.t 68), none, 0⟩])
def K1039_5 : CC := .reg true [⟨some 52, .mv (.t 0), none, 0⟩,
   ⟨some 53, .nilc (.t 52), none, 1⟩,
   ⟨some 54, .fa 0 (.t 53), none, 3⟩,
   ⟨some 55, .fa 0 (.t 54), none, 7⟩,
   ⟨some 56, .ld 8 true (.t 55), none, 15⟩,
   ⟨some 57, .ld 33 true (.t 3), none, 0⟩,
   ⟨some 58, .fa 19 (.t 3), none, 0⟩,
   ⟨some 59, .ld 1 false (.t 58), none, 64⟩,
   ⟨some 60, .bin .sub (.t 59) (.c (.d (.v (.int .i64 1)))), none, 192⟩,
   ⟨some 61, .call (.c (.fn (.func 134) [] [])) [.t 56, .t 57, .t 60], none, 511⟩,
   ⟨some 51, .mv (.t 61), none, 1023⟩,
   ⟨some 62, .ext 0 (.t 51), none, 2047⟩,
   ⟨some 63, .ext 1 (.t 51), none, 2047⟩,
   ⟨some 11, .newc 56 [.d (.v (.int .i64 0)), .d (.v (.int .i64 0)), .d (.v (.int .u64 0)), .d (.v (.int .u64 0)), .d (.v (.int .i64 0)), .d (.v (.bool false)), .d (.v (.int .i64 0)), .d (.v (.int .i64 0)), .d (.v (.bool false)), .d (.v (.int .u64 0)), .d (.v (.slice none 0 0)), .d (.v (.int .u64 0)), .d (.v (.slice none 0 0)), .d (.v (.int .u64 0)), .d (.v (.slice none 0 0)), .d (.v (.int .u64 0)), .d (.v (.slice none 0 0)), .d (.v (.slice none 0 0)), .d (.v (.int .i64 0)), .d (.v (.int .i64 0)), .d (.v (.int .i64 0)), .d (.v (.int .i64 0)), .d (.v (.int .i64 0)), .d (.v (.int .u64 0)), .d (.v (.int .u64 0)), .d (.v (.int .u64 0)), .d (.v (.int .u64 0)), .d (.v (.int .u64 0)), .d (.v (.int .i64 0)), .d (.v (.slice none 0 0)), .d (.v (.int .u64 0)), .d (.v (.int .i64 0)), .d (.v (.bool false))], none, 0⟩,
   ⟨none, .st 33 (.t 11) (.t 62), none, 12287⟩,
   ⟨some 12, .mv (.t 63), none, 32767⟩]
def K1039_6 : CC := .reg false [⟨some 49, .mv (.t 8), none, 0⟩,
   ⟨some 50, .eq .int false (.t 49) (.c (.d (.v (.int .i64 39)))), none, 0⟩,
   ⟨some 48, .mv (.t 50), none, 0⟩]
def K1039_7 : CC := .reg false [⟨some 44, .mv (.t 9), none, 0⟩,
   ⟨some 45, .eq .int false (.t 44) (.c (.d (.v (.int .i64 2)))), none, 0⟩,
   ⟨some 43, .mv (.t 45), none, 0⟩]
def K1039_8 : CC := .reg false [⟨some 39, .mv (.t 9), none, 0⟩,
   ⟨some 40, .eq .int false (.t 39) (.c (.d (.v (.int .i64 0)))), none, 0⟩,
   ⟨some 38, .mv (.t 40), none, 0⟩]
def K1039_9 : CC := .reg false [⟨some 31, .mv (.t 7), none, 0⟩,
   ⟨some 32, .mv (.t 0), none, 0⟩,
   ⟨some 33, .ld 33 true (.t 3), none, 0⟩,
   ⟨some 34, .call (.t 31) [.t 32, .t 33], none, 0⟩,
   ⟨some 30, .mv (.t 34), none, 0⟩,
   ⟨some 35, .ext 0 (.t 30), none, 0⟩,
   ⟨some 36, .ext 1 (.t 30), none, 0⟩,
   ⟨some 37, .ext 2 (.t 30), none, 0⟩,
   ⟨none, .st 33 (.t 3) (.t 35), none, 0⟩,
   ⟨some 9, .mv (.t 36), none, 0⟩,
   ⟨some 10, .mv (.t 37), none, 0⟩]
def K1039_10 : CC := .seq (.reg false [⟨some 18, .mv (.t 8), none, 0⟩])
 (.block 0 (.seq (.block 4 (.seq (.block 3 (.block 2 (.seq (.block 1 (.seq (.seq (.seq (.seq (.reg false [⟨some 20, .eq .int false (.t 18) (.c (.d (.v (.int .i64 13)))), none, 0⟩,
             ⟨some 19, .mv (.t 20), none, 0⟩])
           (.cond 19 (.skip)
             (.seq (.reg false [⟨some 21, .eq .int false (.t 18) (.c (.d (.v (.int .i64 14)))), none, 0⟩,
               ⟨some 19, .mv (.t 21), none, 0⟩])
             (.cond 19 (.skip)
               (.reg false [⟨some 22, .eq .int false (.t 18) (.c (.d (.v (.int .i64 15)))), none, 0⟩,
                 ⟨some 19, .mv (.t 22), none, 0⟩])))))
           (.cond 19 (.exit 1)
             (.skip)))
           (.seq (.seq (.seq (.reg false [⟨some 24, .eq .int false (.t 18) (.c (.d (.v (.int .i64 30)))), none, 0⟩,
             ⟨some 23, .mv (.t 24), none, 0⟩])
           (.cond 23 (.skip)
             (.seq (.reg false [⟨some 25, .eq .int false (.t 18) (.c (.d (.v (.int .i64 31)))), none, 0⟩,
               ⟨some 23, .mv (.t 25), none, 0⟩])
             (.cond 23 (.skip)
               (.reg false [⟨some 26, .eq .int false (.t 18) (.c (.d (.v (.int .i64 32)))), none, 0⟩,
                 ⟨some 23, .mv (.t 26), none, 0⟩])))))
           (.cond 23 (.exit 2)
             (.skip)))
           (.seq (.reg false [⟨some 28, .eq .int false (.t 18) (.c (.d (.v (.int .i64 39)))), none, 0⟩,
             ⟨some 27, .mv (.t 28), none, 0⟩])
           (.cond 27 (.exit 3)
             (.skip)))))
           (.exit 4)))
         (.reg false [⟨some 7, .mv (.c (.fn (.func 133) [] [])), none, 0⟩]))))
     (.exit 0)))
   (.seq (.seq (.reg false [⟨some 29, .ld 33 true (.t 3), none, 0⟩,
     ⟨none, .st 33 (.t 4) (.t 29), none, 0⟩,
     ⟨some 5, .mv (.c (.d (.v (.int .i64 0)))), none, 0⟩,
     ⟨some 6, .mv (.c (.d (.v (.bool false)))), none, 0⟩])
   (.ret))
   (.exit 0))))
def K1039_11 : CC := .reg false [⟨some 16, .fa 0 (.t 3), none, 0⟩,
   ⟨some 17, .ld 1 false (.t 16), none, 0⟩,
   ⟨some 8, .mv (.t 17), none, 0⟩]
def K1039_12 : CC := .reg false [⟨some 7, .mv (.c (.fn (.func 90) [] [])), none, 0⟩]
def K1039_13 : CC := .seq (.reg false [⟨some 13, .mv (.t 0), none, 0⟩,
   ⟨some 14, .eq .ptr false (.t 13) (.c (.d (.v (.pointer none)))), none, 0⟩])
 (.cond 14 (.seq (.reg false [⟨some 15, .ld 33 true (.t 3), none, 0⟩,
     ⟨none, .st 33 (.t 4) (.t 15), none, 0⟩,
     ⟨some 5, .mv (.c (.d (.v (.int .i64 0)))), none, 0⟩,
     ⟨some 6, .mv (.c (.d (.v (.bool false)))), none, 0⟩])
   (.ret))
   (.skip))
def K1039_14 : CC := .reg false [⟨some 3, .box 56 33 (.t 1), none, 0⟩,
   ⟨some 4, .newc 56 [.d (.v (.int .i64 0)), .d (.v (.int .i64 0)), .d (.v (.int .u64 0)), .d (.v (.int .u64 0)), .d (.v (.int .i64 0)), .d (.v (.bool false)), .d (.v (.int .i64 0)), .d (.v (.int .i64 0)), .d (.v (.bool false)), .d (.v (.int .u64 0)), .d (.v (.slice none 0 0)), .d (.v (.int .u64 0)), .d (.v (.slice none 0 0)), .d (.v (.int .u64 0)), .d (.v (.slice none 0 0)), .d (.v (.int .u64 0)), .d (.v (.slice none 0 0)), .d (.v (.slice none 0 0)), .d (.v (.int .i64 0)), .d (.v (.int .i64 0)), .d (.v (.int .i64 0)), .d (.v (.int .i64 0)), .d (.v (.int .i64 0)), .d (.v (.int .u64 0)), .d (.v (.int .u64 0)), .d (.v (.int .u64 0)), .d (.v (.int .u64 0)), .d (.v (.int .u64 0)), .d (.v (.int .i64 0)), .d (.v (.slice none 0 0)), .d (.v (.int .u64 0)), .d (.v (.int .i64 0)), .d (.v (.bool false))], none, 0⟩,
   ⟨some 5, .mv (.c (.d (.v (.int .i64 0)))), none, 0⟩,
   ⟨some 6, .mv (.c (.d (.v (.bool false)))), none, 0⟩]
/-- coatcheck/give.Step -/
def C1039 : CF := ⟨2, [(4, some (33, true)), (5, none), (6, none)],
 .seq K1039_14 (.seq K1039_13 (.seq K1039_12 (.seq K1039_11 (.seq K1039_10 (.seq K1039_9 (.seq (.block 5 (.seq K1039_8 (.cond 38 K1039_2 (.seq K1039_7 (.cond 43 K1039_3 (.seq K1039_6 (.cond 48 (.seq K1039_5 K1039_4) .skip))))))) K1039_1))))))⟩
theorem c1039 : coF Tryz.prog Tryz.f94 = some C1039 := by kernel_rfl
def A1039 : Ann := { keep := [0, 1, 3, 4, 5, 6, 7, 8, 9, 11, 12, 14, 18, 19, 23, 27, 38, 43, 48, 65], live := [], kc := [19, 23] }
def E1039 {Ω : Type} : Env Ω := econs 90 S61i (econs 110 S1038 (econs 133 S45i (econs 134 S1075 (enil))))
theorem e1039 : GoodE Tryz.prog E1039 := GoodE.cons g61i (GoodE.cons g1038 (GoodE.cons g45i (GoodE.cons g1075 (GoodE.nil))))
def S1039 {Ω : Type} : Spec Ω := inl E1039 A1039 C1039 false
theorem g1039 : Good1 Tryz.prog 94 S1039 := Good1.inl e1039 mix Tryz.func94 (by kernel_rfl) c1039 A1039 false
def K1169_1 : CC := .seq (.seq (.reg false [⟨some 12, .mv (.t 5), none, 0⟩,
   ⟨some 13, .fa 11 (.t 1), none, 0⟩,
   ⟨some 14, .ixa 3 2 (.t 13) (.t 12), none, 0⟩,
   ⟨some 15, .fa 0 (.t 14), none, 0⟩,
   ⟨some 16, .ld 1 false (.t 15), none, 0⟩,
   ⟨some 17, .mv (.t 4), none, 0⟩,
   ⟨some 18, .eq .int true (.t 16) (.t 17), none, 0⟩])
 (.cond 18 (.seq (.reg true [⟨some 19, .ld 33 true (.t 1), none, 0⟩,
     ⟨some 20, .mv (.t 5), none, 0⟩,
     ⟨some 21, .fa 11 (.t 1), none, 0⟩,
     ⟨some 22, .ixa 3 2 (.t 21) (.t 20), none, 6⟩,
     ⟨some 23, .fa 1 (.t 22), none, 14⟩,
     ⟨some 24, .ld 1 false (.t 23), none, 30⟩,
     ⟨some 25, .call (.c (.fn (.func 111) [] [])) [.t 19, .t 24], none, 63⟩,
     ⟨none, .st 33 (.t 1) (.t 25), none, 127⟩])
   (.reg false [⟨some 26, .mv (.t 5), none, 0⟩,
     ⟨some 27, .mv (.t 4), none, 0⟩,
     ⟨some 28, .bld [.d (.v (.int .u64 0)), .d (.v (.slice none 0 0))] [(0, 1, .t 27)], none, 0⟩,
     ⟨some 29, .fa 11 (.t 1), none, 0⟩,
     ⟨some 30, .ixa 3 2 (.t 29) (.t 26), none, 0⟩,
     ⟨none, .st 2 (.t 30) (.t 28), none, 0⟩]))
   (.skip)))
 (.seq (.reg false [⟨some 31, .ld 33 true (.t 1), none, 0⟩,
   ⟨some 32, .mv (.t 5), none, 0⟩,
   ⟨none, .st 33 (.t 2) (.t 31), none, 0⟩,
   ⟨some 3, .mv (.t 32), none, 0⟩])
 (.ret))
def K1169_2 : CC := .reg false [⟨some 9, .mv (.t 4), none, 0⟩,
   ⟨some 10, .bin .rem (.t 9) (.c (.d (.v (.int .u64 3)))), none, 0⟩,
   ⟨some 11, .conv .i64 (.t 10), none, 0⟩,
   ⟨some 5, .mv (.t 11), none, 0⟩]
def K1169_3 : CC := .reg false [⟨some 6, .fa 9 (.t 1), none, 0⟩,
   ⟨some 7, .ld 1 false (.t 6), none, 0⟩,
   ⟨some 8, .bin .add (.t 7) (.c (.d (.v (.int .u64 1)))), none, 0⟩,
   ⟨some 4, .mv (.t 8), none, 0⟩]
def K1169_4 : CC := .reg false [⟨some 1, .box 56 33 (.t 0), none, 0⟩,
   ⟨some 2, .newc 56 [.d (.v (.int .i64 0)), .d (.v (.int .i64 0)), .d (.v (.int .u64 0)), .d (.v (.int .u64 0)), .d (.v (.int .i64 0)), .d (.v (.bool false)), .d (.v (.int .i64 0)), .d (.v (.int .i64 0)), .d (.v (.bool false)), .d (.v (.int .u64 0)), .d (.v (.slice none 0 0)), .d (.v (.int .u64 0)), .d (.v (.slice none 0 0)), .d (.v (.int .u64 0)), .d (.v (.slice none 0 0)), .d (.v (.int .u64 0)), .d (.v (.slice none 0 0)), .d (.v (.slice none 0 0)), .d (.v (.int .i64 0)), .d (.v (.int .i64 0)), .d (.v (.int .i64 0)), .d (.v (.int .i64 0)), .d (.v (.int .i64 0)), .d (.v (.int .u64 0)), .d (.v (.int .u64 0)), .d (.v (.int .u64 0)), .d (.v (.int .u64 0)), .d (.v (.int .u64 0)), .d (.v (.int .i64 0)), .d (.v (.slice none 0 0)), .d (.v (.int .u64 0)), .d (.v (.int .i64 0)), .d (.v (.bool false))], none, 0⟩,
   ⟨some 3, .mv (.c (.d (.v (.int .i64 0)))), none, 0⟩]
/-- coatcheck/bag.now -/
def C1169 : CF := ⟨1, [(2, some (33, true)), (3, none)],
 .seq K1169_4 (.seq K1169_3 (.seq K1169_2 K1169_1))⟩
theorem c1169 : coF Tryz.prog Tryz.f163 = some C1169 := by kernel_rfl
def A1169 : Ann := { keep := [0, 1, 2, 3, 4, 5, 18], live := [] }
def E1169 {Ω : Type} : Env Ω := econs 111 S1105 (enil)
theorem e1169 : GoodE Tryz.prog E1169 := GoodE.cons g1105 (GoodE.nil)
def S1169 {Ω : Type} : Spec Ω := inl E1169 A1169 C1169 false
theorem g1169 : Good1 Tryz.prog 163 S1169 := Good1.inl e1169 mix Tryz.func163 (by kernel_rfl) c1169 A1169 false
/-- coatcheck/bag.Room -/
def C1167 : CF := ⟨2, [(4, some (33, true)), (5, none)],
 .seq (.reg false [⟨some 2, .box 24 8 (.t 0), none, 0⟩,
   ⟨some 3, .box 56 33 (.t 1), none, 0⟩,
   ⟨some 4, .newc 56 [.d (.v (.int .i64 0)), .d (.v (.int .i64 0)), .d (.v (.int .u64 0)), .d (.v (.int .u64 0)), .d (.v (.int .i64 0)), .d (.v (.bool false)), .d (.v (.int .i64 0)), .d (.v (.int .i64 0)), .d (.v (.bool false)), .d (.v (.int .u64 0)), .d (.v (.slice none 0 0)), .d (.v (.int .u64 0)), .d (.v (.slice none 0 0)), .d (.v (.int .u64 0)), .d (.v (.slice none 0 0)), .d (.v (.int .u64 0)), .d (.v (.slice none 0 0)), .d (.v (.slice none 0 0)), .d (.v (.int .i64 0)), .d (.v (.int .i64 0)), .d (.v (.int .i64 0)), .d (.v (.int .i64 0)), .d (.v (.int .i64 0)), .d (.v (.int .u64 0)), .d (.v (.int .u64 0)), .d (.v (.int .u64 0)), .d (.v (.int .u64 0)), .d (.v (.int .u64 0)), .d (.v (.int .i64 0)), .d (.v (.slice none 0 0)), .d (.v (.int .u64 0)), .d (.v (.int .i64 0)), .d (.v (.bool false))], none, 0⟩,
   ⟨some 5, .mv (.c (.d (.v (.bool false)))), none, 0⟩])
 (.seq (.reg false [⟨some 8, .ld 33 true (.t 3), none, 0⟩,
   ⟨some 9, .call (.c (.fn (.func 163) [] [])) [.t 8], none, 0⟩,
   ⟨some 7, .mv (.t 9), none, 0⟩,
   ⟨some 10, .ext 0 (.t 7), none, 0⟩,
   ⟨some 11, .ext 1 (.t 7), none, 0⟩,
   ⟨none, .st 33 (.t 3) (.t 10), none, 0⟩,
   ⟨some 6, .mv (.t 11), none, 0⟩])
 (.seq (.reg true [⟨some 12, .ld 33 true (.t 3), none, 0⟩,
   ⟨some 13, .mv (.t 6), none, 0⟩,
   ⟨some 14, .fa 11 (.t 3), none, 0⟩,
   ⟨some 15, .ixa 3 2 (.t 14) (.t 13), none, 6⟩,
   ⟨some 16, .fa 1 (.t 15), none, 14⟩,
   ⟨some 17, .ld 1 false (.t 16), none, 30⟩,
   ⟨some 18, .len (.t 17), none, 62⟩,
   ⟨some 19, .fa 6 (.t 2), none, 0⟩,
   ⟨some 20, .ld 1 false (.t 19), none, 128⟩,
   ⟨some 21, .bin .lss (.t 18) (.t 20), none, 510⟩,
   ⟨none, .st 33 (.t 4) (.t 12), none, 1⟩,
   ⟨some 5, .mv (.t 21), none, 2047⟩])
 (.ret)))⟩
theorem c1167 : coF Tryz.prog Tryz.f145 = some C1167 := by kernel_rfl
def A1167 : Ann := { keep := [0, 1, 2, 3, 4, 5, 6], live := [] }
def E1167 {Ω : Type} : Env Ω := econs 163 S1169 (enil)
theorem e1167 : GoodE Tryz.prog E1167 := GoodE.cons g1169 (GoodE.nil)
def S1167 {Ω : Type} : Spec Ω := inl E1167 A1167 C1167 false
theorem g1167 : Good1 Tryz.prog 145 S1167 := Good1.inl e1167 mix Tryz.func145 (by kernel_rfl) c1167 A1167 false
def K1168_1 : CC := .seq (.reg false [⟨some 20, .ld 33 true (.t 4), none, 0⟩,
   ⟨some 21, .call (.c (.fn (.func 163) [] [])) [.t 20], none, 0⟩,
   ⟨some 19, .mv (.t 21), none, 0⟩,
   ⟨some 22, .ext 0 (.t 19), none, 0⟩,
   ⟨some 23, .ext 1 (.t 19), none, 0⟩,
   ⟨none, .st 33 (.t 4) (.t 22), none, 0⟩,
   ⟨some 9, .mv (.t 23), none, 0⟩])
 (.seq (.reg false [⟨some 24, .mv (.t 9), none, 0⟩,
   ⟨some 25, .mv (.t 9), none, 0⟩,
   ⟨some 26, .fa 11 (.t 4), none, 0⟩,
   ⟨some 27, .ixa 3 2 (.t 26) (.t 25), none, 0⟩,
   ⟨some 28, .fa 1 (.t 27), none, 0⟩,
   ⟨some 29, .ld 1 false (.t 28), none, 0⟩,
   ⟨some 30, .call (.c (.fn (.func 63) [] [])) [.t 29], none, 0⟩,
   ⟨some 31, .mv (.t 2), none, 0⟩,
   ⟨some 32, .bsl 3 1 1 [.d (.v (.int .i64 0))] [(0, 1, .t 31)], none, 0⟩,
   ⟨some 33, .app 3 1 8 (some .i64) (.t 30) (.t 32), none, 0⟩,
   ⟨some 34, .fa 11 (.t 4), none, 0⟩,
   ⟨some 35, .ixa 3 2 (.t 34) (.t 24), none, 0⟩,
   ⟨some 36, .fa 1 (.t 35), none, 0⟩,
   ⟨none, .st 1 (.t 36) (.t 33), none, 0⟩])
 (.seq (.reg false [⟨some 37, .ld 33 true (.t 4), none, 0⟩,
   ⟨none, .st 33 (.t 6) (.t 37), none, 0⟩,
   ⟨some 7, .mv (.c (.d (.v (.bool true)))), none, 0⟩])
 (.ret)))
def K1168_2 : CC := .seq (.reg false [⟨some 16, .mv (.t 8), none, 0⟩,
   ⟨some 17, .un .not (.t 16), none, 0⟩])
 (.cond 17 (.seq (.reg false [⟨some 18, .ld 33 true (.t 4), none, 0⟩,
     ⟨none, .st 33 (.t 6) (.t 18), none, 0⟩,
     ⟨some 7, .mv (.c (.d (.v (.bool false)))), none, 0⟩])
   (.ret))
   (.skip))
def K1168_3 : CC := .reg false [⟨some 11, .ld 8 true (.t 3), none, 0⟩,
   ⟨some 12, .ld 33 true (.t 4), none, 0⟩,
   ⟨some 13, .call (.c (.fn (.func 145) [] [])) [.t 11, .t 12], none, 0⟩,
   ⟨some 10, .mv (.t 13), none, 0⟩,
   ⟨some 14, .ext 0 (.t 10), none, 0⟩,
   ⟨some 15, .ext 1 (.t 10), none, 0⟩,
   ⟨none, .st 33 (.t 4) (.t 14), none, 0⟩,
   ⟨some 8, .mv (.t 15), none, 0⟩]
def K1168_4 : CC := .reg false [⟨some 3, .box 24 8 (.t 0), none, 0⟩,
   ⟨some 4, .box 56 33 (.t 1), none, 0⟩,
   ⟨some 6, .newc 56 [.d (.v (.int .i64 0)), .d (.v (.int .i64 0)), .d (.v (.int .u64 0)), .d (.v (.int .u64 0)), .d (.v (.int .i64 0)), .d (.v (.bool false)), .d (.v (.int .i64 0)), .d (.v (.int .i64 0)), .d (.v (.bool false)), .d (.v (.int .u64 0)), .d (.v (.slice none 0 0)), .d (.v (.int .u64 0)), .d (.v (.slice none 0 0)), .d (.v (.int .u64 0)), .d (.v (.slice none 0 0)), .d (.v (.int .u64 0)), .d (.v (.slice none 0 0)), .d (.v (.slice none 0 0)), .d (.v (.int .i64 0)), .d (.v (.int .i64 0)), .d (.v (.int .i64 0)), .d (.v (.int .i64 0)), .d (.v (.int .i64 0)), .d (.v (.int .u64 0)), .d (.v (.int .u64 0)), .d (.v (.int .u64 0)), .d (.v (.int .u64 0)), .d (.v (.int .u64 0)), .d (.v (.int .i64 0)), .d (.v (.slice none 0 0)), .d (.v (.int .u64 0)), .d (.v (.int .i64 0)), .d (.v (.bool false))], none, 0⟩,
   ⟨some 7, .mv (.c (.d (.v (.bool false)))), none, 0⟩]
/-- coatcheck/bag.Put -/
def C1168 : CF := ⟨3, [(6, some (33, true)), (7, none)],
 .seq K1168_4 (.seq K1168_3 (.seq K1168_2 K1168_1))⟩
theorem c1168 : coF Tryz.prog Tryz.f146 = some C1168 := by kernel_rfl
def A1168 : Ann := { keep := [0, 1, 2, 3, 4, 6, 7, 8, 9, 17], live := [] }
def E1168 {Ω : Type} : Env Ω := econs 145 S1167 (econs 63 S1076 (econs 163 S1169 (enil)))
theorem e1168 : GoodE Tryz.prog E1168 := GoodE.cons g1167 (GoodE.cons g1076 (GoodE.cons g1169 (GoodE.nil)))
def S1168 {Ω : Type} : Spec Ω := inl E1168 A1168 C1168 false
theorem g1168 : Good1 Tryz.prog 146 S1168 := Good1.inl e1168 mix Tryz.func146 (by kernel_rfl) c1168 A1168 false
def K1140_1 : CC := .seq (.reg false [⟨some 31, .ld 33 true (.t 2), none, 0⟩,
   ⟨none, .st 33 (.t 4) (.t 31), none, 0⟩])
 (.ret)
def K1140_2 : CC := .reg false [⟨some 30, .bin .add (.t 9) (.c (.d (.v (.int .i64 1)))), none, 0⟩,
   ⟨some 9, .mv (.t 30), none, 0⟩]
def K1140_3 : CC := .block 1 (.seq (.reg false [⟨some 11, .mv (.t 9), none, 0⟩,
     ⟨some 12, .ixg 3 2 true (.t 8) (.t 9), none, 0⟩,
     ⟨some 6, .newc 53 [.d (.v (.int .u64 0)), .d (.v (.slice none 0 0))], none, 0⟩,
     ⟨some 5, .mv (.t 11), none, 0⟩,
     ⟨none, .st 2 (.t 6) (.t 12), none, 0⟩])
   (.seq (.reg false [⟨some 13, .mv (.t 1), none, 0⟩,
     ⟨some 14, .bin .geq (.t 13) (.c (.d (.v (.int .u64 2)))), none, 0⟩,
     ⟨some 15, .mv (.t 14), none, 0⟩,
     ⟨some 16, .fa 0 (.t 6), some (15, true), 0⟩,
     ⟨some 17, .ld 1 false (.t 16), some (15, true), 0⟩,
     ⟨some 18, .mv (.t 1), some (15, true), 0⟩,
     ⟨some 19, .bin .sub (.t 18) (.c (.d (.v (.int .u64 2)))), some (15, true), 0⟩,
     ⟨some 20, .bin .leq (.t 17) (.t 19), some (15, true), 0⟩,
     ⟨some 21, .pick (.t 15) (.t 20) (.c (.d (.v (.bool false)))), none, 0⟩])
   (.cond 21 (.seq (.reg false [⟨some 22, .ld 33 true (.t 2), none, 0⟩,
       ⟨some 23, .fa 1 (.t 6), none, 0⟩,
       ⟨some 24, .ld 1 false (.t 23), none, 0⟩,
       ⟨some 25, .call (.c (.fn (.func 111) [] [])) [.t 22, .t 24], none, 0⟩,
       ⟨none, .st 33 (.t 2) (.t 25), none, 0⟩])
     (.reg false [⟨some 26, .mv (.t 5), none, 0⟩,
       ⟨some 27, .bld [.d (.v (.int .u64 0)), .d (.v (.slice none 0 0))] [], none, 0⟩,
       ⟨some 28, .fa 11 (.t 2), none, 0⟩,
       ⟨some 29, .ixa 3 2 (.t 28) (.t 26), none, 0⟩,
       ⟨none, .st 2 (.t 29) (.t 27), none, 0⟩]))
     (.skip))))
def K1140_4 : CC := .cond 10 (.skip)
   (.exit 0)
def K1140_5 : CC := .reg false [⟨some 10, .bin .lss (.t 9) (.c (.d (.v (.int .i64 3)))), none, 0⟩]
def L1140_6 : CC := .seq K1140_5 (.seq K1140_4 (.seq K1140_3 K1140_2))
def K1140_7 : CC := .reg false [⟨some 7, .fa 11 (.t 2), none, 0⟩,
   ⟨some 8, .ld 6 true (.t 7), none, 0⟩,
   ⟨some 9, .mv (.c (.d (.v (.int .i64 0)))), none, 0⟩]
def K1140_8 : CC := .reg false [⟨some 2, .box 56 33 (.t 0), none, 0⟩,
   ⟨some 4, .newc 56 [.d (.v (.int .i64 0)), .d (.v (.int .i64 0)), .d (.v (.int .u64 0)), .d (.v (.int .u64 0)), .d (.v (.int .i64 0)), .d (.v (.bool false)), .d (.v (.int .i64 0)), .d (.v (.int .i64 0)), .d (.v (.bool false)), .d (.v (.int .u64 0)), .d (.v (.slice none 0 0)), .d (.v (.int .u64 0)), .d (.v (.slice none 0 0)), .d (.v (.int .u64 0)), .d (.v (.slice none 0 0)), .d (.v (.int .u64 0)), .d (.v (.slice none 0 0)), .d (.v (.slice none 0 0)), .d (.v (.int .i64 0)), .d (.v (.int .i64 0)), .d (.v (.int .i64 0)), .d (.v (.int .i64 0)), .d (.v (.int .i64 0)), .d (.v (.int .u64 0)), .d (.v (.int .u64 0)), .d (.v (.int .u64 0)), .d (.v (.int .u64 0)), .d (.v (.int .u64 0)), .d (.v (.int .i64 0)), .d (.v (.slice none 0 0)), .d (.v (.int .u64 0)), .d (.v (.int .i64 0)), .d (.v (.bool false))], none, 0⟩]
/-- coatcheck/bag.Ripe -/
def C1140 : CF := ⟨2, [(4, some (33, true))],
 .seq K1140_8 (.seq (.seq K1140_7 (.block 0 (.loop L1140_6))) K1140_1)⟩
theorem c1140 : coF Tryz.prog Tryz.f79 = some C1140 := by kernel_rfl
def A1140 : Ann := { keep := [0, 1, 2, 4, 5, 6, 8, 9, 10, 21], live := [(0, [1, 2, 4, 8, 9])] }
def E1140 {Ω : Type} : Env Ω := econs 111 S1105 (enil)
theorem e1140 : GoodE Tryz.prog E1140 := GoodE.cons g1105 (GoodE.nil)
def S1140 {Ω : Type} : Spec Ω := inl E1140 A1140 C1140 false
theorem g1140 : Good1 Tryz.prog 79 S1140 := Good1.inl e1140 mix Tryz.func79 (by kernel_rfl) c1140 A1140 false
/-- coatcheck/oper.shapes -/
def C1137 : CF := ⟨0, [(0, none)],
 .seq (.reg false [⟨some 0, .mv (.c (.d (.v (.map none)))), none, 0⟩])
 (.seq (.reg false [⟨some 1, .mkm, none, 0⟩,
   ⟨some 2, .bld [.d (.v (.string ⟨#[]⟩)), .d (.v (.bool false)), .d (.v (.bool false)), .d (.v (.bool false))] [(0, 1, .c (.d (.v (.string ⟨#[112, 105, 110]⟩))))], none, 0⟩,
   ⟨none, .upd 0 (.t 1) (.c (.d (.v (.int .i64 1)))) (.t 2), none, 0⟩,
   ⟨some 3, .bld [.d (.v (.string ⟨#[]⟩)), .d (.v (.bool false)), .d (.v (.bool false)), .d (.v (.bool false))] [(0, 1, .c (.d (.v (.string ⟨#[117, 110, 112, 105, 110]⟩))))], none, 0⟩,
   ⟨none, .upd 0 (.t 1) (.c (.d (.v (.int .i64 2)))) (.t 3), none, 0⟩,
   ⟨some 4, .bld [.d (.v (.string ⟨#[]⟩)), .d (.v (.bool false)), .d (.v (.bool false)), .d (.v (.bool false))] [(0, 1, .c (.d (.v (.string ⟨#[112, 101, 101, 107]⟩))))], none, 0⟩,
   ⟨none, .upd 0 (.t 1) (.c (.d (.v (.int .i64 7)))) (.t 4), none, 0⟩,
   ⟨some 5, .bld [.d (.v (.string ⟨#[]⟩)), .d (.v (.bool false)), .d (.v (.bool false)), .d (.v (.bool false))] [(0, 1, .c (.d (.v (.string ⟨#[99, 111, 108, 108, 101, 99, 116]⟩))))], none, 0⟩,
   ⟨none, .upd 0 (.t 1) (.c (.d (.v (.int .i64 8)))) (.t 5), none, 0⟩,
   ⟨some 6, .bld [.d (.v (.string ⟨#[]⟩)), .d (.v (.bool false)), .d (.v (.bool false)), .d (.v (.bool false))] [(0, 1, .c (.d (.v (.string ⟨#[97, 108, 108, 111, 99]⟩)))), (2, 1, .c (.d (.v (.bool true))))], none, 0⟩,
   ⟨none, .upd 0 (.t 1) (.c (.d (.v (.int .i64 3)))) (.t 6), none, 0⟩,
   ⟨some 7, .bld [.d (.v (.string ⟨#[]⟩)), .d (.v (.bool false)), .d (.v (.bool false)), .d (.v (.bool false))] [(0, 1, .c (.d (.v (.string ⟨#[102, 114, 101, 101]⟩)))), (1, 1, .c (.d (.v (.bool true))))], none, 0⟩,
   ⟨none, .upd 0 (.t 1) (.c (.d (.v (.int .i64 4)))) (.t 7), none, 0⟩,
   ⟨some 8, .bld [.d (.v (.string ⟨#[]⟩)), .d (.v (.bool false)), .d (.v (.bool false)), .d (.v (.bool false))] [(0, 1, .c (.d (.v (.string ⟨#[100, 101, 114, 101, 102]⟩)))), (1, 1, .c (.d (.v (.bool true))))], none, 0⟩,
   ⟨none, .upd 0 (.t 1) (.c (.d (.v (.int .i64 6)))) (.t 8), none, 0⟩,
   ⟨some 9, .bld [.d (.v (.string ⟨#[]⟩)), .d (.v (.bool false)), .d (.v (.bool false)), .d (.v (.bool false))] [(0, 1, .c (.d (.v (.string ⟨#[119, 114, 105, 116, 101]⟩)))), (1, 1, .c (.d (.v (.bool true)))), (2, 1, .c (.d (.v (.bool true))))], none, 0⟩,
   ⟨none, .upd 0 (.t 1) (.c (.d (.v (.int .i64 5)))) (.t 9), none, 0⟩,
   ⟨some 10, .bld [.d (.v (.string ⟨#[]⟩)), .d (.v (.bool false)), .d (.v (.bool false)), .d (.v (.bool false))] [(0, 1, .c (.d (.v (.string ⟨#[100, 114, 97, 105, 110]⟩)))), (3, 1, .c (.d (.v (.bool true))))], none, 0⟩,
   ⟨none, .upd 0 (.t 1) (.c (.d (.v (.int .i64 9)))) (.t 10), none, 0⟩,
   ⟨some 11, .mv (.t 1), none, 0⟩,
   ⟨some 0, .mv (.t 11), none, 0⟩])
 (.ret))⟩
theorem c1137 : coF Tryz.prog Tryz.f55 = some C1137 := by kernel_rfl
def A1137 : Ann := { keep := [0], live := [] }
def E1137 {Ω : Type} : Env Ω := enil
theorem e1137 : GoodE Tryz.prog E1137 := GoodE.nil
def S1137 {Ω : Type} : Spec Ω := inl E1137 A1137 C1137 false
theorem g1137 : Good1 Tryz.prog 55 S1137 := Good1.inl e1137 mix Tryz.func55 (by kernel_rfl) c1137 A1137 false
/-- coatcheck/oper.Asks -/
def C1127 : CF := ⟨1, [(2, none)],
 .seq (.reg false [⟨some 1, .box 37 7 (.t 0), none, 0⟩,
   ⟨some 2, .mv (.c (.d (.v (.bool false)))), none, 0⟩])
 (.seq (.reg true [⟨some 3, .call (.c (.fn (.func 55) [] [])) [], none, 0⟩,
   ⟨some 4, .fa 0 (.t 1), none, 0⟩,
   ⟨some 5, .ld 1 false (.t 4), none, 2⟩,
   ⟨some 6, .lku 0 (.agg [.d (.v (.string ⟨#[]⟩)), .d (.v (.bool false)), .d (.v (.bool false)), .d (.v (.bool false))]) false (.t 3) (.t 5), none, 7⟩,
   ⟨some 7, .fld 1 1 false (.t 6), none, 15⟩,
   ⟨some 2, .mv (.t 7), none, 31⟩])
 (.ret))⟩
theorem c1127 : coF Tryz.prog Tryz.f73 = some C1127 := by kernel_rfl
def A1127 : Ann := { keep := [0, 1, 2], live := [] }
def E1127 {Ω : Type} : Env Ω := econs 55 S1137 (enil)
theorem e1127 : GoodE Tryz.prog E1127 := GoodE.cons g1137 (GoodE.nil)
def S1127 {Ω : Type} : Spec Ω := inl E1127 A1127 C1127 false
theorem g1127 : Good1 Tryz.prog 73 S1127 := Good1.inl e1127 mix Tryz.func73 (by kernel_rfl) c1127 A1127 false
/-- coatcheck/oper.Shares -/
def C1162 : CF := ⟨1, [(2, none)],
 .seq (.reg false [⟨some 1, .box 37 7 (.t 0), none, 0⟩,
   ⟨some 2, .mv (.c (.d (.v (.bool false)))), none, 0⟩])
 (.seq (.reg false [⟨some 3, .fa 0 (.t 1), none, 0⟩,
   ⟨some 4, .ld 1 false (.t 3), none, 0⟩,
   ⟨some 5, .eq .int false (.t 4) (.c (.d (.v (.int .i64 3)))), none, 0⟩,
   ⟨some 6, .mv (.t 5), none, 0⟩,
   ⟨some 7, .ld 7 true (.t 1), some (6, false), 0⟩,
   ⟨some 8, .call (.c (.fn (.func 73) [] [])) [.t 7], some (6, false), 0⟩,
   ⟨some 9, .pick (.t 6) (.c (.d (.v (.bool true)))) (.t 8), none, 0⟩,
   ⟨some 2, .mv (.t 9), none, 0⟩])
 (.ret))⟩
theorem c1162 : coF Tryz.prog Tryz.f132 = some C1162 := by kernel_rfl
def A1162 : Ann := { keep := [0, 1, 2], live := [] }
def E1162 {Ω : Type} : Env Ω := econs 73 S1127 (enil)
theorem e1162 : GoodE Tryz.prog E1162 := GoodE.cons g1127 (GoodE.nil)
def S1162 {Ω : Type} : Spec Ω := inl E1162 A1162 C1162 false
theorem g1162 : Good1 Tryz.prog 132 S1162 := Good1.inl e1162 mix Tryz.func132 (by kernel_rfl) c1162 A1162 false
/-- coatcheck/work.over -/
def C1128 : CF := ⟨2, [(4, some (33, true))],
 .seq (.reg false [⟨some 2, .box 56 33 (.t 0), none, 0⟩,
   ⟨some 4, .newc 56 [.d (.v (.int .i64 0)), .d (.v (.int .i64 0)), .d (.v (.int .u64 0)), .d (.v (.int .u64 0)), .d (.v (.int .i64 0)), .d (.v (.bool false)), .d (.v (.int .i64 0)), .d (.v (.int .i64 0)), .d (.v (.bool false)), .d (.v (.int .u64 0)), .d (.v (.slice none 0 0)), .d (.v (.int .u64 0)), .d (.v (.slice none 0 0)), .d (.v (.int .u64 0)), .d (.v (.slice none 0 0)), .d (.v (.int .u64 0)), .d (.v (.slice none 0 0)), .d (.v (.slice none 0 0)), .d (.v (.int .i64 0)), .d (.v (.int .i64 0)), .d (.v (.int .i64 0)), .d (.v (.int .i64 0)), .d (.v (.int .i64 0)), .d (.v (.int .u64 0)), .d (.v (.int .u64 0)), .d (.v (.int .u64 0)), .d (.v (.int .u64 0)), .d (.v (.int .u64 0)), .d (.v (.int .i64 0)), .d (.v (.slice none 0 0)), .d (.v (.int .u64 0)), .d (.v (.int .i64 0)), .d (.v (.bool false))], none, 0⟩])
 (.seq (.reg false [⟨some 5, .mv (.t 1), none, 0⟩,
   ⟨some 6, .fa 31 (.t 2), none, 0⟩,
   ⟨none, .st 1 (.t 6) (.t 5), none, 0⟩,
   ⟨some 7, .fa 0 (.t 2), none, 0⟩,
   ⟨none, .st 1 (.t 7) (.c (.d (.v (.int .i64 0)))), none, 0⟩])
 (.seq (.reg false [⟨some 8, .ld 33 true (.t 2), none, 0⟩,
   ⟨none, .st 33 (.t 4) (.t 8), none, 0⟩])
 (.ret)))⟩
theorem c1128 : coF Tryz.prog Tryz.f74 = some C1128 := by kernel_rfl
def A1128 : Ann := { keep := [0, 1, 2, 4], live := [] }
def E1128 {Ω : Type} : Env Ω := enil
theorem e1128 : GoodE Tryz.prog E1128 := GoodE.nil
def S1128 {Ω : Type} : Spec Ω := inl E1128 A1128 C1128 false
theorem g1128 : Good1 Tryz.prog 74 S1128 := Good1.inl e1128 mix Tryz.func74 (by kernel_rfl) c1128 A1128 false
/-- coatcheck/work.body -/
def C1129 : CF := ⟨1, [(2, some (33, true))],
 .seq (.reg false [⟨some 1, .box 56 33 (.t 0), none, 0⟩,
   ⟨some 2, .newc 56 [.d (.v (.int .i64 0)), .d (.v (.int .i64 0)), .d (.v (.int .u64 0)), .d (.v (.int .u64 0)), .d (.v (.int .i64 0)), .d (.v (.bool false)), .d (.v (.int .i64 0)), .d (.v (.int .i64 0)), .d (.v (.bool false)), .d (.v (.int .u64 0)), .d (.v (.slice none 0 0)), .d (.v (.int .u64 0)), .d (.v (.slice none 0 0)), .d (.v (.int .u64 0)), .d (.v (.slice none 0 0)), .d (.v (.int .u64 0)), .d (.v (.slice none 0 0)), .d (.v (.slice none 0 0)), .d (.v (.int .i64 0)), .d (.v (.int .i64 0)), .d (.v (.int .i64 0)), .d (.v (.int .i64 0)), .d (.v (.int .i64 0)), .d (.v (.int .u64 0)), .d (.v (.int .u64 0)), .d (.v (.int .u64 0)), .d (.v (.int .u64 0)), .d (.v (.int .u64 0)), .d (.v (.int .i64 0)), .d (.v (.slice none 0 0)), .d (.v (.int .u64 0)), .d (.v (.int .i64 0)), .d (.v (.bool false))], none, 0⟩])
 (.seq (.seq (.reg false [⟨some 3, .fa 1 (.t 1), none, 0⟩,
   ⟨some 4, .fa 0 (.t 3), none, 0⟩,
   ⟨some 5, .ld 1 false (.t 4), none, 0⟩])
 (.block 0 (.seq (.reg false [⟨some 9, .eq .int false (.t 5) (.c (.d (.v (.int .i64 4)))), none, 0⟩,
     ⟨some 8, .mv (.t 9), none, 0⟩])
   (.cond 8 (.reg false [⟨some 10, .fa 0 (.t 1), none, 0⟩,
       ⟨none, .st 1 (.t 10) (.c (.d (.v (.int .i64 42)))), none, 0⟩])
     (.seq (.reg false [⟨some 12, .eq .int false (.t 5) (.c (.d (.v (.int .i64 5)))), none, 0⟩,
       ⟨some 11, .mv (.t 12), none, 0⟩])
     (.cond 11 (.reg false [⟨some 13, .fa 0 (.t 1), none, 0⟩,
         ⟨none, .st 1 (.t 13) (.c (.d (.v (.int .i64 46)))), none, 0⟩])
       (.seq (.reg false [⟨some 15, .eq .int false (.t 5) (.c (.d (.v (.int .i64 6)))), none, 0⟩,
         ⟨some 14, .mv (.t 15), none, 0⟩])
       (.cond 14 (.reg false [⟨some 16, .fa 0 (.t 1), none, 0⟩,
           ⟨none, .st 1 (.t 16) (.c (.d (.v (.int .i64 60)))), none, 0⟩])
         (.reg false [⟨some 6, .ld 33 true (.t 1), none, 0⟩,
           ⟨some 7, .call (.c (.fn (.func 109) [] [])) [.t 6], none, 0⟩,
           ⟨none, .st 33 (.t 1) (.t 7), none, 0⟩])))))))))
 (.seq (.reg false [⟨some 17, .ld 33 true (.t 1), none, 0⟩,
   ⟨none, .st 33 (.t 2) (.t 17), none, 0⟩])
 (.ret)))⟩
theorem c1129 : coF Tryz.prog Tryz.f76 = some C1129 := by kernel_rfl
def A1129 : Ann := { keep := [0, 1, 2, 5, 8, 11, 14], live := [] }
def E1129 {Ω : Type} : Env Ω := econs 109 S1077 (enil)
theorem e1129 : GoodE Tryz.prog E1129 := GoodE.cons g1077 (GoodE.nil)
def S1129 {Ω : Type} : Spec Ω := inl E1129 A1129 C1129 false
theorem g1129 : Good1 Tryz.prog 76 S1129 := Good1.inl e1129 mix Tryz.func76 (by kernel_rfl) c1129 A1129 false
/-- coatcheck/work.through -/
def C1149 : CF := ⟨1, [(2, some (33, true))],
 .seq (.reg false [⟨some 1, .box 56 33 (.t 0), none, 0⟩,
   ⟨some 2, .newc 56 [.d (.v (.int .i64 0)), .d (.v (.int .i64 0)), .d (.v (.int .u64 0)), .d (.v (.int .u64 0)), .d (.v (.int .i64 0)), .d (.v (.bool false)), .d (.v (.int .i64 0)), .d (.v (.int .i64 0)), .d (.v (.bool false)), .d (.v (.int .u64 0)), .d (.v (.slice none 0 0)), .d (.v (.int .u64 0)), .d (.v (.slice none 0 0)), .d (.v (.int .u64 0)), .d (.v (.slice none 0 0)), .d (.v (.int .u64 0)), .d (.v (.slice none 0 0)), .d (.v (.slice none 0 0)), .d (.v (.int .i64 0)), .d (.v (.int .i64 0)), .d (.v (.int .i64 0)), .d (.v (.int .i64 0)), .d (.v (.int .i64 0)), .d (.v (.int .u64 0)), .d (.v (.int .u64 0)), .d (.v (.int .u64 0)), .d (.v (.int .u64 0)), .d (.v (.int .u64 0)), .d (.v (.int .i64 0)), .d (.v (.slice none 0 0)), .d (.v (.int .u64 0)), .d (.v (.int .i64 0)), .d (.v (.bool false))], none, 0⟩])
 (.seq (.reg false [⟨some 3, .fa 32 (.t 1), none, 0⟩,
   ⟨none, .st 1 (.t 3) (.c (.d (.v (.bool false)))), none, 0⟩])
 (.seq (.seq (.reg false [⟨some 4, .fa 1 (.t 1), none, 0⟩,
   ⟨some 5, .ld 7 true (.t 4), none, 0⟩,
   ⟨some 6, .call (.c (.fn (.func 132) [] [])) [.t 5], none, 0⟩,
   ⟨some 7, .mv (.t 6), none, 0⟩,
   ⟨some 8, .fa 8 (.t 1), some (7, true), 0⟩,
   ⟨some 9, .ld 1 false (.t 8), some (7, true), 0⟩,
   ⟨some 10, .un .not (.t 9), some (7, true), 0⟩,
   ⟨some 11, .pick (.t 7) (.t 10) (.c (.d (.v (.bool false)))), none, 0⟩])
 (.cond 11 (.seq (.reg false [⟨some 12, .fa 0 (.t 1), none, 0⟩,
     ⟨none, .st 1 (.t 12) (.c (.d (.v (.int .i64 90)))), none, 0⟩])
   (.seq (.reg false [⟨some 13, .ld 33 true (.t 1), none, 0⟩,
     ⟨none, .st 33 (.t 2) (.t 13), none, 0⟩])
   (.ret)))
   (.skip)))
 (.seq (.reg false [⟨some 14, .fa 0 (.t 1), none, 0⟩,
   ⟨none, .st 1 (.t 14) (.c (.d (.v (.int .i64 0)))), none, 0⟩])
 (.seq (.reg false [⟨some 15, .ld 33 true (.t 1), none, 0⟩,
   ⟨none, .st 33 (.t 2) (.t 15), none, 0⟩])
 (.ret)))))⟩
theorem c1149 : coF Tryz.prog Tryz.f93 = some C1149 := by kernel_rfl
def A1149 : Ann := { keep := [0, 1, 2, 11], live := [] }
def E1149 {Ω : Type} : Env Ω := econs 132 S1162 (enil)
theorem e1149 : GoodE Tryz.prog E1149 := GoodE.cons g1162 (GoodE.nil)
def S1149 {Ω : Type} : Spec Ω := inl E1149 A1149 C1149 false
theorem g1149 : Good1 Tryz.prog 93 S1149 := Good1.inl e1149 mix Tryz.func93 (by kernel_rfl) c1149 A1149 false
/-- coatcheck/work.giveBack -/
def C1139 : CF := ⟨1, [(2, some (33, true))],
 .seq (.reg false [⟨some 1, .box 56 33 (.t 0), none, 0⟩,
   ⟨some 2, .newc 56 [.d (.v (.int .i64 0)), .d (.v (.int .i64 0)), .d (.v (.int .u64 0)), .d (.v (.int .u64 0)), .d (.v (.int .i64 0)), .d (.v (.bool false)), .d (.v (.int .i64 0)), .d (.v (.int .i64 0)), .d (.v (.bool false)), .d (.v (.int .u64 0)), .d (.v (.slice none 0 0)), .d (.v (.int .u64 0)), .d (.v (.slice none 0 0)), .d (.v (.int .u64 0)), .d (.v (.slice none 0 0)), .d (.v (.int .u64 0)), .d (.v (.slice none 0 0)), .d (.v (.slice none 0 0)), .d (.v (.int .i64 0)), .d (.v (.int .i64 0)), .d (.v (.int .i64 0)), .d (.v (.int .i64 0)), .d (.v (.int .i64 0)), .d (.v (.int .u64 0)), .d (.v (.int .u64 0)), .d (.v (.int .u64 0)), .d (.v (.int .u64 0)), .d (.v (.int .u64 0)), .d (.v (.int .i64 0)), .d (.v (.slice none 0 0)), .d (.v (.int .u64 0)), .d (.v (.int .i64 0)), .d (.v (.bool false))], none, 0⟩])
 (.seq (.reg false [⟨some 4, .fa 32 (.t 1), none, 0⟩,
   ⟨none, .st 1 (.t 4) (.c (.d (.v (.bool true)))), none, 0⟩])
 (.seq (.reg false [⟨some 6, .ld 33 true (.t 1), none, 0⟩,
   ⟨some 7, .call (.c (.fn (.func 110) [] [])) [.t 6], none, 0⟩,
   ⟨some 5, .mv (.t 7), none, 0⟩,
   ⟨some 8, .ext 0 (.t 5), none, 0⟩,
   ⟨some 9, .ext 1 (.t 5), none, 0⟩,
   ⟨none, .st 33 (.t 1) (.t 8), none, 0⟩,
   ⟨some 3, .mv (.t 9), none, 0⟩])
 (.seq (.seq (.reg false [⟨some 10, .mv (.t 3), none, 0⟩,
   ⟨some 11, .eq .int false (.t 10) (.c (.d (.v (.int .i64 1)))), none, 0⟩])
 (.cond 11 (.seq (.reg false [⟨some 12, .ld 33 true (.t 1), none, 0⟩,
     ⟨some 13, .call (.c (.fn (.func 93) [] [])) [.t 12], none, 0⟩,
     ⟨none, .st 33 (.t 2) (.t 13), none, 0⟩])
   (.ret))
   (.skip)))
 (.seq (.reg false [⟨some 14, .ld 33 true (.t 1), none, 0⟩,
   ⟨none, .st 33 (.t 2) (.t 14), none, 0⟩])
 (.ret)))))⟩
theorem c1139 : coF Tryz.prog Tryz.f78 = some C1139 := by kernel_rfl
def A1139 : Ann := { keep := [0, 1, 2, 3, 11], live := [] }
def E1139 {Ω : Type} : Env Ω := econs 93 S1149 (econs 110 S1038 (enil))
theorem e1139 : GoodE Tryz.prog E1139 := GoodE.cons g1149 (GoodE.cons g1038 (GoodE.nil))
def S1139 {Ω : Type} : Spec Ω := inl E1139 A1139 C1139 false
theorem g1139 : Good1 Tryz.prog 78 S1139 := Good1.inl e1139 mix Tryz.func78 (by kernel_rfl) c1139 A1139 false
/-- coatcheck/work.fail -/
def C1165 : CF := ⟨2, [(4, some (33, true))],
 .seq (.reg false [⟨some 2, .box 56 33 (.t 0), none, 0⟩,
   ⟨some 4, .newc 56 [.d (.v (.int .i64 0)), .d (.v (.int .i64 0)), .d (.v (.int .u64 0)), .d (.v (.int .u64 0)), .d (.v (.int .i64 0)), .d (.v (.bool false)), .d (.v (.int .i64 0)), .d (.v (.int .i64 0)), .d (.v (.bool false)), .d (.v (.int .u64 0)), .d (.v (.slice none 0 0)), .d (.v (.int .u64 0)), .d (.v (.slice none 0 0)), .d (.v (.int .u64 0)), .d (.v (.slice none 0 0)), .d (.v (.int .u64 0)), .d (.v (.slice none 0 0)), .d (.v (.slice none 0 0)), .d (.v (.int .i64 0)), .d (.v (.int .i64 0)), .d (.v (.int .i64 0)), .d (.v (.int .i64 0)), .d (.v (.int .i64 0)), .d (.v (.int .u64 0)), .d (.v (.int .u64 0)), .d (.v (.int .u64 0)), .d (.v (.int .u64 0)), .d (.v (.int .u64 0)), .d (.v (.int .i64 0)), .d (.v (.slice none 0 0)), .d (.v (.int .u64 0)), .d (.v (.int .i64 0)), .d (.v (.bool false))], none, 0⟩])
 (.seq (.reg false [⟨some 5, .mv (.t 1), none, 0⟩,
   ⟨some 6, .fa 31 (.t 2), none, 0⟩,
   ⟨none, .st 1 (.t 6) (.t 5), none, 0⟩])
 (.seq (.seq (.reg false [⟨some 7, .fa 18 (.t 2), none, 0⟩,
   ⟨some 8, .ld 1 false (.t 7), none, 0⟩,
   ⟨some 9, .eq .int true (.t 8) (.c (.d (.v (.int .i64 0)))), none, 0⟩])
 (.cond 9 (.seq (.reg false [⟨some 10, .ld 33 true (.t 2), none, 0⟩,
     ⟨some 11, .fa 18 (.t 2), none, 0⟩,
     ⟨some 12, .ld 1 false (.t 11), none, 0⟩,
     ⟨some 13, .bin .sub (.t 12) (.c (.d (.v (.int .i64 1)))), none, 0⟩,
     ⟨some 14, .bsl 3 1 1 [.d (.v (.int .i64 0))] [(0, 1, .t 13)], none, 0⟩,
     ⟨some 15, .call (.c (.fn (.func 111) [] [])) [.t 10, .t 14], none, 0⟩,
     ⟨none, .st 33 (.t 2) (.t 15), none, 0⟩])
   (.reg false [⟨some 16, .fa 18 (.t 2), none, 0⟩,
     ⟨none, .st 1 (.t 16) (.c (.d (.v (.int .i64 0)))), none, 0⟩]))
   (.skip)))
 (.seq (.reg false [⟨some 17, .fa 21 (.t 2), none, 0⟩,
   ⟨none, .st 1 (.t 17) (.c (.d (.v (.int .i64 0)))), none, 0⟩])
 (.seq (.reg false [⟨some 18, .ld 33 true (.t 2), none, 0⟩,
   ⟨some 19, .call (.c (.fn (.func 78) [] [])) [.t 18], none, 0⟩,
   ⟨none, .st 33 (.t 4) (.t 19), none, 0⟩])
 (.ret)))))⟩
theorem c1165 : coF Tryz.prog Tryz.f138 = some C1165 := by kernel_rfl
def A1165 : Ann := { keep := [0, 1, 2, 4, 9], live := [] }
def E1165 {Ω : Type} : Env Ω := econs 78 S1139 (econs 111 S1105 (enil))
theorem e1165 : GoodE Tryz.prog E1165 := GoodE.cons g1139 (GoodE.cons g1105 (GoodE.nil))
def S1165 {Ω : Type} : Spec Ω := inl E1165 A1165 C1165 false
theorem g1165 : Good1 Tryz.prog 138 S1165 := Good1.inl e1165 mix Tryz.func138 (by kernel_rfl) c1165 A1165 false
/-- coatcheck/work.inside -/
def C1143 : CF := ⟨2, [(4, some (33, true))],
 .seq (.reg false [⟨some 3, .box 56 33 (.t 1), none, 0⟩,
   ⟨some 4, .newc 56 [.d (.v (.int .i64 0)), .d (.v (.int .i64 0)), .d (.v (.int .u64 0)), .d (.v (.int .u64 0)), .d (.v (.int .i64 0)), .d (.v (.bool false)), .d (.v (.int .i64 0)), .d (.v (.int .i64 0)), .d (.v (.bool false)), .d (.v (.int .u64 0)), .d (.v (.slice none 0 0)), .d (.v (.int .u64 0)), .d (.v (.slice none 0 0)), .d (.v (.int .u64 0)), .d (.v (.slice none 0 0)), .d (.v (.int .u64 0)), .d (.v (.slice none 0 0)), .d (.v (.slice none 0 0)), .d (.v (.int .i64 0)), .d (.v (.int .i64 0)), .d (.v (.int .i64 0)), .d (.v (.int .i64 0)), .d (.v (.int .i64 0)), .d (.v (.int .u64 0)), .d (.v (.int .u64 0)), .d (.v (.int .u64 0)), .d (.v (.int .u64 0)), .d (.v (.int .u64 0)), .d (.v (.int .i64 0)), .d (.v (.slice none 0 0)), .d (.v (.int .u64 0)), .d (.v (.int .i64 0)), .d (.v (.bool false))], none, 0⟩])
 (.seq (.seq (.reg false [⟨some 5, .fa 1 (.t 3), none, 0⟩,
   ⟨some 6, .fa 0 (.t 5), none, 0⟩,
   ⟨some 7, .ld 1 false (.t 6), none, 0⟩,
   ⟨some 8, .eq .int true (.t 7) (.c (.d (.v (.int .i64 1)))), none, 0⟩])
 (.cond 8 (.seq (.reg false [⟨some 9, .ld 33 true (.t 3), none, 0⟩,
     ⟨some 10, .call (.c (.fn (.func 76) [] [])) [.t 9], none, 0⟩,
     ⟨none, .st 33 (.t 4) (.t 10), none, 0⟩])
   (.ret))
   (.skip)))
 (.seq (.reg false [⟨some 11, .fa 8 (.t 3), none, 0⟩,
   ⟨none, .st 1 (.t 11) (.c (.d (.v (.bool true)))), none, 0⟩,
   ⟨some 12, .fa 22 (.t 3), none, 0⟩,
   ⟨none, .st 1 (.t 12) (.c (.d (.v (.int .i64 0)))), none, 0⟩,
   ⟨some 13, .fa 0 (.t 3), none, 0⟩,
   ⟨none, .st 1 (.t 13) (.c (.d (.v (.int .i64 0)))), none, 0⟩])
 (.seq (.reg false [⟨some 14, .ld 33 true (.t 3), none, 0⟩,
   ⟨none, .st 33 (.t 4) (.t 14), none, 0⟩])
 (.ret))))⟩
theorem c1143 : coF Tryz.prog Tryz.f86 = some C1143 := by kernel_rfl
def A1143 : Ann := { keep := [1, 3, 4, 8], live := [] }
def E1143 {Ω : Type} : Env Ω := econs 76 S1129 (enil)
theorem e1143 : GoodE Tryz.prog E1143 := GoodE.cons g1129 (GoodE.nil)
def S1143 {Ω : Type} : Spec Ω := inl E1143 A1143 C1143 false
theorem g1143 : Good1 Tryz.prog 86 S1143 := Good1.inl e1143 mix Tryz.func86 (by kernel_rfl) c1143 A1143 false
/-- coatcheck/work.outside -/
def C1144 : CF := ⟨2, [(4, some (33, true))],
 .seq (.reg false [⟨some 3, .box 56 33 (.t 1), none, 0⟩,
   ⟨some 4, .newc 56 [.d (.v (.int .i64 0)), .d (.v (.int .i64 0)), .d (.v (.int .u64 0)), .d (.v (.int .u64 0)), .d (.v (.int .i64 0)), .d (.v (.bool false)), .d (.v (.int .i64 0)), .d (.v (.int .i64 0)), .d (.v (.bool false)), .d (.v (.int .u64 0)), .d (.v (.slice none 0 0)), .d (.v (.int .u64 0)), .d (.v (.slice none 0 0)), .d (.v (.int .u64 0)), .d (.v (.slice none 0 0)), .d (.v (.int .u64 0)), .d (.v (.slice none 0 0)), .d (.v (.slice none 0 0)), .d (.v (.int .i64 0)), .d (.v (.int .i64 0)), .d (.v (.int .i64 0)), .d (.v (.int .i64 0)), .d (.v (.int .i64 0)), .d (.v (.int .u64 0)), .d (.v (.int .u64 0)), .d (.v (.int .u64 0)), .d (.v (.int .u64 0)), .d (.v (.int .u64 0)), .d (.v (.int .i64 0)), .d (.v (.slice none 0 0)), .d (.v (.int .u64 0)), .d (.v (.int .i64 0)), .d (.v (.bool false))], none, 0⟩])
 (.seq (.seq (.reg false [⟨some 5, .fa 1 (.t 3), none, 0⟩,
   ⟨some 6, .fa 0 (.t 5), none, 0⟩,
   ⟨some 7, .ld 1 false (.t 6), none, 0⟩,
   ⟨some 8, .eq .int false (.t 7) (.c (.d (.v (.int .i64 2)))), none, 0⟩])
 (.cond 8 (.reg false [⟨some 9, .fa 8 (.t 3), none, 0⟩,
     ⟨none, .st 1 (.t 9) (.c (.d (.v (.bool false)))), none, 0⟩,
     ⟨some 10, .fa 22 (.t 3), none, 0⟩,
     ⟨none, .st 1 (.t 10) (.c (.d (.v (.int .i64 0)))), none, 0⟩])
   (.skip)))
 (.seq (.reg false [⟨some 11, .fa 0 (.t 3), none, 0⟩,
   ⟨none, .st 1 (.t 11) (.c (.d (.v (.int .i64 0)))), none, 0⟩])
 (.seq (.reg false [⟨some 12, .ld 33 true (.t 3), none, 0⟩,
   ⟨none, .st 33 (.t 4) (.t 12), none, 0⟩])
 (.ret))))⟩
theorem c1144 : coF Tryz.prog Tryz.f87 = some C1144 := by kernel_rfl
def A1144 : Ann := { keep := [1, 3, 4, 8], live := [] }
def E1144 {Ω : Type} : Env Ω := enil
theorem e1144 : GoodE Tryz.prog E1144 := GoodE.nil
def S1144 {Ω : Type} : Spec Ω := inl E1144 A1144 C1144 false
theorem g1144 : Good1 Tryz.prog 87 S1144 := Good1.inl e1144 mix Tryz.func87 (by kernel_rfl) c1144 A1144 false
/-- coatcheck/work.plain$1 -/
def C1160 : CF := ⟨4, [(7, some (33, true)), (8, none), (9, none)],
 .seq (.reg false [⟨some 6, .box 56 33 (.t 2), none, 0⟩,
   ⟨some 7, .newc 56 [.d (.v (.int .i64 0)), .d (.v (.int .i64 0)), .d (.v (.int .u64 0)), .d (.v (.int .u64 0)), .d (.v (.int .i64 0)), .d (.v (.bool false)), .d (.v (.int .i64 0)), .d (.v (.int .i64 0)), .d (.v (.bool false)), .d (.v (.int .u64 0)), .d (.v (.slice none 0 0)), .d (.v (.int .u64 0)), .d (.v (.slice none 0 0)), .d (.v (.int .u64 0)), .d (.v (.slice none 0 0)), .d (.v (.int .u64 0)), .d (.v (.slice none 0 0)), .d (.v (.slice none 0 0)), .d (.v (.int .i64 0)), .d (.v (.int .i64 0)), .d (.v (.int .i64 0)), .d (.v (.int .i64 0)), .d (.v (.int .i64 0)), .d (.v (.int .u64 0)), .d (.v (.int .u64 0)), .d (.v (.int .u64 0)), .d (.v (.int .u64 0)), .d (.v (.int .u64 0)), .d (.v (.int .i64 0)), .d (.v (.slice none 0 0)), .d (.v (.int .u64 0)), .d (.v (.int .i64 0)), .d (.v (.bool false))], none, 0⟩,
   ⟨some 8, .mv (.c (.d (.v (.int .i64 0)))), none, 0⟩,
   ⟨some 9, .mv (.c (.d (.v (.bool false)))), none, 0⟩])
 (.seq (.reg false [⟨some 10, .ld 1 false (.t 3), none, 0⟩,
   ⟨some 11, .mv (.t 0), none, 0⟩,
   ⟨some 12, .ld 33 true (.t 6), none, 0⟩,
   ⟨some 13, .call (.t 10) [.t 11, .t 12], none, 0⟩,
   ⟨some 14, .ext 0 (.t 13), none, 0⟩,
   ⟨some 15, .ext 1 (.t 13), none, 0⟩,
   ⟨some 16, .ext 2 (.t 13), none, 0⟩,
   ⟨none, .st 33 (.t 7) (.t 14), none, 0⟩,
   ⟨some 8, .mv (.t 15), none, 0⟩,
   ⟨some 9, .mv (.t 16), none, 0⟩])
 (.ret))⟩
theorem c1160 : coF Tryz.prog Tryz.f122 = some C1160 := by kernel_rfl
def A1160 : Ann := { keep := [0, 2, 3, 6, 7, 8, 9], live := [] }
def E1160 {Ω : Type} : Env Ω := econs 90 S61i (econs 94 S1039 (econs 95 S1078 (econs 98 S1029i (enil))))
theorem e1160 : GoodE Tryz.prog E1160 := GoodE.cons g61i (GoodE.cons g1039 (GoodE.cons g1078 (GoodE.cons g1029i (GoodE.nil))))
def S1160 {Ω : Type} : Spec Ω := inl E1160 A1160 C1160 false
theorem g1160 : Good1 Tryz.prog 122 S1160 := Good1.inl e1160 mix Tryz.func122 (by kernel_rfl) c1160 A1160 false
/-- coatcheck/work.plain -/
def C1146 : CF := ⟨1, [(2, none)],
 .seq (.reg false [⟨some 1, .box 136 1 (.t 0), none, 0⟩,
   ⟨some 2, .mv (.c (.d (.v (.nilFunc)))), none, 0⟩])
 (.seq (.reg false [⟨some 3, .mkf (.func 122) [] [.t 1], none, 0⟩,
   ⟨some 2, .mv (.t 3), none, 0⟩])
 (.ret))⟩
theorem c1146 : coF Tryz.prog Tryz.f89 = some C1146 := by kernel_rfl
def A1146 : Ann := { keep := [0, 1, 2], live := [] }
def E1146 {Ω : Type} : Env Ω := econs 122 S1160 (enil)
theorem e1146 : GoodE Tryz.prog E1146 := GoodE.cons g1160 (GoodE.nil)
def S1146 {Ω : Type} : Spec Ω := inl E1146 A1146 C1146 false
theorem g1146 : Good1 Tryz.prog 89 S1146 := Good1.inl e1146 mix Tryz.func89 (by kernel_rfl) c1146 A1146 false
/-- coatcheck/work.to$1 -/
def C1159 : CF := ⟨3, [(5, some (33, true))],
 .seq (.reg false [⟨some 4, .box 56 33 (.t 1), none, 0⟩,
   ⟨some 5, .newc 56 [.d (.v (.int .i64 0)), .d (.v (.int .i64 0)), .d (.v (.int .u64 0)), .d (.v (.int .u64 0)), .d (.v (.int .i64 0)), .d (.v (.bool false)), .d (.v (.int .i64 0)), .d (.v (.int .i64 0)), .d (.v (.bool false)), .d (.v (.int .u64 0)), .d (.v (.slice none 0 0)), .d (.v (.int .u64 0)), .d (.v (.slice none 0 0)), .d (.v (.int .u64 0)), .d (.v (.slice none 0 0)), .d (.v (.int .u64 0)), .d (.v (.slice none 0 0)), .d (.v (.slice none 0 0)), .d (.v (.int .i64 0)), .d (.v (.int .i64 0)), .d (.v (.int .i64 0)), .d (.v (.int .i64 0)), .d (.v (.int .i64 0)), .d (.v (.int .u64 0)), .d (.v (.int .u64 0)), .d (.v (.int .u64 0)), .d (.v (.int .u64 0)), .d (.v (.int .u64 0)), .d (.v (.int .i64 0)), .d (.v (.slice none 0 0)), .d (.v (.int .u64 0)), .d (.v (.int .i64 0)), .d (.v (.bool false))], none, 0⟩])
 (.seq (.reg false [⟨some 6, .ld 1 false (.t 2), none, 0⟩,
   ⟨some 7, .fa 0 (.t 4), none, 0⟩,
   ⟨none, .st 1 (.t 7) (.t 6), none, 0⟩])
 (.seq (.reg false [⟨some 8, .ld 33 true (.t 4), none, 0⟩,
   ⟨none, .st 33 (.t 5) (.t 8), none, 0⟩])
 (.ret)))⟩
theorem c1159 : coF Tryz.prog Tryz.f121 = some C1159 := by kernel_rfl
def A1159 : Ann := { keep := [1, 2, 4, 5], live := [] }
def E1159 {Ω : Type} : Env Ω := enil
theorem e1159 : GoodE Tryz.prog E1159 := GoodE.nil
def S1159 {Ω : Type} : Spec Ω := inl E1159 A1159 C1159 false
theorem g1159 : Good1 Tryz.prog 121 S1159 := Good1.inl e1159 mix Tryz.func121 (by kernel_rfl) c1159 A1159 false
/-- coatcheck/work.to -/
def C1145 : CF := ⟨1, [(2, none)],
 .seq (.reg false [⟨some 1, .box 3 1 (.t 0), none, 0⟩,
   ⟨some 2, .mv (.c (.d (.v (.nilFunc)))), none, 0⟩])
 (.seq (.reg false [⟨some 3, .mkf (.func 121) [] [.t 1], none, 0⟩,
   ⟨some 2, .mv (.t 3), none, 0⟩])
 (.ret))⟩
theorem c1145 : coF Tryz.prog Tryz.f88 = some C1145 := by kernel_rfl
def A1145 : Ann := { keep := [0, 1, 2], live := [] }
def E1145 {Ω : Type} : Env Ω := econs 121 S1159 (enil)
theorem e1145 : GoodE Tryz.prog E1145 := GoodE.cons g1159 (GoodE.nil)
def S1145 {Ω : Type} : Spec Ω := inl E1145 A1145 C1145 false
theorem g1145 : Good1 Tryz.prog 88 S1145 := Good1.inl e1145 mix Tryz.func88 (by kernel_rfl) c1145 A1145 false
/-- coatcheck/work.end$1 -/
def C1161 : CF := ⟨3, [(5, some (33, true))],
 .seq (.reg false [⟨some 4, .box 56 33 (.t 1), none, 0⟩,
   ⟨some 5, .newc 56 [.d (.v (.int .i64 0)), .d (.v (.int .i64 0)), .d (.v (.int .u64 0)), .d (.v (.int .u64 0)), .d (.v (.int .i64 0)), .d (.v (.bool false)), .d (.v (.int .i64 0)), .d (.v (.int .i64 0)), .d (.v (.bool false)), .d (.v (.int .u64 0)), .d (.v (.slice none 0 0)), .d (.v (.int .u64 0)), .d (.v (.slice none 0 0)), .d (.v (.int .u64 0)), .d (.v (.slice none 0 0)), .d (.v (.int .u64 0)), .d (.v (.slice none 0 0)), .d (.v (.slice none 0 0)), .d (.v (.int .i64 0)), .d (.v (.int .i64 0)), .d (.v (.int .i64 0)), .d (.v (.int .i64 0)), .d (.v (.int .i64 0)), .d (.v (.int .u64 0)), .d (.v (.int .u64 0)), .d (.v (.int .u64 0)), .d (.v (.int .u64 0)), .d (.v (.int .u64 0)), .d (.v (.int .i64 0)), .d (.v (.slice none 0 0)), .d (.v (.int .u64 0)), .d (.v (.int .i64 0)), .d (.v (.bool false))], none, 0⟩])
 (.seq (.reg false [⟨some 6, .ld 33 true (.t 4), none, 0⟩,
   ⟨some 7, .ld 1 false (.t 2), none, 0⟩,
   ⟨some 8, .call (.c (.fn (.func 74) [] [])) [.t 6, .t 7], none, 0⟩,
   ⟨none, .st 33 (.t 5) (.t 8), none, 0⟩])
 (.ret))⟩
theorem c1161 : coF Tryz.prog Tryz.f131 = some C1161 := by kernel_rfl
def A1161 : Ann := { keep := [1, 2, 4, 5], live := [] }
def E1161 {Ω : Type} : Env Ω := econs 74 S1128 (enil)
theorem e1161 : GoodE Tryz.prog E1161 := GoodE.cons g1128 (GoodE.nil)
def S1161 {Ω : Type} : Spec Ω := inl E1161 A1161 C1161 false
theorem g1161 : Good1 Tryz.prog 131 S1161 := Good1.inl e1161 mix Tryz.func131 (by kernel_rfl) c1161 A1161 false
/-- coatcheck/work.end -/
def C1147 : CF := ⟨1, [(2, none)],
 .seq (.reg false [⟨some 1, .box 29 1 (.t 0), none, 0⟩,
   ⟨some 2, .mv (.c (.d (.v (.nilFunc)))), none, 0⟩])
 (.seq (.reg false [⟨some 3, .mkf (.func 131) [] [.t 1], none, 0⟩,
   ⟨some 2, .mv (.t 3), none, 0⟩])
 (.ret))⟩
theorem c1147 : coF Tryz.prog Tryz.f91 = some C1147 := by kernel_rfl
def A1147 : Ann := { keep := [0, 1, 2], live := [] }
def E1147 {Ω : Type} : Env Ω := econs 131 S1161 (enil)
theorem e1147 : GoodE Tryz.prog E1147 := GoodE.cons g1161 (GoodE.nil)
def S1147 {Ω : Type} : Spec Ω := inl E1147 A1147 C1147 false
theorem g1147 : Good1 Tryz.prog 91 S1147 := Good1.inl e1147 mix Tryz.func91 (by kernel_rfl) c1147 A1147 false
/-- coatcheck/work.table$2 -/
def C1148 : CF := ⟨2, [(4, some (33, true))],
 .seq (.reg false [⟨some 3, .box 56 33 (.t 1), none, 0⟩,
   ⟨some 4, .newc 56 [.d (.v (.int .i64 0)), .d (.v (.int .i64 0)), .d (.v (.int .u64 0)), .d (.v (.int .u64 0)), .d (.v (.int .i64 0)), .d (.v (.bool false)), .d (.v (.int .i64 0)), .d (.v (.int .i64 0)), .d (.v (.bool false)), .d (.v (.int .u64 0)), .d (.v (.slice none 0 0)), .d (.v (.int .u64 0)), .d (.v (.slice none 0 0)), .d (.v (.int .u64 0)), .d (.v (.slice none 0 0)), .d (.v (.int .u64 0)), .d (.v (.slice none 0 0)), .d (.v (.slice none 0 0)), .d (.v (.int .i64 0)), .d (.v (.int .i64 0)), .d (.v (.int .i64 0)), .d (.v (.int .i64 0)), .d (.v (.int .i64 0)), .d (.v (.int .u64 0)), .d (.v (.int .u64 0)), .d (.v (.int .u64 0)), .d (.v (.int .u64 0)), .d (.v (.int .u64 0)), .d (.v (.int .i64 0)), .d (.v (.slice none 0 0)), .d (.v (.int .u64 0)), .d (.v (.int .i64 0)), .d (.v (.bool false))], none, 0⟩])
 (.seq (.reg false [⟨some 5, .ld 33 true (.t 3), none, 0⟩,
   ⟨some 6, .call (.c (.fn (.func 93) [] [])) [.t 5], none, 0⟩,
   ⟨none, .st 33 (.t 4) (.t 6), none, 0⟩])
 (.ret))⟩
theorem c1148 : coF Tryz.prog Tryz.f92 = some C1148 := by kernel_rfl
def A1148 : Ann := { keep := [1, 3, 4], live := [] }
def E1148 {Ω : Type} : Env Ω := econs 93 S1149 (enil)
theorem e1148 : GoodE Tryz.prog E1148 := GoodE.cons g1149 (GoodE.nil)
def S1148 {Ω : Type} : Spec Ω := inl E1148 A1148 C1148 false
theorem g1148 : Good1 Tryz.prog 92 S1148 := Good1.inl e1148 mix Tryz.func92 (by kernel_rfl) c1148 A1148 false
/-- coatcheck/work.first$1 -/
def C1163 : CF := ⟨3, [(5, some (33, true))],
 .seq (.reg false [⟨some 4, .box 56 33 (.t 1), none, 0⟩,
   ⟨some 5, .newc 56 [.d (.v (.int .i64 0)), .d (.v (.int .i64 0)), .d (.v (.int .u64 0)), .d (.v (.int .u64 0)), .d (.v (.int .i64 0)), .d (.v (.bool false)), .d (.v (.int .i64 0)), .d (.v (.int .i64 0)), .d (.v (.bool false)), .d (.v (.int .u64 0)), .d (.v (.slice none 0 0)), .d (.v (.int .u64 0)), .d (.v (.slice none 0 0)), .d (.v (.int .u64 0)), .d (.v (.slice none 0 0)), .d (.v (.int .u64 0)), .d (.v (.slice none 0 0)), .d (.v (.slice none 0 0)), .d (.v (.int .i64 0)), .d (.v (.int .i64 0)), .d (.v (.int .i64 0)), .d (.v (.int .i64 0)), .d (.v (.int .i64 0)), .d (.v (.int .u64 0)), .d (.v (.int .u64 0)), .d (.v (.int .u64 0)), .d (.v (.int .u64 0)), .d (.v (.int .u64 0)), .d (.v (.int .i64 0)), .d (.v (.slice none 0 0)), .d (.v (.int .u64 0)), .d (.v (.int .i64 0)), .d (.v (.bool false))], none, 0⟩])
 (.seq (.reg true [⟨some 6, .ld 1 false (.t 2), none, 0⟩,
   ⟨some 7, .fa 28 (.t 4), none, 0⟩,
   ⟨none, .st 1 (.t 7) (.c (.d (.v (.int .i64 0)))), none, 2⟩,
   ⟨some 8, .fa 0 (.t 4), none, 7⟩,
   ⟨none, .st 1 (.t 8) (.t 6), none, 15⟩])
 (.seq (.reg false [⟨some 9, .ld 33 true (.t 4), none, 0⟩,
   ⟨none, .st 33 (.t 5) (.t 9), none, 0⟩])
 (.ret)))⟩
theorem c1163 : coF Tryz.prog Tryz.f136 = some C1163 := by kernel_rfl
def A1163 : Ann := { keep := [1, 2, 4, 5], live := [] }
def E1163 {Ω : Type} : Env Ω := enil
theorem e1163 : GoodE Tryz.prog E1163 := GoodE.nil
def S1163 {Ω : Type} : Spec Ω := inl E1163 A1163 C1163 false
theorem g1163 : Good1 Tryz.prog 136 S1163 := Good1.inl e1163 mix Tryz.func136 (by kernel_rfl) c1163 A1163 false
/-- coatcheck/work.first -/
def C1150 : CF := ⟨1, [(2, none)],
 .seq (.reg false [⟨some 1, .box 3 1 (.t 0), none, 0⟩,
   ⟨some 2, .mv (.c (.d (.v (.nilFunc)))), none, 0⟩])
 (.seq (.reg false [⟨some 3, .mkf (.func 136) [] [.t 1], none, 0⟩,
   ⟨some 2, .mv (.t 3), none, 0⟩])
 (.ret))⟩
theorem c1150 : coF Tryz.prog Tryz.f96 = some C1150 := by kernel_rfl
def A1150 : Ann := { keep := [0, 1, 2], live := [] }
def E1150 {Ω : Type} : Env Ω := econs 136 S1163 (enil)
theorem e1150 : GoodE Tryz.prog E1150 := GoodE.cons g1163 (GoodE.nil)
def S1150 {Ω : Type} : Spec Ω := inl E1150 A1150 C1150 false
theorem g1150 : Good1 Tryz.prog 96 S1150 := Good1.inl e1150 mix Tryz.func96 (by kernel_rfl) c1150 A1150 false
/-- coatcheck/work.with$1 -/
def C1164 : CF := ⟨3, [(5, some (33, true))],
 .seq (.reg false [⟨some 4, .box 56 33 (.t 1), none, 0⟩,
   ⟨some 5, .newc 56 [.d (.v (.int .i64 0)), .d (.v (.int .i64 0)), .d (.v (.int .u64 0)), .d (.v (.int .u64 0)), .d (.v (.int .i64 0)), .d (.v (.bool false)), .d (.v (.int .i64 0)), .d (.v (.int .i64 0)), .d (.v (.bool false)), .d (.v (.int .u64 0)), .d (.v (.slice none 0 0)), .d (.v (.int .u64 0)), .d (.v (.slice none 0 0)), .d (.v (.int .u64 0)), .d (.v (.slice none 0 0)), .d (.v (.int .u64 0)), .d (.v (.slice none 0 0)), .d (.v (.slice none 0 0)), .d (.v (.int .i64 0)), .d (.v (.int .i64 0)), .d (.v (.int .i64 0)), .d (.v (.int .i64 0)), .d (.v (.int .i64 0)), .d (.v (.int .u64 0)), .d (.v (.int .u64 0)), .d (.v (.int .u64 0)), .d (.v (.int .u64 0)), .d (.v (.int .u64 0)), .d (.v (.int .i64 0)), .d (.v (.slice none 0 0)), .d (.v (.int .u64 0)), .d (.v (.int .i64 0)), .d (.v (.bool false))], none, 0⟩])
 (.seq (.reg false [⟨some 6, .ld 33 true (.t 4), none, 0⟩,
   ⟨some 7, .ld 1 false (.t 2), none, 0⟩,
   ⟨some 8, .call (.c (.fn (.func 138) [] [])) [.t 6, .t 7], none, 0⟩,
   ⟨none, .st 33 (.t 5) (.t 8), none, 0⟩])
 (.ret))⟩
theorem c1164 : coF Tryz.prog Tryz.f137 = some C1164 := by kernel_rfl
def A1164 : Ann := { keep := [1, 2, 4, 5], live := [] }
def E1164 {Ω : Type} : Env Ω := econs 138 S1165 (enil)
theorem e1164 : GoodE Tryz.prog E1164 := GoodE.cons g1165 (GoodE.nil)
def S1164 {Ω : Type} : Spec Ω := inl E1164 A1164 C1164 false
theorem g1164 : Good1 Tryz.prog 137 S1164 := Good1.inl e1164 mix Tryz.func137 (by kernel_rfl) c1164 A1164 false
/-- coatcheck/work.with -/
def C1151 : CF := ⟨1, [(2, none)],
 .seq (.reg false [⟨some 1, .box 29 1 (.t 0), none, 0⟩,
   ⟨some 2, .mv (.c (.d (.v (.nilFunc)))), none, 0⟩])
 (.seq (.reg false [⟨some 3, .mkf (.func 137) [] [.t 1], none, 0⟩,
   ⟨some 2, .mv (.t 3), none, 0⟩])
 (.ret))⟩
theorem c1151 : coF Tryz.prog Tryz.f97 = some C1151 := by kernel_rfl
def A1151 : Ann := { keep := [0, 1, 2], live := [] }
def E1151 {Ω : Type} : Env Ω := econs 137 S1164 (enil)
theorem e1151 : GoodE Tryz.prog E1151 := GoodE.cons g1164 (GoodE.nil)
def S1151 {Ω : Type} : Spec Ω := inl E1151 A1151 C1151 false
theorem g1151 : Good1 Tryz.prog 97 S1151 := Good1.inl e1151 mix Tryz.func97 (by kernel_rfl) c1151 A1151 false
/-- coatcheck/work.back -/
def C1152 : CF := ⟨2, [(4, some (33, true))],
 .seq (.reg false [⟨some 3, .box 56 33 (.t 1), none, 0⟩,
   ⟨some 4, .newc 56 [.d (.v (.int .i64 0)), .d (.v (.int .i64 0)), .d (.v (.int .u64 0)), .d (.v (.int .u64 0)), .d (.v (.int .i64 0)), .d (.v (.bool false)), .d (.v (.int .i64 0)), .d (.v (.int .i64 0)), .d (.v (.bool false)), .d (.v (.int .u64 0)), .d (.v (.slice none 0 0)), .d (.v (.int .u64 0)), .d (.v (.slice none 0 0)), .d (.v (.int .u64 0)), .d (.v (.slice none 0 0)), .d (.v (.int .u64 0)), .d (.v (.slice none 0 0)), .d (.v (.slice none 0 0)), .d (.v (.int .i64 0)), .d (.v (.int .i64 0)), .d (.v (.int .i64 0)), .d (.v (.int .i64 0)), .d (.v (.int .i64 0)), .d (.v (.int .u64 0)), .d (.v (.int .u64 0)), .d (.v (.int .u64 0)), .d (.v (.int .u64 0)), .d (.v (.int .u64 0)), .d (.v (.int .i64 0)), .d (.v (.slice none 0 0)), .d (.v (.int .u64 0)), .d (.v (.int .i64 0)), .d (.v (.bool false))], none, 0⟩])
 (.seq (.reg false [⟨some 5, .ld 33 true (.t 3), none, 0⟩,
   ⟨some 6, .call (.c (.fn (.func 78) [] [])) [.t 5], none, 0⟩,
   ⟨none, .st 33 (.t 4) (.t 6), none, 0⟩])
 (.ret))⟩
theorem c1152 : coF Tryz.prog Tryz.f99 = some C1152 := by kernel_rfl
def A1152 : Ann := { keep := [1, 3, 4], live := [] }
def E1152 {Ω : Type} : Env Ω := econs 78 S1139 (enil)
theorem e1152 : GoodE Tryz.prog E1152 := GoodE.cons g1139 (GoodE.nil)
def S1152 {Ω : Type} : Spec Ω := inl E1152 A1152 C1152 false
theorem g1152 : Good1 Tryz.prog 99 S1152 := Good1.inl e1152 mix Tryz.func99 (by kernel_rfl) c1152 A1152 false
/-- coatcheck/work.room$1 -/
def C1166 : CF := ⟨3, [(5, some (33, true))],
 .seq (.reg false [⟨some 4, .box 56 33 (.t 1), none, 0⟩,
   ⟨some 5, .newc 56 [.d (.v (.int .i64 0)), .d (.v (.int .i64 0)), .d (.v (.int .u64 0)), .d (.v (.int .u64 0)), .d (.v (.int .i64 0)), .d (.v (.bool false)), .d (.v (.int .i64 0)), .d (.v (.int .i64 0)), .d (.v (.bool false)), .d (.v (.int .u64 0)), .d (.v (.slice none 0 0)), .d (.v (.int .u64 0)), .d (.v (.slice none 0 0)), .d (.v (.int .u64 0)), .d (.v (.slice none 0 0)), .d (.v (.int .u64 0)), .d (.v (.slice none 0 0)), .d (.v (.slice none 0 0)), .d (.v (.int .i64 0)), .d (.v (.int .i64 0)), .d (.v (.int .i64 0)), .d (.v (.int .i64 0)), .d (.v (.int .i64 0)), .d (.v (.int .u64 0)), .d (.v (.int .u64 0)), .d (.v (.int .u64 0)), .d (.v (.int .u64 0)), .d (.v (.int .u64 0)), .d (.v (.int .i64 0)), .d (.v (.slice none 0 0)), .d (.v (.int .u64 0)), .d (.v (.int .i64 0)), .d (.v (.bool false))], none, 0⟩])
 (.seq (.reg true [⟨some 8, .mv (.t 0), none, 0⟩,
   ⟨some 9, .nilc (.t 8), none, 1⟩,
   ⟨some 10, .fa 0 (.t 9), none, 3⟩,
   ⟨some 11, .fa 0 (.t 10), none, 7⟩,
   ⟨some 12, .ld 8 true (.t 11), none, 15⟩,
   ⟨some 13, .ld 33 true (.t 4), none, 0⟩,
   ⟨some 14, .call (.c (.fn (.func 145) [] [])) [.t 12, .t 13], none, 63⟩,
   ⟨some 7, .mv (.t 14), none, 127⟩,
   ⟨some 15, .ext 0 (.t 7), none, 255⟩,
   ⟨some 16, .ext 1 (.t 7), none, 255⟩,
   ⟨none, .st 33 (.t 4) (.t 15), none, 511⟩,
   ⟨some 6, .mv (.t 16), none, 2047⟩])
 (.seq (.seq (.reg false [⟨some 17, .mv (.t 6), none, 0⟩,
   ⟨some 18, .un .not (.t 17), none, 0⟩])
 (.cond 18 (.seq (.reg false [⟨some 19, .ld 33 true (.t 4), none, 0⟩,
     ⟨some 20, .call (.c (.fn (.func 138) [] [])) [.t 19, .c (.d (.v (.int .i64 6)))], none, 0⟩,
     ⟨none, .st 33 (.t 5) (.t 20), none, 0⟩])
   (.ret))
   (.skip)))
 (.seq (.reg false [⟨some 21, .ld 1 false (.t 2), none, 0⟩,
   ⟨some 22, .fa 0 (.t 4), none, 0⟩,
   ⟨none, .st 1 (.t 22) (.t 21), none, 0⟩])
 (.seq (.reg false [⟨some 23, .ld 33 true (.t 4), none, 0⟩,
   ⟨none, .st 33 (.t 5) (.t 23), none, 0⟩])
 (.ret)))))⟩
theorem c1166 : coF Tryz.prog Tryz.f144 = some C1166 := by kernel_rfl
def A1166 : Ann := { keep := [0, 1, 2, 4, 5, 6, 18], live := [] }
def E1166 {Ω : Type} : Env Ω := econs 138 S1165 (econs 145 S1167 (enil))
theorem e1166 : GoodE Tryz.prog E1166 := GoodE.cons g1165 (GoodE.cons g1167 (GoodE.nil))
def S1166 {Ω : Type} : Spec Ω := inl E1166 A1166 C1166 false
theorem g1166 : Good1 Tryz.prog 144 S1166 := Good1.inl e1166 mix Tryz.func144 (by kernel_rfl) c1166 A1166 false
/-- coatcheck/work.room -/
def C1153 : CF := ⟨1, [(2, none)],
 .seq (.reg false [⟨some 1, .box 3 1 (.t 0), none, 0⟩,
   ⟨some 2, .mv (.c (.d (.v (.nilFunc)))), none, 0⟩])
 (.seq (.reg false [⟨some 3, .mkf (.func 144) [] [.t 1], none, 0⟩,
   ⟨some 2, .mv (.t 3), none, 0⟩])
 (.ret))⟩
theorem c1153 : coF Tryz.prog Tryz.f100 = some C1153 := by kernel_rfl
def A1153 : Ann := { keep := [0, 1, 2], live := [] }
def E1153 {Ω : Type} : Env Ω := econs 144 S1166 (enil)
theorem e1153 : GoodE Tryz.prog E1153 := GoodE.cons g1166 (GoodE.nil)
def S1153 {Ω : Type} : Spec Ω := inl E1153 A1153 C1153 false
theorem g1153 : Good1 Tryz.prog 100 S1153 := Good1.inl e1153 mix Tryz.func100 (by kernel_rfl) c1153 A1153 false
def K1154_1 : CC := .seq (.reg false [⟨some 18, .fa 21 (.t 3), none, 0⟩,
   ⟨none, .st 1 (.t 18) (.c (.d (.v (.int .i64 0)))), none, 0⟩])
 (.seq (.seq (.reg false [⟨some 19, .fa 20 (.t 3), none, 0⟩,
   ⟨some 20, .ld 1 false (.t 19), none, 0⟩,
   ⟨some 21, .eq .int true (.t 20) (.c (.d (.v (.int .i64 0)))), none, 0⟩])
 (.cond 21 (.seq (.reg false [⟨some 22, .fa 0 (.t 3), none, 0⟩,
     ⟨none, .st 1 (.t 22) (.c (.d (.v (.int .i64 23)))), none, 0⟩])
   (.seq (.reg false [⟨some 23, .ld 33 true (.t 3), none, 0⟩,
     ⟨none, .st 33 (.t 4) (.t 23), none, 0⟩])
   (.ret)))
   (.skip)))
 (.seq (.reg false [⟨some 24, .ld 33 true (.t 3), none, 0⟩,
   ⟨some 25, .call (.c (.fn (.func 78) [] [])) [.t 24], none, 0⟩,
   ⟨none, .st 33 (.t 4) (.t 25), none, 0⟩])
 (.ret)))
def K1154_2 : CC := .reg true [⟨some 6, .mv (.t 0), none, 0⟩,
   ⟨some 7, .nilc (.t 6), none, 1⟩,
   ⟨some 8, .fa 0 (.t 7), none, 3⟩,
   ⟨some 9, .fa 0 (.t 8), none, 7⟩,
   ⟨some 10, .ld 8 true (.t 9), none, 15⟩,
   ⟨some 11, .ld 33 true (.t 3), none, 0⟩,
   ⟨some 12, .fa 21 (.t 3), none, 0⟩,
   ⟨some 13, .ld 1 false (.t 12), none, 64⟩,
   ⟨some 14, .bin .sub (.t 13) (.c (.d (.v (.int .i64 1)))), none, 192⟩,
   ⟨some 15, .call (.c (.fn (.func 146) [] [])) [.t 10, .t 11, .t 14], none, 511⟩,
   ⟨some 5, .mv (.t 15), none, 1023⟩,
   ⟨some 16, .ext 0 (.t 5), none, 2047⟩,
   ⟨some 17, .ext 1 (.t 5), none, 2047⟩,
   ⟨none, .st 33 (.t 3) (.t 16), none, 4095⟩]
def K1154_3 : CC := .reg false [⟨some 3, .box 56 33 (.t 1), none, 0⟩,
   ⟨some 4, .newc 56 [.d (.v (.int .i64 0)), .d (.v (.int .i64 0)), .d (.v (.int .u64 0)), .d (.v (.int .u64 0)), .d (.v (.int .i64 0)), .d (.v (.bool false)), .d (.v (.int .i64 0)), .d (.v (.int .i64 0)), .d (.v (.bool false)), .d (.v (.int .u64 0)), .d (.v (.slice none 0 0)), .d (.v (.int .u64 0)), .d (.v (.slice none 0 0)), .d (.v (.int .u64 0)), .d (.v (.slice none 0 0)), .d (.v (.int .u64 0)), .d (.v (.slice none 0 0)), .d (.v (.slice none 0 0)), .d (.v (.int .i64 0)), .d (.v (.int .i64 0)), .d (.v (.int .i64 0)), .d (.v (.int .i64 0)), .d (.v (.int .i64 0)), .d (.v (.int .u64 0)), .d (.v (.int .u64 0)), .d (.v (.int .u64 0)), .d (.v (.int .u64 0)), .d (.v (.int .u64 0)), .d (.v (.int .i64 0)), .d (.v (.slice none 0 0)), .d (.v (.int .u64 0)), .d (.v (.int .i64 0)), .d (.v (.bool false))], none, 0⟩]
/-- coatcheck/work.killed -/
def C1154 : CF := ⟨2, [(4, some (33, true))],
 .seq K1154_3 (.seq K1154_2 K1154_1)⟩
theorem c1154 : coF Tryz.prog Tryz.f101 = some C1154 := by kernel_rfl
def A1154 : Ann := { keep := [0, 1, 3, 4, 21], live := [] }
def E1154 {Ω : Type} : Env Ω := econs 78 S1139 (econs 146 S1168 (enil))
theorem e1154 : GoodE Tryz.prog E1154 := GoodE.cons g1139 (GoodE.cons g1168 (GoodE.nil))
def S1154 {Ω : Type} : Spec Ω := inl E1154 A1154 C1154 false
theorem g1154 : Good1 Tryz.prog 101 S1154 := Good1.inl e1154 mix Tryz.func101 (by kernel_rfl) c1154 A1154 false
/-- coatcheck/work.again -/
def C1155 : CF := ⟨2, [(4, some (33, true))],
 .seq (.reg false [⟨some 3, .box 56 33 (.t 1), none, 0⟩,
   ⟨some 4, .newc 56 [.d (.v (.int .i64 0)), .d (.v (.int .i64 0)), .d (.v (.int .u64 0)), .d (.v (.int .u64 0)), .d (.v (.int .i64 0)), .d (.v (.bool false)), .d (.v (.int .i64 0)), .d (.v (.int .i64 0)), .d (.v (.bool false)), .d (.v (.int .u64 0)), .d (.v (.slice none 0 0)), .d (.v (.int .u64 0)), .d (.v (.slice none 0 0)), .d (.v (.int .u64 0)), .d (.v (.slice none 0 0)), .d (.v (.int .u64 0)), .d (.v (.slice none 0 0)), .d (.v (.slice none 0 0)), .d (.v (.int .i64 0)), .d (.v (.int .i64 0)), .d (.v (.int .i64 0)), .d (.v (.int .i64 0)), .d (.v (.int .i64 0)), .d (.v (.int .u64 0)), .d (.v (.int .u64 0)), .d (.v (.int .u64 0)), .d (.v (.int .u64 0)), .d (.v (.int .u64 0)), .d (.v (.int .i64 0)), .d (.v (.slice none 0 0)), .d (.v (.int .u64 0)), .d (.v (.int .i64 0)), .d (.v (.bool false))], none, 0⟩])
 (.seq (.reg false [⟨some 5, .ld 33 true (.t 3), none, 0⟩,
   ⟨some 6, .call (.c (.fn (.func 109) [] [])) [.t 5], none, 0⟩,
   ⟨none, .st 33 (.t 4) (.t 6), none, 0⟩])
 (.ret))⟩
theorem c1155 : coF Tryz.prog Tryz.f102 = some C1155 := by kernel_rfl
def A1155 : Ann := { keep := [1, 3, 4], live := [] }
def E1155 {Ω : Type} : Env Ω := econs 109 S1077 (enil)
theorem e1155 : GoodE Tryz.prog E1155 := GoodE.cons g1077 (GoodE.nil)
def S1155 {Ω : Type} : Spec Ω := inl E1155 A1155 C1155 false
theorem g1155 : Good1 Tryz.prog 102 S1155 := Good1.inl e1155 mix Tryz.func102 (by kernel_rfl) c1155 A1155 false
/-- coatcheck/work.swapped -/
def C1156 : CF := ⟨2, [(4, some (33, true))],
 .seq (.reg false [⟨some 3, .box 56 33 (.t 1), none, 0⟩,
   ⟨some 4, .newc 56 [.d (.v (.int .i64 0)), .d (.v (.int .i64 0)), .d (.v (.int .u64 0)), .d (.v (.int .u64 0)), .d (.v (.int .i64 0)), .d (.v (.bool false)), .d (.v (.int .i64 0)), .d (.v (.int .i64 0)), .d (.v (.bool false)), .d (.v (.int .u64 0)), .d (.v (.slice none 0 0)), .d (.v (.int .u64 0)), .d (.v (.slice none 0 0)), .d (.v (.int .u64 0)), .d (.v (.slice none 0 0)), .d (.v (.int .u64 0)), .d (.v (.slice none 0 0)), .d (.v (.slice none 0 0)), .d (.v (.int .i64 0)), .d (.v (.int .i64 0)), .d (.v (.int .i64 0)), .d (.v (.int .i64 0)), .d (.v (.int .i64 0)), .d (.v (.int .u64 0)), .d (.v (.int .u64 0)), .d (.v (.int .u64 0)), .d (.v (.int .u64 0)), .d (.v (.int .u64 0)), .d (.v (.int .i64 0)), .d (.v (.slice none 0 0)), .d (.v (.int .u64 0)), .d (.v (.int .i64 0)), .d (.v (.bool false))], none, 0⟩])
 (.seq (.reg true [⟨some 6, .mv (.t 0), none, 0⟩,
   ⟨some 7, .nilc (.t 6), none, 1⟩,
   ⟨some 8, .fa 0 (.t 7), none, 3⟩,
   ⟨some 9, .fa 0 (.t 8), none, 7⟩,
   ⟨some 10, .ld 8 true (.t 9), none, 15⟩,
   ⟨some 11, .ld 33 true (.t 3), none, 0⟩,
   ⟨some 12, .fa 21 (.t 3), none, 0⟩,
   ⟨some 13, .ld 1 false (.t 12), none, 64⟩,
   ⟨some 14, .bin .sub (.t 13) (.c (.d (.v (.int .i64 1)))), none, 192⟩,
   ⟨some 15, .call (.c (.fn (.func 146) [] [])) [.t 10, .t 11, .t 14], none, 511⟩,
   ⟨some 5, .mv (.t 15), none, 1023⟩,
   ⟨some 16, .ext 0 (.t 5), none, 2047⟩,
   ⟨some 17, .ext 1 (.t 5), none, 2047⟩,
   ⟨none, .st 33 (.t 3) (.t 16), none, 4095⟩])
 (.seq (.reg false [⟨some 18, .fa 21 (.t 3), none, 0⟩,
   ⟨none, .st 1 (.t 18) (.c (.d (.v (.int .i64 0)))), none, 0⟩])
 (.seq (.reg false [⟨some 19, .ld 33 true (.t 3), none, 0⟩,
   ⟨some 20, .call (.c (.fn (.func 78) [] [])) [.t 19], none, 0⟩,
   ⟨none, .st 33 (.t 4) (.t 20), none, 0⟩])
 (.ret))))⟩
theorem c1156 : coF Tryz.prog Tryz.f103 = some C1156 := by kernel_rfl
def A1156 : Ann := { keep := [0, 1, 3, 4], live := [] }
def E1156 {Ω : Type} : Env Ω := econs 78 S1139 (econs 146 S1168 (enil))
theorem e1156 : GoodE Tryz.prog E1156 := GoodE.cons g1139 (GoodE.cons g1168 (GoodE.nil))
def S1156 {Ω : Type} : Spec Ω := inl E1156 A1156 C1156 false
theorem g1156 : Good1 Tryz.prog 103 S1156 := Good1.inl e1156 mix Tryz.func103 (by kernel_rfl) c1156 A1156 false
def L1142_1 : CC := .seq (.reg false [⟨some 10, .bin .lss (.t 9) (.t 8), none, 0⟩])
 (.seq (.cond 10 (.skip)
   (.exit 0))
 (.seq (.block 1 (.seq (.reg false [⟨some 11, .ixs 1 (.t 7) (.t 9), none, 0⟩,
     ⟨some 12, .ld 1 false (.t 11), none, 0⟩,
     ⟨some 6, .mv (.t 12), none, 0⟩])
   (.reg false [⟨some 13, .ld 1 false (.t 2), none, 0⟩,
     ⟨some 14, .mv (.t 6), none, 0⟩,
     ⟨some 15, .ld 3 true (.t 3), none, 0⟩,
     ⟨none, .upd 0 (.t 13) (.t 14) (.t 15), none, 0⟩])))
 (.reg false [⟨some 16, .bin .add (.t 9) (.c (.d (.v (.int .i64 1)))), none, 0⟩,
   ⟨some 9, .mv (.t 16), none, 0⟩])))
def K1142_2 : CC := .reg false [⟨some 7, .mv (.t 1), none, 0⟩,
   ⟨some 8, .len (.t 7), none, 0⟩,
   ⟨some 9, .mv (.c (.d (.v (.int .i64 0)))), none, 0⟩]
def K1142_3 : CC := .reg false [⟨some 3, .box 114 3 (.t 0), none, 0⟩]
/-- coatcheck/work.table$1 -/
def C1142 : CF := ⟨3, [],
 .seq K1142_3 (.seq K1142_2 (.block 0 (.loop L1142_1)))⟩
theorem c1142 : coF Tryz.prog Tryz.f84 = some C1142 := by kernel_rfl
def A1142 : Ann := { keep := [0, 1, 2, 3, 6, 7, 8, 9, 10], live := [(0, [2, 3, 7, 8, 9])] }
def E1142 {Ω : Type} : Env Ω := enil
theorem e1142 : GoodE Tryz.prog E1142 := GoodE.nil
def S1142 {Ω : Type} : Spec Ω := inl E1142 A1142 C1142 false
theorem g1142 : Good1 Tryz.prog 84 S1142 := Good1.inl e1142 mix Tryz.func84 (by kernel_rfl) c1142 A1142 false
def K1136_1 : CC := .seq (.reg false [⟨some 73, .mv (.t 4), none, 0⟩,
   ⟨some 74, .call (.c (.fn (.func 89) [] [])) [.c (.fn (.func 98) [] [])], none, 0⟩,
   ⟨some 75, .call (.c (.fn (.func 100) [] [])) [.c (.d (.v (.int .i64 45)))], none, 0⟩,
   ⟨some 76, .call (.c (.fn (.func 97) [] [])) [.c (.d (.v (.int .i64 7)))], none, 0⟩,
   ⟨some 77, .bld [.d (.v (.nilFunc)), .d (.v (.nilFunc)), .d (.v (.nilFunc))] [(0, 1, .t 74), (1, 1, .t 75), (2, 1, .t 76)], none, 0⟩,
   ⟨some 78, .bsl 3 1 1 [.d (.v (.int .i64 0))] [(0, 1, .c (.d (.v (.int .i64 44))))], none, 0⟩,
   ⟨some 79, .call (.t 73) [.t 77, .t 78], none, 0⟩])
 (.seq (.reg false [⟨some 80, .mv (.t 4), none, 0⟩,
   ⟨some 81, .call (.c (.fn (.func 89) [] [])) [.c (.fn (.func 98) [] [])], none, 0⟩,
   ⟨some 82, .bld [.d (.v (.nilFunc)), .d (.v (.nilFunc)), .d (.v (.nilFunc))] [(0, 1, .t 81), (1, 1, .c (.fn (.func 103) [] [])), (2, 1, .c (.fn (.func 103) [] []))], none, 0⟩,
   ⟨some 83, .bsl 3 1 1 [.d (.v (.int .i64 0))] [(0, 1, .c (.d (.v (.int .i64 45))))], none, 0⟩,
   ⟨some 84, .call (.t 80) [.t 82, .t 83], none, 0⟩])
 (.seq (.reg false [⟨some 85, .mv (.t 4), none, 0⟩,
   ⟨some 86, .call (.c (.fn (.func 89) [] [])) [.c (.fn (.func 98) [] [])], none, 0⟩,
   ⟨some 87, .call (.c (.fn (.func 96) [] [])) [.c (.d (.v (.int .i64 61)))], none, 0⟩,
   ⟨some 88, .call (.c (.fn (.func 97) [] [])) [.c (.d (.v (.int .i64 7)))], none, 0⟩,
   ⟨some 89, .bld [.d (.v (.nilFunc)), .d (.v (.nilFunc)), .d (.v (.nilFunc))] [(0, 1, .t 86), (1, 1, .t 87), (2, 1, .t 88)], none, 0⟩,
   ⟨some 90, .bsl 3 1 1 [.d (.v (.int .i64 0))] [(0, 1, .c (.d (.v (.int .i64 60))))], none, 0⟩,
   ⟨some 91, .call (.t 85) [.t 89, .t 90], none, 0⟩])
 (.seq (.reg false [⟨some 92, .ld 1 false (.t 3), none, 0⟩,
   ⟨some 2, .mv (.t 92), none, 0⟩])
 (.ret))))
def K1136_2 : CC := .reg false [⟨some 67, .mv (.t 4), none, 0⟩,
   ⟨some 68, .call (.c (.fn (.func 89) [] [])) [.c (.fn (.func 98) [] [])], none, 0⟩,
   ⟨some 69, .call (.c (.fn (.func 97) [] [])) [.c (.d (.v (.int .i64 7)))], none, 0⟩,
   ⟨some 70, .bld [.d (.v (.nilFunc)), .d (.v (.nilFunc)), .d (.v (.nilFunc))] [(0, 1, .t 68), (1, 1, .c (.fn (.func 102) [] [])), (2, 1, .t 69)], none, 0⟩,
   ⟨some 71, .bsl 3 1 1 [.d (.v (.int .i64 0))] [(0, 1, .c (.d (.v (.int .i64 46))))], none, 0⟩,
   ⟨some 72, .call (.t 67) [.t 70, .t 71], none, 0⟩]
def K1136_3 : CC := .reg false [⟨some 62, .mv (.t 4), none, 0⟩,
   ⟨some 63, .call (.c (.fn (.func 89) [] [])) [.c (.fn (.func 98) [] [])], none, 0⟩,
   ⟨some 64, .bld [.d (.v (.nilFunc)), .d (.v (.nilFunc)), .d (.v (.nilFunc))] [(0, 1, .t 63), (1, 1, .c (.fn (.func 101) [] [])), (2, 1, .c (.fn (.func 101) [] []))], none, 0⟩,
   ⟨some 65, .bsl 3 1 1 [.d (.v (.int .i64 0))] [(0, 1, .c (.d (.v (.int .i64 43))))], none, 0⟩,
   ⟨some 66, .call (.t 62) [.t 64, .t 65], none, 0⟩]
def K1136_4 : CC := .reg false [⟨some 55, .mv (.t 4), none, 0⟩,
   ⟨some 56, .call (.c (.fn (.func 89) [] [])) [.c (.fn (.func 98) [] [])], none, 0⟩,
   ⟨some 57, .call (.c (.fn (.func 100) [] [])) [.c (.d (.v (.int .i64 43)))], none, 0⟩,
   ⟨some 58, .call (.c (.fn (.func 97) [] [])) [.c (.d (.v (.int .i64 7)))], none, 0⟩,
   ⟨some 59, .bld [.d (.v (.nilFunc)), .d (.v (.nilFunc)), .d (.v (.nilFunc))] [(0, 1, .t 56), (1, 1, .t 57), (2, 1, .t 58)], none, 0⟩,
   ⟨some 60, .bsl 3 1 1 [.d (.v (.int .i64 0))] [(0, 1, .c (.d (.v (.int .i64 42))))], none, 0⟩,
   ⟨some 61, .call (.t 55) [.t 59, .t 60], none, 0⟩]
def K1136_5 : CC := .reg false [⟨some 50, .mv (.t 4), none, 0⟩,
   ⟨some 51, .call (.c (.fn (.func 89) [] [])) [.c (.fn (.func 98) [] [])], none, 0⟩,
   ⟨some 52, .bld [.d (.v (.nilFunc)), .d (.v (.nilFunc)), .d (.v (.nilFunc))] [(0, 1, .t 51), (1, 1, .c (.fn (.func 99) [] [])), (2, 1, .c (.fn (.func 99) [] []))], none, 0⟩,
   ⟨some 53, .bsl 3 1 3 [.d (.v (.int .i64 0))] [(0, 1, .c (.d (.v (.int .i64 23)))), (1, 1, .c (.d (.v (.int .i64 24)))), (2, 1, .c (.d (.v (.int .i64 25))))], none, 0⟩,
   ⟨some 54, .call (.t 50) [.t 52, .t 53], none, 0⟩]
def K1136_6 : CC := .reg false [⟨some 44, .mv (.t 4), none, 0⟩,
   ⟨some 45, .call (.c (.fn (.func 89) [] [])) [.c (.fn (.func 98) [] [])], none, 0⟩,
   ⟨some 46, .call (.c (.fn (.func 97) [] [])) [.c (.d (.v (.int .i64 5)))], none, 0⟩,
   ⟨some 47, .bld [.d (.v (.nilFunc)), .d (.v (.nilFunc)), .d (.v (.nilFunc))] [(0, 1, .t 45), (1, 1, .c (.fn (.func 99) [] [])), (2, 1, .t 46)], none, 0⟩,
   ⟨some 48, .bsl 3 1 5 [.d (.v (.int .i64 0))] [(0, 1, .c (.d (.v (.int .i64 20)))), (1, 1, .c (.d (.v (.int .i64 21)))), (2, 1, .c (.d (.v (.int .i64 22)))), (3, 1, .c (.d (.v (.int .i64 40)))), (4, 1, .c (.d (.v (.int .i64 41))))], none, 0⟩,
   ⟨some 49, .call (.t 44) [.t 47, .t 48], none, 0⟩]
def K1136_7 : CC := .seq (.reg false [⟨some 29, .mv (.t 0), none, 0⟩])
 (.cond 29 (.seq (.reg false [⟨some 5, .mv (.c (.fn (.func 92) [] [])), none, 0⟩])
   (.reg false [⟨some 30, .mv (.t 4), none, 0⟩,
     ⟨some 31, .call (.c (.fn (.func 89) [] [])) [.c (.fn (.func 94) [] [])], none, 0⟩,
     ⟨some 32, .mv (.t 5), none, 0⟩,
     ⟨some 33, .mv (.t 5), none, 0⟩,
     ⟨some 34, .bld [.d (.v (.nilFunc)), .d (.v (.nilFunc)), .d (.v (.nilFunc))] [(0, 1, .t 31), (1, 1, .t 32), (2, 1, .t 33)], none, 0⟩,
     ⟨some 35, .bsl 3 1 7 [.d (.v (.int .i64 0))] [(0, 1, .c (.d (.v (.int .i64 13)))), (1, 1, .c (.d (.v (.int .i64 14)))), (2, 1, .c (.d (.v (.int .i64 15)))), (3, 1, .c (.d (.v (.int .i64 30)))), (4, 1, .c (.d (.v (.int .i64 31)))), (5, 1, .c (.d (.v (.int .i64 32)))), (6, 1, .c (.d (.v (.int .i64 39))))], none, 0⟩,
     ⟨some 36, .call (.t 30) [.t 34, .t 35], none, 0⟩]))
   (.reg false [⟨some 37, .mv (.t 4), none, 0⟩,
     ⟨some 38, .call (.c (.fn (.func 89) [] [])) [.c (.fn (.func 95) [] [])], none, 0⟩,
     ⟨some 39, .call (.c (.fn (.func 96) [] [])) [.c (.d (.v (.int .i64 50)))], none, 0⟩,
     ⟨some 40, .call (.c (.fn (.func 97) [] [])) [.c (.d (.v (.int .i64 5)))], none, 0⟩,
     ⟨some 41, .bld [.d (.v (.nilFunc)), .d (.v (.nilFunc)), .d (.v (.nilFunc))] [(0, 1, .t 38), (1, 1, .t 39), (2, 1, .t 40)], none, 0⟩,
     ⟨some 42, .bsl 3 1 10 [.d (.v (.int .i64 0))] [(0, 1, .c (.d (.v (.int .i64 10)))), (1, 1, .c (.d (.v (.int .i64 11)))), (2, 1, .c (.d (.v (.int .i64 12)))), (3, 1, .c (.d (.v (.int .i64 30)))), (4, 1, .c (.d (.v (.int .i64 31)))), (5, 1, .c (.d (.v (.int .i64 32)))), (6, 1, .c (.d (.v (.int .i64 33)))), (7, 1, .c (.d (.v (.int .i64 34)))), (8, 1, .c (.d (.v (.int .i64 35)))), (9, 1, .c (.d (.v (.int .i64 38))))], none, 0⟩,
     ⟨some 43, .call (.t 37) [.t 41, .t 42], none, 0⟩]))
def K1136_8 : CC := .reg false [⟨some 22, .mv (.t 4), none, 0⟩,
   ⟨some 23, .call (.c (.fn (.func 89) [] [])) [.c (.fn (.func 90) [] [])], none, 0⟩,
   ⟨some 24, .call (.c (.fn (.func 91) [] [])) [.c (.d (.v (.int .i64 0)))], none, 0⟩,
   ⟨some 25, .call (.c (.fn (.func 91) [] [])) [.c (.d (.v (.int .i64 9)))], none, 0⟩,
   ⟨some 26, .bld [.d (.v (.nilFunc)), .d (.v (.nilFunc)), .d (.v (.nilFunc))] [(0, 1, .t 23), (1, 1, .t 24), (2, 1, .t 25)], none, 0⟩,
   ⟨some 27, .bsl 3 1 2 [.d (.v (.int .i64 0))] [(0, 1, .c (.d (.v (.int .i64 36)))), (1, 1, .c (.d (.v (.int .i64 37))))], none, 0⟩,
   ⟨some 28, .call (.t 22) [.t 26, .t 27], none, 0⟩]
def K1136_9 : CC := .reg false [⟨some 16, .mv (.t 4), none, 0⟩,
   ⟨some 17, .call (.c (.fn (.func 88) [] [])) [.c (.d (.v (.int .i64 73)))], none, 0⟩,
   ⟨some 18, .call (.c (.fn (.func 88) [] [])) [.c (.d (.v (.int .i64 73)))], none, 0⟩,
   ⟨some 19, .bld [.d (.v (.nilFunc)), .d (.v (.nilFunc)), .d (.v (.nilFunc))] [(0, 1, .c (.fn (.func 85) [] [])), (1, 1, .t 17), (2, 1, .t 18)], none, 0⟩,
   ⟨some 20, .bsl 3 1 3 [.d (.v (.int .i64 0))] [(0, 1, .c (.d (.v (.int .i64 70)))), (1, 1, .c (.d (.v (.int .i64 71)))), (2, 1, .c (.d (.v (.int .i64 72))))], none, 0⟩,
   ⟨some 21, .call (.t 16) [.t 19, .t 20], none, 0⟩]
def K1136_10 : CC := .reg false [⟨some 12, .mv (.t 4), none, 0⟩,
   ⟨some 13, .bld [.d (.v (.nilFunc)), .d (.v (.nilFunc)), .d (.v (.nilFunc))] [(0, 1, .c (.fn (.func 85) [] [])), (1, 1, .c (.fn (.func 87) [] [])), (2, 1, .c (.fn (.func 87) [] []))], none, 0⟩,
   ⟨some 14, .bsl 3 1 1 [.d (.v (.int .i64 0))] [(0, 1, .c (.d (.v (.int .i64 90))))], none, 0⟩,
   ⟨some 15, .call (.t 12) [.t 13, .t 14], none, 0⟩]
def K1136_11 : CC := .reg false [⟨some 8, .mv (.t 4), none, 0⟩,
   ⟨some 9, .bld [.d (.v (.nilFunc)), .d (.v (.nilFunc)), .d (.v (.nilFunc))] [(0, 1, .c (.fn (.func 85) [] [])), (1, 1, .c (.fn (.func 86) [] [])), (2, 1, .c (.fn (.func 86) [] []))], none, 0⟩,
   ⟨some 10, .bsl 3 1 3 [.d (.v (.int .i64 0))] [(0, 1, .c (.d (.v (.int .i64 1)))), (1, 1, .c (.d (.v (.int .i64 2)))), (2, 1, .c (.d (.v (.int .i64 3))))], none, 0⟩,
   ⟨some 11, .call (.t 8) [.t 9, .t 10], none, 0⟩]
def K1136_12 : CC := .reg false [⟨some 7, .mkf (.func 84) [] [.t 3], none, 0⟩,
   ⟨some 4, .mv (.t 7), none, 0⟩]
def K1136_13 : CC := .reg false [⟨some 6, .mkm, none, 0⟩,
   ⟨some 3, .newc 116 [.d (.v (.map none))], none, 0⟩,
   ⟨none, .st 1 (.t 3) (.t 6), none, 0⟩]
def K1136_14 : CC := .reg false [⟨some 2, .mv (.c (.d (.v (.map none)))), none, 0⟩]
/-- coatcheck/work.table -/
def C1136 : CF := ⟨1, [(2, none)],
 .seq K1136_14 (.seq K1136_13 (.seq K1136_12 (.seq K1136_11 (.seq K1136_10 (.seq K1136_9 (.seq K1136_8 (.seq K1136_7 (.seq K1136_6 (.seq K1136_5 (.seq K1136_4 (.seq K1136_3 (.seq K1136_2 K1136_1))))))))))))⟩
theorem c1136 : coF Tryz.prog Tryz.f61 = some C1136 := by kernel_rfl
def A1136 : Ann := { keep := [0, 2, 3, 4, 5, 29], live := [] }
def E1136 {Ω : Type} : Env Ω := econs 84 S1142 (econs 85 S54i (econs 86 S1143 (econs 87 S1144 (econs 88 S1145 (econs 89 S1146 (econs 90 S61i (econs 91 S1147 (econs 92 S1148 (econs 94 S1039 (econs 95 S1078 (econs 96 S1150 (econs 97 S1151 (econs 98 S1029i (econs 99 S1152 (econs 100 S1153 (econs 101 S1154 (econs 102 S1155 (econs 103 S1156 (enil)))))))))))))))))))
theorem e1136 : GoodE Tryz.prog E1136 := GoodE.cons g1142 (GoodE.cons g54i (GoodE.cons g1143 (GoodE.cons g1144 (GoodE.cons g1145 (GoodE.cons g1146 (GoodE.cons g61i (GoodE.cons g1147 (GoodE.cons g1148 (GoodE.cons g1039 (GoodE.cons g1078 (GoodE.cons g1150 (GoodE.cons g1151 (GoodE.cons g1029i (GoodE.cons g1152 (GoodE.cons g1153 (GoodE.cons g1154 (GoodE.cons g1155 (GoodE.cons g1156 (GoodE.nil)))))))))))))))))))
end Go.Sx.Pr
