/- Pieces of the code of functions, compiled for the symbolic interpreter, each checked against the program; no conditions. -/
import Derived.Test.YtpnnnklahanecaaQ4b
import Derived.Test.YtpnnnklahanecaaRows
import Derived.KernelRfl
set_option linter.unusedVariables false
set_option linter.unusedSimpArgs false
namespace Go.Sx.Pr
open Go Go.Sx Go.Proofs
set_option maxRecDepth 100000
def K11_1 : CC := .seq (.reg false [⟨some 4, .mv (.c (.d (.v (.bool true)))), none, 0⟩])
 (.ret)
def K11_2 : CC := .reg false [⟨some 49, .mv (.t 10), none, 0⟩,
   ⟨some 50, .bin .add (.t 49) (.c (.d (.v (.int .i64 1)))), none, 0⟩,
   ⟨some 10, .mv (.t 50), none, 0⟩]
def K11_3 : CC := .reg false [⟨some 117, .mv (.t 17), none, 0⟩,
   ⟨some 118, .bin .add (.t 117) (.c (.d (.v (.int .i64 1)))), none, 0⟩,
   ⟨some 17, .mv (.t 118), none, 0⟩]
def K11_4 : CC := .block 3 (.seq (.reg false [⟨some 119, .mv (.t 9), none, 0⟩,
     ⟨some 120, .mv (.t 17), none, 0⟩,
     ⟨some 121, .ixs 1 (.t 119) (.t 120), none, 0⟩,
     ⟨some 122, .ld 1 false (.t 121), none, 0⟩,
     ⟨some 123, .mv (.t 122), none, 0⟩,
     ⟨some 124, .mv (.t 16), some (123, true), 0⟩,
     ⟨some 125, .mv (.t 8), some (123, true), 0⟩,
     ⟨some 126, .mv (.t 17), some (123, true), 0⟩,
     ⟨some 127, .ixs 33 (.t 125) (.t 126), some (123, true), 0⟩,
     ⟨some 128, .fa 9 (.t 127), some (123, true), 0⟩,
     ⟨some 129, .ld 1 false (.t 128), some (123, true), 0⟩,
     ⟨some 130, .eq .int true (.t 124) (.t 129), some (123, true), 0⟩,
     ⟨some 131, .pick (.t 123) (.t 130) (.c (.d (.v (.bool false)))), none, 0⟩,
     ⟨some 132, .mv (.t 131), none, 0⟩,
     ⟨some 133, .mv (.t 16), some (132, true), 0⟩,
     ⟨some 134, .mv (.t 8), some (132, true), 0⟩,
     ⟨some 135, .mv (.t 17), some (132, true), 0⟩,
     ⟨some 136, .ixs 33 (.t 134) (.t 135), some (132, true), 0⟩,
     ⟨some 137, .fa 9 (.t 136), some (132, true), 0⟩,
     ⟨some 138, .ld 1 false (.t 137), some (132, true), 0⟩,
     ⟨some 139, .bin .add (.t 138) (.c (.d (.v (.int .u64 1)))), some (132, true), 0⟩,
     ⟨some 140, .eq .int true (.t 133) (.t 139), some (132, true), 0⟩,
     ⟨some 141, .pick (.t 132) (.t 140) (.c (.d (.v (.bool false)))), none, 0⟩])
   (.cond 141 (.seq (.reg false [⟨some 4, .mv (.c (.d (.v (.bool false)))), none, 0⟩])
     (.ret))
     (.skip)))
def K11_5 : CC := .seq (.reg false [⟨some 113, .mv (.t 17), none, 0⟩,
   ⟨some 114, .fa 0 (.t 5), none, 0⟩,
   ⟨some 115, .ld 1 false (.t 114), none, 0⟩,
   ⟨some 116, .bin .lss (.t 113) (.t 115), none, 0⟩])
 (.cond 116 (.skip)
   (.exit 2))
def L11_6 : CC := .seq K11_5 (.seq K11_4 K11_3)
def K11_7 : CC := .reg false [⟨some 17, .mv (.c (.d (.v (.int .i64 0)))), none, 0⟩]
def K11_8 : CC := .reg false [⟨some 111, .mv (.t 6), none, 0⟩,
   ⟨some 112, .call (.c (.fn (.func 30) [] [])) [.t 111, .c (.d (.v (.int .i64 0)))], none, 0⟩,
   ⟨some 16, .mv (.t 112), none, 0⟩]
def K11_9 : CC := .reg false [⟨some 107, .mv (.t 8), none, 0⟩,
   ⟨some 108, .mv (.t 11), none, 0⟩,
   ⟨some 109, .ld 33 true (.t 13), none, 0⟩,
   ⟨some 110, .ixs 33 (.t 107) (.t 108), none, 0⟩,
   ⟨none, .st 33 (.t 110) (.t 109), none, 0⟩]
def K11_10 : CC := .seq (.reg false [⟨some 97, .mv (.t 14), none, 0⟩,
   ⟨some 98, .eq .int false (.t 97) (.c (.d (.v (.int .i64 1)))), none, 0⟩,
   ⟨some 99, .mv (.t 98), none, 0⟩,
   ⟨some 100, .fa 0 (.t 12), some (99, true), 0⟩,
   ⟨some 101, .ld 1 false (.t 100), some (99, true), 0⟩,
   ⟨some 102, .eq .int false (.t 101) (.c (.d (.v (.int .i64 3)))), some (99, true), 0⟩,
   ⟨some 103, .pick (.t 99) (.t 102) (.c (.d (.v (.bool false)))), none, 0⟩])
 (.cond 103 (.reg false [⟨some 104, .mv (.t 9), none, 0⟩,
     ⟨some 105, .mv (.t 11), none, 0⟩,
     ⟨some 106, .ixs 1 (.t 104) (.t 105), none, 0⟩,
     ⟨none, .st 1 (.t 106) (.c (.d (.v (.bool true)))), none, 0⟩])
   (.skip))
def K11_11 : CC := .seq (.reg false [⟨some 95, .mv (.t 15), none, 0⟩,
   ⟨some 96, .un .not (.t 95), none, 0⟩])
 (.cond 96 (.seq (.reg false [⟨some 4, .mv (.c (.d (.v (.bool false)))), none, 0⟩])
   (.ret))
   (.skip))
def K11_12 : CC := .reg false [⟨some 88, .mv (.t 6), none, 0⟩,
   ⟨some 89, .mv (.t 11), none, 0⟩,
   ⟨some 90, .ld 33 true (.t 12), none, 0⟩,
   ⟨some 91, .call (.c (.fn (.func 54) [] [])) [.t 88, .t 89, .t 90], none, 0⟩,
   ⟨some 87, .mv (.t 91), none, 0⟩,
   ⟨some 92, .ext 0 (.t 87), none, 0⟩,
   ⟨some 93, .ext 1 (.t 87), none, 0⟩,
   ⟨some 94, .ext 2 (.t 87), none, 0⟩,
   ⟨some 13, .newc 73 [.d (.v (.int .i64 0)), .d (.v (.int .i64 0)), .d (.v (.int .u64 0)), .d (.v (.int .u64 0)), .d (.v (.int .i64 0)), .d (.v (.bool false)), .d (.v (.int .i64 0)), .d (.v (.int .i64 0)), .d (.v (.bool false)), .d (.v (.int .u64 0)), .d (.v (.slice none 0 0)), .d (.v (.int .u64 0)), .d (.v (.slice none 0 0)), .d (.v (.int .u64 0)), .d (.v (.slice none 0 0)), .d (.v (.int .u64 0)), .d (.v (.slice none 0 0)), .d (.v (.slice none 0 0)), .d (.v (.int .i64 0)), .d (.v (.int .i64 0)), .d (.v (.int .i64 0)), .d (.v (.int .i64 0)), .d (.v (.int .i64 0)), .d (.v (.int .u64 0)), .d (.v (.int .u64 0)), .d (.v (.int .u64 0)), .d (.v (.int .u64 0)), .d (.v (.int .u64 0)), .d (.v (.int .i64 0)), .d (.v (.slice none 0 0)), .d (.v (.int .u64 0)), .d (.v (.int .i64 0)), .d (.v (.bool false))], none, 0⟩,
   ⟨none, .st 33 (.t 13) (.t 92), none, 0⟩,
   ⟨some 14, .mv (.t 93), none, 0⟩,
   ⟨some 15, .mv (.t 94), none, 0⟩]
def K11_13 : CC := .seq (.reg false [⟨some 81, .fa 0 (.t 12), none, 0⟩,
   ⟨some 82, .ld 1 false (.t 81), none, 0⟩,
   ⟨some 83, .eq .int false (.t 82) (.c (.d (.v (.int .i64 90)))), none, 0⟩])
 (.cond 83 (.reg false [⟨some 84, .mv (.t 9), none, 0⟩,
     ⟨some 85, .mv (.t 11), none, 0⟩,
     ⟨some 86, .ixs 1 (.t 84) (.t 85), none, 0⟩,
     ⟨none, .st 1 (.t 86) (.c (.d (.v (.bool false)))), none, 0⟩])
   (.skip))
def K11_14 : CC := .seq (.reg false [⟨some 63, .fa 0 (.t 12), none, 0⟩,
   ⟨some 64, .ld 1 false (.t 63), none, 0⟩,
   ⟨some 65, .eq .int false (.t 64) (.c (.d (.v (.int .i64 0)))), none, 0⟩])
 (.cond 65 (.seq (.reg false [⟨some 66, .fa 0 (.t 12), none, 0⟩,
     ⟨none, .st 1 (.t 66) (.c (.d (.v (.int .i64 70)))), none, 0⟩])
   (.seq (.reg false [⟨some 67, .mv (.t 1), none, 0⟩,
     ⟨some 68, .mv (.t 10), none, 0⟩,
     ⟨some 69, .ixs 1 (.t 67) (.t 68), none, 0⟩,
     ⟨some 70, .ld 1 false (.t 69), none, 0⟩,
     ⟨some 71, .conv .i64 (.t 70), none, 0⟩,
     ⟨some 72, .bin .quo (.t 71) (.c (.d (.v (.int .i64 8)))), none, 0⟩,
     ⟨some 73, .bin .rem (.t 72) (.c (.d (.v (.int .i64 3)))), none, 0⟩,
     ⟨some 74, .eq .int true (.t 73) (.c (.d (.v (.int .i64 0)))), none, 0⟩])
   (.cond 74 (.seq (.reg false [⟨some 75, .fa 0 (.t 12), none, 0⟩,
       ⟨none, .st 1 (.t 75) (.c (.d (.v (.int .i64 1)))), none, 0⟩])
     (.seq (.reg false [⟨some 76, .mv (.t 9), none, 0⟩,
       ⟨some 77, .mv (.t 11), none, 0⟩,
       ⟨some 78, .ixs 1 (.t 76) (.t 77), none, 0⟩,
       ⟨some 79, .ld 1 false (.t 78), none, 0⟩])
     (.cond 79 (.reg false [⟨some 80, .fa 0 (.t 12), none, 0⟩,
         ⟨none, .st 1 (.t 80) (.c (.d (.v (.int .i64 90)))), none, 0⟩])
       (.skip))))
     (.skip))))
   (.skip))
def K11_15 : CC := .reg false [⟨some 59, .mv (.t 8), none, 0⟩,
   ⟨some 60, .mv (.t 11), none, 0⟩,
   ⟨some 61, .ixs 33 (.t 59) (.t 60), none, 0⟩,
   ⟨some 62, .ld 33 true (.t 61), none, 0⟩,
   ⟨some 12, .newc 73 [.d (.v (.int .i64 0)), .d (.v (.int .i64 0)), .d (.v (.int .u64 0)), .d (.v (.int .u64 0)), .d (.v (.int .i64 0)), .d (.v (.bool false)), .d (.v (.int .i64 0)), .d (.v (.int .i64 0)), .d (.v (.bool false)), .d (.v (.int .u64 0)), .d (.v (.slice none 0 0)), .d (.v (.int .u64 0)), .d (.v (.slice none 0 0)), .d (.v (.int .u64 0)), .d (.v (.slice none 0 0)), .d (.v (.int .u64 0)), .d (.v (.slice none 0 0)), .d (.v (.slice none 0 0)), .d (.v (.int .i64 0)), .d (.v (.int .i64 0)), .d (.v (.int .i64 0)), .d (.v (.int .i64 0)), .d (.v (.int .i64 0)), .d (.v (.int .u64 0)), .d (.v (.int .u64 0)), .d (.v (.int .u64 0)), .d (.v (.int .u64 0)), .d (.v (.int .u64 0)), .d (.v (.int .i64 0)), .d (.v (.slice none 0 0)), .d (.v (.int .u64 0)), .d (.v (.int .i64 0)), .d (.v (.bool false))], none, 0⟩,
   ⟨none, .st 33 (.t 12) (.t 62), none, 0⟩]
def K11_16 : CC := .reg true [⟨some 51, .mv (.t 1), none, 0⟩,
   ⟨some 52, .mv (.t 10), none, 0⟩,
   ⟨some 53, .ixs 1 (.t 51) (.t 52), none, 3⟩,
   ⟨some 54, .ld 1 false (.t 53), none, 7⟩,
   ⟨some 55, .conv .i64 (.t 54), none, 15⟩,
   ⟨some 56, .fa 0 (.t 5), none, 0⟩,
   ⟨some 57, .ld 1 false (.t 56), none, 32⟩,
   ⟨some 58, .bin .rem (.t 55) (.t 57), none, 127⟩,
   ⟨some 11, .mv (.t 58), none, 255⟩]
def K11_17 : CC := .seq (.reg false [⟨some 45, .mv (.t 10), none, 0⟩,
   ⟨some 46, .mv (.t 1), none, 0⟩,
   ⟨some 47, .len (.t 46), none, 0⟩,
   ⟨some 48, .bin .lss (.t 45) (.t 47), none, 0⟩])
 (.cond 48 (.skip)
   (.exit 0))
def L11_18 : CC := .seq K11_17 (.seq (.block 1 (.seq K11_16 (.seq K11_15 (.seq K11_14 (.seq K11_13 (.seq K11_12 (.seq K11_11 (.seq K11_10 (.seq K11_9 (.seq K11_8 (.seq K11_7 (.block 2 (.loop L11_6))))))))))))) K11_2)
def K11_19 : CC := .reg false [⟨some 10, .mv (.c (.d (.v (.int .i64 0)))), none, 0⟩]
def K11_20 : CC := .reg false [⟨some 42, .fa 0 (.t 5), none, 0⟩,
   ⟨some 43, .ld 1 false (.t 42), none, 0⟩,
   ⟨some 44, .mks 4 1 1 none [.d (.v (.bool false))] (.t 43), none, 0⟩,
   ⟨some 9, .mv (.t 44), none, 0⟩]
def K11_21 : CC := .reg false [⟨some 39, .fa 0 (.t 5), none, 0⟩,
   ⟨some 40, .ld 1 false (.t 39), none, 0⟩,
   ⟨some 41, .mks 73 33 360 none [.d (.v (.int .i64 0)), .d (.v (.int .i64 0)), .d (.v (.int .u64 0)), .d (.v (.int .u64 0)), .d (.v (.int .i64 0)), .d (.v (.bool false)), .d (.v (.int .i64 0)), .d (.v (.int .i64 0)), .d (.v (.bool false)), .d (.v (.int .u64 0)), .d (.ints .i64 []), .d (.v (.int .u64 0)), .d (.ints .i64 []), .d (.v (.int .u64 0)), .d (.ints .i64 []), .d (.v (.int .u64 0)), .d (.ints .i64 []), .d (.ints .i64 []), .d (.v (.int .i64 0)), .d (.v (.int .i64 0)), .d (.v (.int .i64 0)), .d (.v (.int .i64 0)), .d (.v (.int .i64 0)), .d (.v (.int .u64 0)), .d (.v (.int .u64 0)), .d (.v (.int .u64 0)), .d (.v (.int .u64 0)), .d (.v (.int .u64 0)), .d (.v (.int .i64 0)), .d (.ints .u64 []), .d (.v (.int .u64 0)), .d (.v (.int .i64 0)), .d (.v (.bool false))] (.t 40), none, 0⟩,
   ⟨some 8, .mv (.t 41), none, 0⟩]
def K11_22 : CC := .seq (.reg false [⟨some 33, .mv (.t 7), none, 0⟩,
   ⟨some 34, .eq .int true (.t 33) (.c (.d (.v (.int .i64 0)))), none, 0⟩,
   ⟨some 35, .mv (.t 34), none, 0⟩,
   ⟨some 36, .mv (.t 6), some (35, false), 0⟩,
   ⟨some 37, .eq .ptr false (.t 36) (.c (.d (.v (.pointer none)))), some (35, false), 0⟩,
   ⟨some 38, .pick (.t 35) (.c (.d (.v (.bool true)))) (.t 37), none, 0⟩])
 (.cond 38 (.seq (.reg false [⟨some 4, .mv (.c (.d (.v (.bool false)))), none, 0⟩])
   (.ret))
   (.skip))
def K11_23 : CC := .reg false [⟨some 29, .ld 8 true (.t 5), none, 0⟩,
   ⟨some 30, .call (.c (.fn (.func 34) [] [])) [.t 29], none, 0⟩,
   ⟨some 28, .mv (.t 30), none, 0⟩,
   ⟨some 31, .ext 0 (.t 28), none, 0⟩,
   ⟨some 32, .ext 1 (.t 28), none, 0⟩,
   ⟨some 6, .mv (.t 31), none, 0⟩,
   ⟨some 7, .mv (.t 32), none, 0⟩]
def K11_24 : CC := .seq (.reg false [⟨some 25, .mv (.t 1), none, 0⟩,
   ⟨some 26, .len (.t 25), none, 0⟩,
   ⟨some 27, .bin .gtr (.t 26) (.c (.d (.v (.int .i64 800)))), none, 0⟩])
 (.cond 27 (.seq (.reg false [⟨some 4, .mv (.c (.d (.v (.bool true)))), none, 0⟩])
   (.ret))
   (.skip))
def K11_25 : CC := .reg false [⟨some 20, .mv (.t 0), none, 0⟩,
   ⟨some 21, .conv .i64 (.t 20), none, 0⟩,
   ⟨some 22, .bin .rem (.t 21) (.c (.d (.v (.int .i64 8)))), none, 0⟩,
   ⟨some 23, .bin .add (.c (.d (.v (.int .i64 1)))) (.t 22), none, 0⟩,
   ⟨some 24, .bld [.d (.v (.int .i64 0)), .d (.v (.int .i64 0)), .d (.v (.int .i64 0)), .d (.v (.int .i64 0)), .d (.v (.int .i64 0)), .d (.v (.int .i64 0)), .d (.v (.int .i64 0)), .d (.v (.int .u64 0))] [(0, 1, .t 23), (1, 1, .c (.d (.v (.int .i64 1)))), (2, 1, .c (.d (.v (.int .i64 1)))), (3, 1, .c (.d (.v (.int .i64 1)))), (4, 1, .c (.d (.v (.int .i64 1)))), (6, 1, .c (.d (.v (.int .i64 1)))), (7, 1, .c (.d (.v (.int .u64 1))))], none, 0⟩,
   ⟨some 5, .newc 24 [.d (.v (.int .i64 0)), .d (.v (.int .i64 0)), .d (.v (.int .i64 0)), .d (.v (.int .i64 0)), .d (.v (.int .i64 0)), .d (.v (.int .i64 0)), .d (.v (.int .i64 0)), .d (.v (.int .u64 0))], none, 0⟩,
   ⟨none, .st 8 (.t 5) (.t 24), none, 0⟩]
def K11_26 : CC := .seq (.reg false [⟨some 18, .call (.c (.fn (.func 53) [] [])) [], none, 0⟩,
   ⟨some 19, .un .not (.t 18), none, 0⟩])
 (.cond 19 (.seq (.reg false [⟨some 4, .mv (.c (.d (.v (.bool false)))), none, 0⟩])
   (.ret))
   (.skip))
def K11_27 : CC := .reg false [⟨some 4, .mv (.c (.d (.v (.bool false)))), none, 0⟩]
/-- coatcheck/coatchecklaw07.EpochHolds -/
def C11 : CF := ⟨2, [(4, none)],
 .seq K11_27 (.seq K11_26 (.seq K11_25 (.seq K11_24 (.seq K11_23 (.seq K11_22 (.seq K11_21 (.seq K11_20 (.seq (.seq K11_19 (.block 0 (.loop L11_18))) K11_1))))))))⟩
theorem c11 : coF Try.prog Try.f11 = some C11 := by kernel_rfl
def A11 : Ann := { keep := [0, 1, 4, 5, 6, 7, 8, 9, 10, 11, 12, 13, 14, 15, 16, 17, 19, 27, 38, 48, 65, 74, 79, 83, 96, 103, 116, 141], live := [(0, [1, 5, 6, 8, 9, 10]), (2, [1, 5, 6, 8, 9, 10, 16, 17])] }
def E11 {Ω : Type} : Env Ω := econs 30 S30m (econs 34 S34 (econs 53 S53 (econs 54 S54m (enil))))
theorem e11 : GoodE Try.prog E11 := GoodE.cons g30m (GoodE.cons g34 (GoodE.cons g53 (GoodE.cons g54m (GoodE.nil))))
def Z11_6 {Ω : Type} (it : Itr Ω) (K : SE → SS → Option Ω) : SE → SS → Option Ω := kblk 2 (kblk 1 (kseq it E11 A11 K11_2 0 (K)))
def Z11_18 {Ω : Type} (it : Itr Ω) (K : SV → SH → Option Ω) : SE → SS → Option Ω := kblk 0 (kseq it E11 A11 K11_1 0 (kfn C11 K))
end Go.Sx.Pr
