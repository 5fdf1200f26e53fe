/- Pieces of the code of functions, compiled for the symbolic interpreter, each checked against the program; no conditions. -/
import Derived.Test.YtpnnnklahanecaaSxFrame
import Derived.Test.YtpnnnklahanecaaRows
import Derived.KernelRfl
namespace Go.Sx.Pr
open Go Go.Sx Go.Proofs
set_option maxRecDepth 100000
theorem mix : Try.prog.follows .mixedOrders = true := by kernel_rfl
def K106_1 : CC := .seq (.block 2 (.seq (.reg false [⟨some 45, .fa 7 (.t 1), none, 0⟩,
     ⟨some 46, .ld 1 false (.t 45), none, 0⟩,
     ⟨some 47, .bin .lss (.t 46) (.c (.d (.v (.int .u64 1)))), none, 0⟩,
     ⟨some 44, .mv (.t 47), none, 0⟩])
   (.cond 44 (.seq (.reg false [⟨some 2, .mv (.c (.d (.v (.int .i64 1)))), none, 0⟩])
     (.ret))
     (.seq (.reg false [⟨some 49, .fa 7 (.t 1), none, 0⟩,
       ⟨some 50, .ld 1 false (.t 49), none, 0⟩,
       ⟨some 51, .bin .gtr (.t 50) (.c (.d (.v (.int .u64 1048576)))), none, 0⟩,
       ⟨some 48, .mv (.t 51), none, 0⟩])
     (.cond 48 (.seq (.reg false [⟨some 2, .mv (.c (.d (.v (.int .i64 2)))), none, 0⟩])
       (.ret))
       (.skip))))))
 (.seq (.reg false [⟨some 52, .mv (.t 4), none, 0⟩,
   ⟨some 2, .mv (.t 52), none, 0⟩])
 (.ret))
def L106_2 : CC := .seq (.reg false [⟨some 31, .bin .lss (.t 30) (.c (.d (.v (.int .i64 7)))), none, 0⟩])
 (.seq (.cond 31 (.skip)
   (.exit 0))
 (.seq (.block 1 (.seq (.reg false [⟨some 32, .ixg 7 3 true (.t 29) (.t 30), none, 0⟩,
     ⟨some 6, .newc 160 [.d (.v (.int .i64 0)), .d (.v (.int .i64 0)), .d (.v (.int .i64 0))], none, 0⟩,
     ⟨none, .st 3 (.t 6) (.t 32), none, 0⟩])
   (.seq (.seq (.reg false [⟨some 33, .fa 0 (.t 6), none, 0⟩,
     ⟨some 34, .ld 1 false (.t 33), none, 0⟩,
     ⟨some 35, .fa 1 (.t 6), none, 0⟩,
     ⟨some 36, .ld 1 false (.t 35), none, 0⟩,
     ⟨some 37, .bin .lss (.t 34) (.t 36), none, 0⟩])
   (.cond 37 (.seq (.reg false [⟨some 2, .mv (.c (.d (.v (.int .i64 1)))), none, 0⟩])
     (.ret))
     (.skip)))
   (.seq (.reg false [⟨some 38, .fa 0 (.t 6), none, 0⟩,
     ⟨some 39, .ld 1 false (.t 38), none, 0⟩,
     ⟨some 40, .fa 2 (.t 6), none, 0⟩,
     ⟨some 41, .ld 1 false (.t 40), none, 0⟩,
     ⟨some 42, .bin .gtr (.t 39) (.t 41), none, 0⟩])
   (.cond 42 (.reg false [⟨some 4, .mv (.c (.d (.v (.int .i64 2)))), none, 0⟩])
     (.skip))))))
 (.reg false [⟨some 43, .bin .add (.t 30) (.c (.d (.v (.int .i64 1)))), none, 0⟩,
   ⟨some 30, .mv (.t 43), none, 0⟩])))
def K106_3 : CC := .reg false [⟨some 29, .ld 21 true (.t 3), none, 0⟩,
   ⟨some 30, .mv (.c (.d (.v (.int .i64 0)))), none, 0⟩]
def K106_4 : CC := .reg false [⟨some 4, .mv (.c (.d (.v (.int .i64 0)))), none, 0⟩]
def K106_5 : CC := .reg false [⟨some 7, .fa 0 (.t 1), none, 0⟩,
   ⟨some 8, .ld 1 false (.t 7), none, 0⟩,
   ⟨some 9, .bld [.d (.v (.int .i64 0)), .d (.v (.int .i64 0)), .d (.v (.int .i64 0))] [(0, 1, .t 8), (1, 1, .c (.d (.v (.int .i64 1)))), (2, 1, .c (.d (.v (.int .i64 8))))], none, 0⟩,
   ⟨some 10, .fa 1 (.t 1), none, 0⟩,
   ⟨some 11, .ld 1 false (.t 10), none, 0⟩,
   ⟨some 12, .bld [.d (.v (.int .i64 0)), .d (.v (.int .i64 0)), .d (.v (.int .i64 0))] [(0, 1, .t 11), (1, 1, .c (.d (.v (.int .i64 1)))), (2, 1, .c (.d (.v (.int .i64 8))))], none, 0⟩,
   ⟨some 13, .fa 2 (.t 1), none, 0⟩,
   ⟨some 14, .ld 1 false (.t 13), none, 0⟩,
   ⟨some 15, .bld [.d (.v (.int .i64 0)), .d (.v (.int .i64 0)), .d (.v (.int .i64 0))] [(0, 1, .t 14), (1, 1, .c (.d (.v (.int .i64 1)))), (2, 1, .c (.d (.v (.int .i64 16))))], none, 0⟩,
   ⟨some 16, .fa 3 (.t 1), none, 0⟩,
   ⟨some 17, .ld 1 false (.t 16), none, 0⟩,
   ⟨some 18, .bld [.d (.v (.int .i64 0)), .d (.v (.int .i64 0)), .d (.v (.int .i64 0))] [(0, 1, .t 17), (1, 1, .c (.d (.v (.int .i64 1)))), (2, 1, .c (.d (.v (.int .i64 4))))], none, 0⟩,
   ⟨some 19, .fa 4 (.t 1), none, 0⟩,
   ⟨some 20, .ld 1 false (.t 19), none, 0⟩,
   ⟨some 21, .bld [.d (.v (.int .i64 0)), .d (.v (.int .i64 0)), .d (.v (.int .i64 0))] [(0, 1, .t 20), (1, 1, .c (.d (.v (.int .i64 1)))), (2, 1, .c (.d (.v (.int .i64 32))))], none, 0⟩,
   ⟨some 22, .fa 5 (.t 1), none, 0⟩,
   ⟨some 23, .ld 1 false (.t 22), none, 0⟩,
   ⟨some 24, .bld [.d (.v (.int .i64 0)), .d (.v (.int .i64 0)), .d (.v (.int .i64 0))] [(0, 1, .t 23), (1, 1, .c (.d (.v (.int .i64 0)))), (2, 1, .c (.d (.v (.int .i64 4))))], none, 0⟩,
   ⟨some 25, .fa 6 (.t 1), none, 0⟩,
   ⟨some 26, .ld 1 false (.t 25), none, 0⟩,
   ⟨some 27, .bld [.d (.v (.int .i64 0)), .d (.v (.int .i64 0)), .d (.v (.int .i64 0))] [(0, 1, .t 26), (1, 1, .c (.d (.v (.int .i64 1)))), (2, 1, .c (.d (.v (.int .i64 8))))], none, 0⟩,
   ⟨some 28, .bld [.d (.v (.int .i64 0)), .d (.v (.int .i64 0)), .d (.v (.int .i64 0)), .d (.v (.int .i64 0)), .d (.v (.int .i64 0)), .d (.v (.int .i64 0)), .d (.v (.int .i64 0)), .d (.v (.int .i64 0)), .d (.v (.int .i64 0)), .d (.v (.int .i64 0)), .d (.v (.int .i64 0)), .d (.v (.int .i64 0)), .d (.v (.int .i64 0)), .d (.v (.int .i64 0)), .d (.v (.int .i64 0)), .d (.v (.int .i64 0)), .d (.v (.int .i64 0)), .d (.v (.int .i64 0)), .d (.v (.int .i64 0)), .d (.v (.int .i64 0)), .d (.v (.int .i64 0))] [(0, 3, .t 9), (3, 3, .t 12), (6, 3, .t 15), (9, 3, .t 18), (12, 3, .t 21), (15, 3, .t 24), (18, 3, .t 27)], none, 0⟩,
   ⟨some 3, .newc 161 [.d (.v (.int .i64 0)), .d (.v (.int .i64 0)), .d (.v (.int .i64 0)), .d (.v (.int .i64 0)), .d (.v (.int .i64 0)), .d (.v (.int .i64 0)), .d (.v (.int .i64 0)), .d (.v (.int .i64 0)), .d (.v (.int .i64 0)), .d (.v (.int .i64 0)), .d (.v (.int .i64 0)), .d (.v (.int .i64 0)), .d (.v (.int .i64 0)), .d (.v (.int .i64 0)), .d (.v (.int .i64 0)), .d (.v (.int .i64 0)), .d (.v (.int .i64 0)), .d (.v (.int .i64 0)), .d (.v (.int .i64 0)), .d (.v (.int .i64 0)), .d (.v (.int .i64 0))], none, 0⟩,
   ⟨none, .st 21 (.t 3) (.t 28), none, 0⟩]
def K106_6 : CC := .reg false [⟨some 1, .box 24 8 (.t 0), none, 0⟩,
   ⟨some 2, .mv (.c (.d (.v (.int .i64 0)))), none, 0⟩]
/-- coatcheck/plan.Check -/
def C106 : CF := ⟨1, [(2, none)],
 .seq K106_6 (.seq K106_5 (.seq K106_4 (.seq (.seq K106_3 (.block 0 (.loop L106_2))) K106_1)))⟩
theorem c106 : coF Try.prog Try.f106 = some C106 := by kernel_rfl
def A106 : Ann := { keep := [0, 1, 2, 3, 4, 6, 29, 30, 31, 37, 42, 44, 48], live := [(0, [1, 4, 29, 30])] }
def E106 {Ω : Type} : Env Ω := enil
theorem e106 : GoodE Try.prog E106 := GoodE.nil
def Z106_2 {Ω : Type} (it : Itr Ω) (K : SV → SH → Option Ω) : SE → SS → Option Ω := kblk 0 (kseq it E106 A106 K106_1 0 (kfn C106 K))
def K19_1 : CC := .seq (.reg false [⟨some 2, .mv (.c (.d (.v (.int .i64 0)))), none, 0⟩])
 (.ret)
def K19_2 : CC := .cond 78 (.seq (.reg false [⟨some 2, .mv (.c (.d (.v (.int .i64 2)))), none, 0⟩])
   (.ret))
   (.skip)
def K19_3 : CC := .reg false [⟨some 41, .fa 0 (.t 1), none, 0⟩,
   ⟨some 42, .ld 1 false (.t 41), none, 0⟩,
   ⟨some 43, .bin .gtr (.t 42) (.c (.d (.v (.int .i64 8)))), none, 0⟩,
   ⟨some 44, .mv (.t 43), none, 0⟩,
   ⟨some 45, .fa 1 (.t 1), some (44, false), 0⟩,
   ⟨some 46, .ld 1 false (.t 45), some (44, false), 0⟩,
   ⟨some 47, .bin .gtr (.t 46) (.c (.d (.v (.int .i64 8)))), some (44, false), 0⟩,
   ⟨some 48, .pick (.t 44) (.c (.d (.v (.bool true)))) (.t 47), none, 0⟩,
   ⟨some 49, .mv (.t 48), none, 0⟩,
   ⟨some 50, .fa 2 (.t 1), some (49, false), 0⟩,
   ⟨some 51, .ld 1 false (.t 50), some (49, false), 0⟩,
   ⟨some 52, .bin .gtr (.t 51) (.c (.d (.v (.int .i64 16)))), some (49, false), 0⟩,
   ⟨some 53, .pick (.t 49) (.c (.d (.v (.bool true)))) (.t 52), none, 0⟩,
   ⟨some 54, .mv (.t 53), none, 0⟩,
   ⟨some 55, .fa 3 (.t 1), some (54, false), 0⟩,
   ⟨some 56, .ld 1 false (.t 55), some (54, false), 0⟩,
   ⟨some 57, .bin .gtr (.t 56) (.c (.d (.v (.int .i64 4)))), some (54, false), 0⟩,
   ⟨some 58, .pick (.t 54) (.c (.d (.v (.bool true)))) (.t 57), none, 0⟩,
   ⟨some 59, .mv (.t 58), none, 0⟩,
   ⟨some 60, .fa 4 (.t 1), some (59, false), 0⟩,
   ⟨some 61, .ld 1 false (.t 60), some (59, false), 0⟩,
   ⟨some 62, .bin .gtr (.t 61) (.c (.d (.v (.int .i64 32)))), some (59, false), 0⟩,
   ⟨some 63, .pick (.t 59) (.c (.d (.v (.bool true)))) (.t 62), none, 0⟩,
   ⟨some 64, .mv (.t 63), none, 0⟩,
   ⟨some 65, .fa 6 (.t 1), some (64, false), 0⟩,
   ⟨some 66, .ld 1 false (.t 65), some (64, false), 0⟩,
   ⟨some 67, .bin .gtr (.t 66) (.c (.d (.v (.int .i64 8)))), some (64, false), 0⟩,
   ⟨some 68, .pick (.t 64) (.c (.d (.v (.bool true)))) (.t 67), none, 0⟩,
   ⟨some 69, .mv (.t 68), none, 0⟩,
   ⟨some 70, .fa 5 (.t 1), some (69, false), 0⟩,
   ⟨some 71, .ld 1 false (.t 70), some (69, false), 0⟩,
   ⟨some 72, .bin .gtr (.t 71) (.c (.d (.v (.int .i64 4)))), some (69, false), 0⟩,
   ⟨some 73, .pick (.t 69) (.c (.d (.v (.bool true)))) (.t 72), none, 0⟩,
   ⟨some 74, .mv (.t 73), none, 0⟩,
   ⟨some 75, .fa 7 (.t 1), some (74, false), 0⟩,
   ⟨some 76, .ld 1 false (.t 75), some (74, false), 0⟩,
   ⟨some 77, .bin .gtr (.t 76) (.c (.d (.v (.int .u64 1048576)))), some (74, false), 0⟩,
   ⟨some 78, .pick (.t 74) (.c (.d (.v (.bool true)))) (.t 77), none, 0⟩]
def K19_4 : CC := .cond 40 (.seq (.reg false [⟨some 2, .mv (.c (.d (.v (.int .i64 1)))), none, 0⟩])
   (.ret))
   (.skip)
def K19_5 : CC := .reg false [⟨some 3, .fa 0 (.t 1), none, 0⟩,
   ⟨some 4, .ld 1 false (.t 3), none, 0⟩,
   ⟨some 5, .bin .lss (.t 4) (.c (.d (.v (.int .i64 1)))), none, 0⟩,
   ⟨some 6, .mv (.t 5), none, 0⟩,
   ⟨some 7, .fa 1 (.t 1), some (6, false), 0⟩,
   ⟨some 8, .ld 1 false (.t 7), some (6, false), 0⟩,
   ⟨some 9, .bin .lss (.t 8) (.c (.d (.v (.int .i64 1)))), some (6, false), 0⟩,
   ⟨some 10, .pick (.t 6) (.c (.d (.v (.bool true)))) (.t 9), none, 0⟩,
   ⟨some 11, .mv (.t 10), none, 0⟩,
   ⟨some 12, .fa 2 (.t 1), some (11, false), 0⟩,
   ⟨some 13, .ld 1 false (.t 12), some (11, false), 0⟩,
   ⟨some 14, .bin .lss (.t 13) (.c (.d (.v (.int .i64 1)))), some (11, false), 0⟩,
   ⟨some 15, .pick (.t 11) (.c (.d (.v (.bool true)))) (.t 14), none, 0⟩,
   ⟨some 16, .mv (.t 15), none, 0⟩,
   ⟨some 17, .fa 3 (.t 1), some (16, false), 0⟩,
   ⟨some 18, .ld 1 false (.t 17), some (16, false), 0⟩,
   ⟨some 19, .bin .lss (.t 18) (.c (.d (.v (.int .i64 1)))), some (16, false), 0⟩,
   ⟨some 20, .pick (.t 16) (.c (.d (.v (.bool true)))) (.t 19), none, 0⟩,
   ⟨some 21, .mv (.t 20), none, 0⟩,
   ⟨some 22, .fa 4 (.t 1), some (21, false), 0⟩,
   ⟨some 23, .ld 1 false (.t 22), some (21, false), 0⟩,
   ⟨some 24, .bin .lss (.t 23) (.c (.d (.v (.int .i64 1)))), some (21, false), 0⟩,
   ⟨some 25, .pick (.t 21) (.c (.d (.v (.bool true)))) (.t 24), none, 0⟩,
   ⟨some 26, .mv (.t 25), none, 0⟩,
   ⟨some 27, .fa 6 (.t 1), some (26, false), 0⟩,
   ⟨some 28, .ld 1 false (.t 27), some (26, false), 0⟩,
   ⟨some 29, .bin .lss (.t 28) (.c (.d (.v (.int .i64 1)))), some (26, false), 0⟩,
   ⟨some 30, .pick (.t 26) (.c (.d (.v (.bool true)))) (.t 29), none, 0⟩,
   ⟨some 31, .mv (.t 30), none, 0⟩,
   ⟨some 32, .fa 5 (.t 1), some (31, false), 0⟩,
   ⟨some 33, .ld 1 false (.t 32), some (31, false), 0⟩,
   ⟨some 34, .bin .lss (.t 33) (.c (.d (.v (.int .i64 0)))), some (31, false), 0⟩,
   ⟨some 35, .pick (.t 31) (.c (.d (.v (.bool true)))) (.t 34), none, 0⟩,
   ⟨some 36, .mv (.t 35), none, 0⟩,
   ⟨some 37, .fa 7 (.t 1), some (36, false), 0⟩,
   ⟨some 38, .ld 1 false (.t 37), some (36, false), 0⟩,
   ⟨some 39, .bin .lss (.t 38) (.c (.d (.v (.int .u64 1)))), some (36, false), 0⟩,
   ⟨some 40, .pick (.t 36) (.c (.d (.v (.bool true)))) (.t 39), none, 0⟩]
def K19_6 : CC := .reg false [⟨some 1, .box 24 8 (.t 0), none, 0⟩,
   ⟨some 2, .mv (.c (.d (.v (.int .i64 0)))), none, 0⟩]
/-- coatcheck/coatcheckref02.Check -/
def C19 : CF := ⟨1, [(2, none)],
 .seq K19_6 (.seq (.seq K19_5 K19_4) (.seq (.seq K19_3 K19_2) K19_1))⟩
theorem c19 : coF Try.prog Try.f19 = some C19 := by kernel_rfl
def A19 : Ann := { keep := [0, 1, 2, 40, 78], live := [] }
def E19 {Ω : Type} : Env Ω := enil
theorem e19 : GoodE Try.prog E19 := GoodE.nil
def K20_1 : CC := .seq (.reg false [⟨some 74, .mv (.t 3), none, 0⟩,
   ⟨some 2, .mv (.t 74), none, 0⟩])
 (.ret)
def K20_2 : CC := .reg false [⟨some 55, .mv (.t 7), none, 0⟩,
   ⟨some 56, .bin .add (.t 55) (.c (.d (.v (.int .i64 1)))), none, 0⟩,
   ⟨some 7, .mv (.t 56), none, 0⟩]
def L20_3 : CC := .seq (.seq (.reg false [⟨some 62, .mv (.t 8), none, 0⟩,
   ⟨some 63, .fa 3 (.t 1), none, 0⟩,
   ⟨some 64, .ld 1 false (.t 63), none, 0⟩,
   ⟨some 65, .bin .lss (.t 62) (.t 64), none, 0⟩])
 (.cond 65 (.skip)
   (.exit 8)))
 (.seq (.block 9 (.reg false [⟨some 68, .mv (.t 3), none, 0⟩,
     ⟨some 69, .mv (.t 7), none, 0⟩,
     ⟨some 70, .mv (.t 8), none, 0⟩,
     ⟨some 71, .bld [.d (.v (.int .i64 0)), .d (.v (.int .i64 0)), .d (.v (.int .i64 0))] [(0, 1, .c (.d (.v (.int .i64 6)))), (1, 1, .t 69), (2, 1, .t 70)], none, 0⟩,
     ⟨some 72, .bsl 105 3 1 [.d (.v (.int .i64 0)), .d (.v (.int .i64 0)), .d (.v (.int .i64 0))] [(0, 3, .t 71)], none, 0⟩,
     ⟨some 73, .app 105 3 24 none (.t 68) (.t 72), none, 0⟩,
     ⟨some 3, .mv (.t 73), none, 0⟩]))
 (.reg false [⟨some 66, .mv (.t 8), none, 0⟩,
   ⟨some 67, .bin .add (.t 66) (.c (.d (.v (.int .i64 1)))), none, 0⟩,
   ⟨some 8, .mv (.t 67), none, 0⟩]))
def K20_4 : CC := .reg false [⟨some 8, .mv (.c (.d (.v (.int .i64 0)))), none, 0⟩]
def K20_5 : CC := .reg false [⟨some 57, .mv (.t 3), none, 0⟩,
   ⟨some 58, .mv (.t 7), none, 0⟩,
   ⟨some 59, .bld [.d (.v (.int .i64 0)), .d (.v (.int .i64 0)), .d (.v (.int .i64 0))] [(0, 1, .c (.d (.v (.int .i64 5)))), (1, 1, .t 58)], none, 0⟩,
   ⟨some 60, .bsl 105 3 1 [.d (.v (.int .i64 0)), .d (.v (.int .i64 0)), .d (.v (.int .i64 0))] [(0, 3, .t 59)], none, 0⟩,
   ⟨some 61, .app 105 3 24 none (.t 57) (.t 60), none, 0⟩,
   ⟨some 3, .mv (.t 61), none, 0⟩]
def K20_6 : CC := .seq (.reg false [⟨some 48, .mv (.t 7), none, 0⟩,
   ⟨some 49, .fa 1 (.t 1), none, 0⟩,
   ⟨some 50, .ld 1 false (.t 49), none, 0⟩,
   ⟨some 51, .fa 2 (.t 1), none, 0⟩,
   ⟨some 52, .ld 1 false (.t 51), none, 0⟩,
   ⟨some 53, .bin .mul (.t 50) (.t 52), none, 0⟩,
   ⟨some 54, .bin .lss (.t 48) (.t 53), none, 0⟩])
 (.cond 54 (.skip)
   (.exit 6))
def L20_7 : CC := .seq K20_6 (.seq (.block 7 (.seq K20_5 (.seq K20_4 (.block 8 (.loop L20_3))))) K20_2)
def K20_8 : CC := .reg false [⟨some 7, .mv (.c (.d (.v (.int .i64 0)))), none, 0⟩]
def L20_9 : CC := .seq (.seq (.reg false [⟨some 35, .mv (.t 6), none, 0⟩,
   ⟨some 36, .fa 4 (.t 1), none, 0⟩,
   ⟨some 37, .ld 1 false (.t 36), none, 0⟩,
   ⟨some 38, .bin .lss (.t 35) (.t 37), none, 0⟩])
 (.cond 38 (.skip)
   (.exit 4)))
 (.seq (.block 5 (.reg false [⟨some 41, .mv (.t 3), none, 0⟩,
     ⟨some 42, .mv (.t 6), none, 0⟩,
     ⟨some 43, .bld [.d (.v (.int .i64 0)), .d (.v (.int .i64 0)), .d (.v (.int .i64 0))] [(0, 1, .c (.d (.v (.int .i64 3)))), (1, 1, .t 42)], none, 0⟩,
     ⟨some 44, .mv (.t 6), none, 0⟩,
     ⟨some 45, .bld [.d (.v (.int .i64 0)), .d (.v (.int .i64 0)), .d (.v (.int .i64 0))] [(0, 1, .c (.d (.v (.int .i64 4)))), (1, 1, .t 44)], none, 0⟩,
     ⟨some 46, .bsl 105 3 2 [.d (.v (.int .i64 0)), .d (.v (.int .i64 0)), .d (.v (.int .i64 0))] [(0, 3, .t 43), (3, 3, .t 45)], none, 0⟩,
     ⟨some 47, .app 105 3 24 none (.t 41) (.t 46), none, 0⟩,
     ⟨some 3, .mv (.t 47), none, 0⟩]))
 (.reg false [⟨some 39, .mv (.t 6), none, 0⟩,
   ⟨some 40, .bin .add (.t 39) (.c (.d (.v (.int .i64 1)))), none, 0⟩,
   ⟨some 6, .mv (.t 40), none, 0⟩]))
def K20_10 : CC := .reg false [⟨some 6, .mv (.c (.d (.v (.int .i64 0)))), none, 0⟩]
def L20_11 : CC := .seq (.seq (.reg false [⟨some 24, .mv (.t 5), none, 0⟩,
   ⟨some 25, .fa 1 (.t 1), none, 0⟩,
   ⟨some 26, .ld 1 false (.t 25), none, 0⟩,
   ⟨some 27, .bin .lss (.t 24) (.t 26), none, 0⟩])
 (.cond 27 (.skip)
   (.exit 2)))
 (.seq (.block 3 (.reg false [⟨some 30, .mv (.t 3), none, 0⟩,
     ⟨some 31, .mv (.t 5), none, 0⟩,
     ⟨some 32, .bld [.d (.v (.int .i64 0)), .d (.v (.int .i64 0)), .d (.v (.int .i64 0))] [(0, 1, .c (.d (.v (.int .i64 2)))), (1, 1, .t 31)], none, 0⟩,
     ⟨some 33, .bsl 105 3 1 [.d (.v (.int .i64 0)), .d (.v (.int .i64 0)), .d (.v (.int .i64 0))] [(0, 3, .t 32)], none, 0⟩,
     ⟨some 34, .app 105 3 24 none (.t 30) (.t 33), none, 0⟩,
     ⟨some 3, .mv (.t 34), none, 0⟩]))
 (.reg false [⟨some 28, .mv (.t 5), none, 0⟩,
   ⟨some 29, .bin .add (.t 28) (.c (.d (.v (.int .i64 1)))), none, 0⟩,
   ⟨some 5, .mv (.t 29), none, 0⟩]))
def K20_12 : CC := .reg false [⟨some 5, .mv (.c (.d (.v (.int .i64 0)))), none, 0⟩]
def L20_13 : CC := .seq (.seq (.reg false [⟨some 13, .mv (.t 4), none, 0⟩,
   ⟨some 14, .fa 0 (.t 1), none, 0⟩,
   ⟨some 15, .ld 1 false (.t 14), none, 0⟩,
   ⟨some 16, .bin .lss (.t 13) (.t 15), none, 0⟩])
 (.cond 16 (.skip)
   (.exit 0)))
 (.seq (.block 1 (.reg false [⟨some 19, .mv (.t 3), none, 0⟩,
     ⟨some 20, .mv (.t 4), none, 0⟩,
     ⟨some 21, .bld [.d (.v (.int .i64 0)), .d (.v (.int .i64 0)), .d (.v (.int .i64 0))] [(0, 1, .c (.d (.v (.int .i64 1)))), (1, 1, .t 20)], none, 0⟩,
     ⟨some 22, .bsl 105 3 1 [.d (.v (.int .i64 0)), .d (.v (.int .i64 0)), .d (.v (.int .i64 0))] [(0, 3, .t 21)], none, 0⟩,
     ⟨some 23, .app 105 3 24 none (.t 19) (.t 22), none, 0⟩,
     ⟨some 3, .mv (.t 23), none, 0⟩]))
 (.reg false [⟨some 17, .mv (.t 4), none, 0⟩,
   ⟨some 18, .bin .add (.t 17) (.c (.d (.v (.int .i64 1)))), none, 0⟩,
   ⟨some 4, .mv (.t 18), none, 0⟩]))
def K20_14 : CC := .reg false [⟨some 4, .mv (.c (.d (.v (.int .i64 0)))), none, 0⟩]
def K20_15 : CC := .reg false [⟨some 9, .bld [.d (.v (.int .i64 0)), .d (.v (.int .i64 0)), .d (.v (.int .i64 0))] [(0, 1, .c (.d (.v (.int .i64 0)))), (1, 1, .c (.d (.v (.int .i64 0))))], none, 0⟩,
   ⟨some 10, .bld [.d (.v (.int .i64 0)), .d (.v (.int .i64 0)), .d (.v (.int .i64 0))] [(0, 1, .c (.d (.v (.int .i64 0)))), (1, 1, .c (.d (.v (.int .i64 1))))], none, 0⟩,
   ⟨some 11, .bld [.d (.v (.int .i64 0)), .d (.v (.int .i64 0)), .d (.v (.int .i64 0))] [(0, 1, .c (.d (.v (.int .i64 0)))), (1, 1, .c (.d (.v (.int .i64 2))))], none, 0⟩,
   ⟨some 12, .bsl 105 3 3 [.d (.v (.int .i64 0)), .d (.v (.int .i64 0)), .d (.v (.int .i64 0))] [(0, 3, .t 9), (3, 3, .t 10), (6, 3, .t 11)], none, 0⟩,
   ⟨some 3, .mv (.t 12), none, 0⟩]
def K20_16 : CC := .reg false [⟨some 1, .box 24 8 (.t 0), none, 0⟩,
   ⟨some 2, .mv (.c (.d (.v (.slice none 0 0)))), none, 0⟩]
/-- coatcheck/coatcheckref02.All -/
def C20 : CF := ⟨1, [(2, none)],
 .seq K20_16 (.seq K20_15 (.seq (.seq K20_14 (.block 0 (.loop L20_13))) (.seq (.seq K20_12 (.block 2 (.loop L20_11))) (.seq (.seq K20_10 (.block 4 (.loop L20_9))) (.seq (.seq K20_8 (.block 6 (.loop L20_7))) K20_1)))))⟩
theorem c20 : coF Try.prog Try.f20 = some C20 := by kernel_rfl
def A20 : Ann := { keep := [0, 1, 2, 3, 4, 5, 6, 7, 8, 16, 27, 38, 54, 65], live := [(0, [1, 3, 4]), (2, [1, 3, 5]), (4, [1, 3, 6]), (6, [1, 3, 7]), (8, [1, 3, 7, 8])] }
def E20 {Ω : Type} : Env Ω := enil
theorem e20 : GoodE Try.prog E20 := GoodE.nil
def Z20_3 {Ω : Type} (it : Itr Ω) (K : SE → SS → Option Ω) : SE → SS → Option Ω := kblk 8 (kblk 7 (kseq it E20 A20 K20_2 6 (K)))
def Z20_7 {Ω : Type} (it : Itr Ω) (K : SV → SH → Option Ω) : SE → SS → Option Ω := kblk 6 (kseq it E20 A20 K20_1 0 (kfn C20 K))
def Z20_9 {Ω : Type} (it : Itr Ω) (K : SV → SH → Option Ω) : SE → SS → Option Ω := kblk 4 (kseq it E20 A20 (.seq (.seq K20_8 (.block 6 (.loop L20_7))) K20_1) 0 (kfn C20 K))
def Z20_11 {Ω : Type} (it : Itr Ω) (K : SV → SH → Option Ω) : SE → SS → Option Ω := kblk 2 (kseq it E20 A20 (.seq (.seq K20_10 (.block 4 (.loop L20_9))) (.seq (.seq K20_8 (.block 6 (.loop L20_7))) K20_1)) 0 (kfn C20 K))
def Z20_13 {Ω : Type} (it : Itr Ω) (K : SV → SH → Option Ω) : SE → SS → Option Ω := kblk 0 (kseq it E20 A20 (.seq (.seq K20_12 (.block 2 (.loop L20_11))) (.seq (.seq K20_10 (.block 4 (.loop L20_9))) (.seq (.seq K20_8 (.block 6 (.loop L20_7))) K20_1))) 0 (kfn C20 K))
def K32_1 : CC := .seq (.reg false [⟨some 4, .mv (.c (.d (.v (.bool true)))), none, 0⟩])
 (.ret)
def L32_2 : CC := .seq (.seq (.reg false [⟨some 11, .mv (.t 5), none, 0⟩,
   ⟨some 12, .mv (.t 0), none, 0⟩,
   ⟨some 13, .len (.t 12), none, 0⟩,
   ⟨some 14, .bin .lss (.t 11) (.t 13), none, 0⟩])
 (.cond 14 (.skip)
   (.exit 0)))
 (.seq (.block 1 (.seq (.reg true [⟨some 17, .mv (.t 0), none, 0⟩,
     ⟨some 18, .mv (.t 5), none, 0⟩,
     ⟨some 19, .ixs 1 (.t 17) (.t 18), none, 3⟩,
     ⟨some 20, .ld 1 false (.t 19), none, 7⟩,
     ⟨some 21, .mv (.t 1), none, 0⟩,
     ⟨some 22, .mv (.t 5), none, 0⟩,
     ⟨some 23, .ixs 1 (.t 21) (.t 22), none, 48⟩,
     ⟨some 24, .ld 1 false (.t 23), none, 112⟩,
     ⟨some 25, .eq .int true (.t 20) (.t 24), none, 255⟩])
   (.cond 25 (.seq (.reg false [⟨some 4, .mv (.c (.d (.v (.bool false)))), none, 0⟩])
     (.ret))
     (.skip))))
 (.reg false [⟨some 15, .mv (.t 5), none, 0⟩,
   ⟨some 16, .bin .add (.t 15) (.c (.d (.v (.int .i64 1)))), none, 0⟩,
   ⟨some 5, .mv (.t 16), none, 0⟩]))
def K32_3 : CC := .reg false [⟨some 5, .mv (.c (.d (.v (.int .i64 0)))), none, 0⟩]
def K32_4 : CC := .seq (.reg false [⟨some 6, .mv (.t 0), none, 0⟩,
   ⟨some 7, .len (.t 6), none, 0⟩,
   ⟨some 8, .mv (.t 1), none, 0⟩,
   ⟨some 9, .len (.t 8), none, 0⟩,
   ⟨some 10, .eq .int true (.t 7) (.t 9), none, 0⟩])
 (.cond 10 (.seq (.reg false [⟨some 4, .mv (.c (.d (.v (.bool false)))), none, 0⟩])
   (.ret))
   (.skip))
def K32_5 : CC := .reg false [⟨some 4, .mv (.c (.d (.v (.bool false)))), none, 0⟩]
/-- coatcheck/coatcheckref02.Same -/
def C32 : CF := ⟨2, [(4, none)],
 .seq K32_5 (.seq K32_4 (.seq (.seq K32_3 (.block 0 (.loop L32_2))) K32_1))⟩
theorem c32 : coF Try.prog Try.f32 = some C32 := by kernel_rfl
def A32 : Ann := { keep := [0, 1, 4, 5, 10, 14, 25], live := [(0, [0, 1, 5])] }
def E32 {Ω : Type} : Env Ω := enil
theorem e32 : GoodE Try.prog E32 := GoodE.nil
def Z32_2 {Ω : Type} (it : Itr Ω) (K : SV → SH → Option Ω) : SE → SS → Option Ω := kblk 0 (kseq it E32 A32 K32_1 0 (kfn C32 K))
/-- slices.Clone[[]uint64,uint64] -/
def C65 : CF := ⟨1, [(2, none)],
 .seq (.reg false [⟨some 2, .mv (.c (.d (.v (.slice none 0 0)))), none, 0⟩])
 (.seq (.seq (.reg false [⟨some 3, .mv (.t 0), none, 0⟩,
   ⟨some 4, .eq .slc false (.t 3) (.c (.d (.v (.slice none 0 0)))), none, 0⟩])
 (.cond 4 (.seq (.reg false [⟨some 2, .mv (.c (.d (.v (.slice none 0 0)))), none, 0⟩])
   (.ret))
   (.skip)))
 (.seq (.reg false [⟨some 5, .bsl 22 1 0 [.d (.v (.int .u64 0))] [], none, 0⟩,
   ⟨some 6, .mv (.t 0), none, 0⟩,
   ⟨some 7, .app 22 1 8 (some .u64) (.t 5) (.t 6), none, 0⟩,
   ⟨some 2, .mv (.t 7), none, 0⟩])
 (.ret)))⟩
theorem c65 : coF Try.prog Try.f65 = some C65 := by kernel_rfl
def A65 : Ann := { keep := [0, 2, 4], live := [] }
def E65 {Ω : Type} : Env Ω := enil
theorem e65 : GoodE Try.prog E65 := GoodE.nil
end Go.Sx.Pr
