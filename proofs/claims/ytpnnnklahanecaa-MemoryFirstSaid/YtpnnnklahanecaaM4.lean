/- Pieces of the code of functions, compiled for the symbolic interpreter, each checked against the program; no conditions. -/
import Derived.Test.YtpnnnklahanecaaM3b
import Derived.Test.YtpnnnklahanecaaRows
import Derived.KernelRfl
namespace Go.Sx.Pr
open Go Go.Sx Go.Proofs
set_option maxRecDepth 100000
def K35_1 : CC := .seq (.reg false [⟨some 81, .mv (.t 4), none, 0⟩,
   ⟨some 2, .mv (.t 81), none, 0⟩])
 (.ret)
def K35_2 : CC := .reg false [⟨some 16, .mv (.t 5), none, 0⟩,
   ⟨some 17, .bin .add (.t 16) (.c (.d (.v (.int .i64 1)))), none, 0⟩,
   ⟨some 5, .mv (.t 17), none, 0⟩]
def K35_3 : CC := .reg false [⟨some 77, .mv (.t 4), none, 0⟩,
   ⟨some 78, .mv (.t 6), none, 0⟩,
   ⟨some 79, .bsl 22 1 1 [.d (.v (.int .u64 0))] [(0, 1, .t 78)], none, 0⟩,
   ⟨some 80, .app 22 1 8 (some .u64) (.t 77) (.t 79), none, 0⟩,
   ⟨some 4, .mv (.t 80), none, 0⟩]
def K35_4 : CC := .seq (.reg true [⟨some 53, .mv (.t 3), none, 0⟩,
   ⟨some 54, .mv (.t 5), none, 0⟩,
   ⟨some 55, .ixs 3 (.t 53) (.t 54), none, 3⟩,
   ⟨some 56, .fa 0 (.t 55), none, 7⟩,
   ⟨some 57, .ld 1 false (.t 56), none, 15⟩,
   ⟨some 58, .eq .int false (.t 57) (.c (.d (.v (.int .i64 4)))), none, 31⟩,
   ⟨some 59, .mv (.t 58), none, 63⟩,
   ⟨some 60, .mv (.t 3), some (59, true), 127⟩,
   ⟨some 61, .mv (.t 5), some (59, true), 127⟩,
   ⟨some 62, .ixs 3 (.t 60) (.t 61), some (59, true), 511⟩,
   ⟨some 63, .fa 1 (.t 62), some (59, true), 1023⟩,
   ⟨some 64, .ld 1 false (.t 63), some (59, true), 2047⟩,
   ⟨some 65, .fa 4 (.t 1), some (59, true), 127⟩,
   ⟨some 66, .ld 1 false (.t 65), some (59, true), 4223⟩,
   ⟨some 67, .bin .sub (.t 66) (.c (.d (.v (.int .i64 1)))), some (59, true), 12415⟩,
   ⟨some 68, .bin .lss (.t 64) (.t 67), some (59, true), 32767⟩,
   ⟨some 69, .pick (.t 59) (.t 68) (.c (.d (.v (.bool false)))), none, 65535⟩])
 (.cond 69 (.reg false [⟨some 70, .mv (.t 3), none, 0⟩,
     ⟨some 71, .mv (.t 5), none, 0⟩,
     ⟨some 72, .ixs 3 (.t 70) (.t 71), none, 0⟩,
     ⟨some 73, .fa 1 (.t 72), none, 0⟩,
     ⟨some 74, .ld 1 false (.t 73), none, 0⟩,
     ⟨some 75, .conv .u64 (.t 74), none, 0⟩,
     ⟨some 76, .bin .add (.t 75) (.c (.d (.v (.int .u64 2)))), none, 0⟩,
     ⟨some 6, .mv (.t 76), none, 0⟩])
   (.skip))
def K35_5 : CC := .seq (.reg false [⟨some 46, .mv (.t 3), none, 0⟩,
   ⟨some 47, .mv (.t 5), none, 0⟩,
   ⟨some 48, .ixs 3 (.t 46) (.t 47), none, 0⟩,
   ⟨some 49, .fa 0 (.t 48), none, 0⟩,
   ⟨some 50, .ld 1 false (.t 49), none, 0⟩,
   ⟨some 51, .eq .int false (.t 50) (.c (.d (.v (.int .i64 3)))), none, 0⟩])
 (.cond 51 (.reg false [⟨some 52, .call (.c (.fn (.func 69) [] [])) [.c (.d (.v (.int .u64 1))), .c (.d (.v (.int .i64 (-1)))), .c (.d (.v (.int .i64 0)))], none, 0⟩,
     ⟨some 6, .mv (.t 52), none, 0⟩])
   (.skip))
def K35_6 : CC := .seq (.reg false [⟨some 32, .mv (.t 3), none, 0⟩,
   ⟨some 33, .mv (.t 5), none, 0⟩,
   ⟨some 34, .ixs 3 (.t 32) (.t 33), none, 0⟩,
   ⟨some 35, .fa 0 (.t 34), none, 0⟩,
   ⟨some 36, .ld 1 false (.t 35), none, 0⟩,
   ⟨some 37, .eq .int false (.t 36) (.c (.d (.v (.int .i64 0)))), none, 0⟩,
   ⟨some 38, .mv (.t 37), none, 0⟩,
   ⟨some 39, .mv (.t 3), some (38, true), 0⟩,
   ⟨some 40, .mv (.t 5), some (38, true), 0⟩,
   ⟨some 41, .ixs 3 (.t 39) (.t 40), some (38, true), 0⟩,
   ⟨some 42, .fa 1 (.t 41), some (38, true), 0⟩,
   ⟨some 43, .ld 1 false (.t 42), some (38, true), 0⟩,
   ⟨some 44, .eq .int false (.t 43) (.c (.d (.v (.int .i64 2)))), some (38, true), 0⟩,
   ⟨some 45, .pick (.t 38) (.t 44) (.c (.d (.v (.bool false)))), none, 0⟩])
 (.cond 45 (.reg false [⟨some 6, .mv (.c (.d (.v (.int .u64 1)))), none, 0⟩])
   (.skip))
def K35_7 : CC := .seq (.reg false [⟨some 18, .mv (.t 3), none, 0⟩,
   ⟨some 19, .mv (.t 5), none, 0⟩,
   ⟨some 20, .ixs 3 (.t 18) (.t 19), none, 0⟩,
   ⟨some 21, .fa 0 (.t 20), none, 0⟩,
   ⟨some 22, .ld 1 false (.t 21), none, 0⟩,
   ⟨some 23, .eq .int false (.t 22) (.c (.d (.v (.int .i64 0)))), none, 0⟩,
   ⟨some 24, .mv (.t 23), none, 0⟩,
   ⟨some 25, .mv (.t 3), some (24, true), 0⟩,
   ⟨some 26, .mv (.t 5), some (24, true), 0⟩,
   ⟨some 27, .ixs 3 (.t 25) (.t 26), some (24, true), 0⟩,
   ⟨some 28, .fa 1 (.t 27), some (24, true), 0⟩,
   ⟨some 29, .ld 1 false (.t 28), some (24, true), 0⟩,
   ⟨some 30, .eq .int false (.t 29) (.c (.d (.v (.int .i64 0)))), some (24, true), 0⟩,
   ⟨some 31, .pick (.t 24) (.t 30) (.c (.d (.v (.bool false)))), none, 0⟩])
 (.cond 31 (.reg false [⟨some 6, .mv (.c (.d (.v (.int .u64 2)))), none, 0⟩])
   (.skip))
def K35_8 : CC := .reg false [⟨some 6, .mv (.c (.d (.v (.int .u64 0)))), none, 0⟩]
def K35_9 : CC := .seq (.reg false [⟨some 12, .mv (.t 5), none, 0⟩,
   ⟨some 13, .mv (.t 3), none, 0⟩,
   ⟨some 14, .len (.t 13), none, 0⟩,
   ⟨some 15, .bin .lss (.t 12) (.t 14), none, 0⟩])
 (.cond 15 (.skip)
   (.exit 0))
def L35_10 : CC := .seq K35_9 (.seq (.block 1 (.seq K35_8 (.seq K35_7 (.seq K35_6 (.seq K35_5 (.seq K35_4 K35_3)))))) K35_2)
def K35_11 : CC := .reg false [⟨some 5, .mv (.c (.d (.v (.int .i64 0)))), none, 0⟩]
def K35_12 : CC := .reg false [⟨some 4, .mv (.c (.d (.v (.slice none 0 0)))), none, 0⟩]
def K35_13 : CC := .reg false [⟨some 10, .ld 8 true (.t 1), none, 0⟩,
   ⟨some 11, .call (.c (.fn (.func 20) [] [])) [.t 10], none, 0⟩,
   ⟨some 3, .mv (.t 11), none, 0⟩]
def K35_14 : CC := .seq (.reg false [⟨some 7, .ld 8 true (.t 1), none, 0⟩,
   ⟨some 8, .call (.c (.fn (.func 19) [] [])) [.t 7], none, 0⟩,
   ⟨some 9, .eq .int true (.t 8) (.c (.d (.v (.int .i64 0)))), none, 0⟩])
 (.cond 9 (.seq (.reg false [⟨some 2, .mv (.c (.d (.v (.slice none 0 0)))), none, 0⟩])
   (.ret))
   (.skip))
def K35_15 : CC := .reg false [⟨some 1, .box 24 8 (.t 0), none, 0⟩,
   ⟨some 2, .mv (.c (.d (.v (.slice none 0 0)))), none, 0⟩]
/-- coatcheck/coatcheckref02.First -/
def C35 : CF := ⟨1, [(2, none)],
 .seq K35_15 (.seq K35_14 (.seq K35_13 (.seq K35_12 (.seq (.seq K35_11 (.block 0 (.loop L35_10))) K35_1))))⟩
theorem c35 : coF Try.prog Try.f35 = some C35 := by kernel_rfl
def A35 : Ann := { keep := [0, 1, 2, 3, 4, 5, 6, 9, 15, 31, 45, 51, 69], live := [(0, [1, 3, 4, 5])] }
def E35 {Ω : Type} : Env Ω := econs 19 S19 (econs 20 S20n (econs 69 S69 (enil)))
theorem e35 : GoodE Try.prog E35 := GoodE.cons g19 (GoodE.cons g20n (GoodE.cons g69 (GoodE.nil)))
def Z35_10 {Ω : Type} (it : Itr Ω) (K : SV → SH → Option Ω) : SE → SS → Option Ω := kblk 0 (kseq it E35 A35 K35_1 0 (kfn C35 K))
end Go.Sx.Pr
