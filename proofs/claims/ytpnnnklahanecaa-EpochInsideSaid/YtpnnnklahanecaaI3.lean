/- Pieces of the code of functions, compiled for the symbolic interpreter, each checked against the program; no conditions. -/
import Derived.Test.YtpnnnklahanecaaI2
import Derived.Test.YtpnnnklahanecaaRows
import Derived.KernelRfl
namespace Go.Sx.Pr
open Go Go.Sx Go.Proofs
set_option maxRecDepth 100000
def K59_1 : CC := .seq (.reg false [⟨some 37, .mv (.t 6), none, 0⟩,
   ⟨some 38, .mv (.t 7), none, 0⟩,
   ⟨some 4, .mv (.t 37), none, 0⟩,
   ⟨some 5, .mv (.t 38), none, 0⟩])
 (.ret)
def K59_2 : CC := .reg false [⟨some 36, .bin .add (.t 15) (.c (.d (.v (.int .i64 1)))), none, 0⟩,
   ⟨some 15, .mv (.t 36), none, 0⟩]
def K59_3 : CC := .block 1 (.seq (.reg false [⟨some 17, .mv (.t 15), none, 0⟩,
     ⟨some 8, .mv (.t 17), none, 0⟩])
   (.seq (.reg false [⟨some 19, .ld 8 true (.t 2), none, 0⟩,
     ⟨some 20, .mv (.t 1), none, 0⟩,
     ⟨some 21, .mv (.t 8), none, 0⟩,
     ⟨some 22, .call (.c (.fn (.func 57) [] [])) [.t 19, .t 20, .t 21], none, 0⟩,
     ⟨some 18, .mv (.t 22), none, 0⟩,
     ⟨some 23, .ext 0 (.t 18), none, 0⟩,
     ⟨some 24, .ext 1 (.t 18), none, 0⟩,
     ⟨some 9, .mv (.t 23), none, 0⟩,
     ⟨some 10, .mv (.t 24), none, 0⟩])
   (.seq (.reg false [⟨some 25, .mv (.t 10), none, 0⟩,
     ⟨some 26, .mv (.t 25), none, 0⟩,
     ⟨some 27, .mv (.t 7), some (26, true), 0⟩,
     ⟨some 28, .un .not (.t 27), some (26, true), 0⟩,
     ⟨some 29, .mv (.t 28), some (26, true), 0⟩,
     ⟨some 30, .mv (.t 9), some (29, false), 0⟩,
     ⟨some 31, .mv (.t 6), some (29, false), 0⟩,
     ⟨some 32, .bin .lss (.t 30) (.t 31), some (29, false), 0⟩,
     ⟨some 33, .pick (.t 29) (.c (.d (.v (.bool true)))) (.t 32), some (26, true), 0⟩,
     ⟨some 34, .pick (.t 26) (.t 33) (.c (.d (.v (.bool false)))), none, 0⟩])
   (.cond 34 (.reg false [⟨some 35, .mv (.t 9), none, 0⟩,
       ⟨some 6, .mv (.t 35), none, 0⟩,
       ⟨some 7, .mv (.c (.d (.v (.bool true)))), none, 0⟩])
     (.skip)))))
def K59_4 : CC := .cond 16 (.skip)
   (.exit 0)
def K59_5 : CC := .reg false [⟨some 16, .bin .lss (.t 15) (.t 14), none, 0⟩]
def L59_6 : CC := .seq K59_5 (.seq K59_4 (.seq K59_3 K59_2))
def K59_7 : CC := .reg false [⟨some 11, .fa 0 (.t 2), none, 0⟩,
   ⟨some 12, .ld 1 false (.t 11), none, 0⟩,
   ⟨some 13, .mx (.t 12) (.c (.d (.v (.int .i64 0)))), none, 0⟩,
   ⟨some 14, .mn (.t 13) (.c (.d (.v (.int .i64 8)))), none, 0⟩,
   ⟨some 15, .mv (.c (.d (.v (.int .i64 0)))), none, 0⟩]
def K59_8 : CC := .reg false [⟨some 7, .mv (.c (.d (.v (.bool false)))), none, 0⟩]
def K59_9 : CC := .reg false [⟨some 6, .mv (.c (.d (.v (.int .u64 0)))), none, 0⟩]
def K59_10 : CC := .reg false [⟨some 2, .box 24 8 (.t 0), none, 0⟩,
   ⟨some 4, .mv (.c (.d (.v (.int .u64 0)))), none, 0⟩,
   ⟨some 5, .mv (.c (.d (.v (.bool false)))), none, 0⟩]
/-- coatcheck/epoch.Least -/
def C59 : CF := ⟨2, [(4, none), (5, none)],
 .seq K59_10 (.seq K59_9 (.seq K59_8 (.seq (.seq K59_7 (.block 0 (.loop L59_6))) K59_1)))⟩
theorem c59 : coF Try.prog Try.f59 = some C59 := by kernel_rfl
def A59 : Ann := { keep := [0, 1, 2, 4, 5, 6, 7, 8, 9, 10, 14, 15, 16, 34], live := [(0, [1, 2, 6, 7, 14, 15])] }
def E59 {Ω : Type} : Env Ω := econs 57 S57 (enil)
theorem e59 : GoodE Try.prog E59 := GoodE.cons g57 (GoodE.nil)
def Z59_6 {Ω : Type} (it : Itr Ω) (K : SV → SH → Option Ω) : SE → SS → Option Ω := kblk 0 (kseq it E59 A59 K59_1 0 (kfn C59 K))
def K53_1 : CC := .seq (.reg true [⟨some 38, .ld 8 true (.t 1), none, 0⟩,
   ⟨some 39, .mv (.t 2), none, 0⟩,
   ⟨some 40, .call (.c (.fn (.func 33) [] [])) [.t 39], none, 2⟩,
   ⟨some 41, .call (.c (.fn (.func 57) [] [])) [.t 38, .t 40, .c (.d (.v (.int .i64 0)))], none, 7⟩,
   ⟨some 37, .mv (.t 41), none, 15⟩,
   ⟨some 42, .ext 0 (.t 37), none, 31⟩,
   ⟨some 43, .ext 1 (.t 37), none, 31⟩,
   ⟨some 7, .mv (.t 42), none, 63⟩,
   ⟨some 8, .mv (.t 43), none, 255⟩])
 (.seq (.reg false [⟨some 44, .mv (.t 5), none, 0⟩,
   ⟨some 45, .eq .int false (.t 44) (.c (.d (.v (.int .i64 1)))), none, 0⟩,
   ⟨some 46, .mv (.t 45), none, 0⟩,
   ⟨some 47, .mv (.t 8), some (46, true), 0⟩,
   ⟨some 48, .pick (.t 46) (.t 47) (.c (.d (.v (.bool false)))), none, 0⟩,
   ⟨some 49, .mv (.t 48), none, 0⟩,
   ⟨some 50, .mv (.t 7), some (49, true), 0⟩,
   ⟨some 51, .eq .int false (.t 50) (.c (.d (.v (.int .u64 2)))), some (49, true), 0⟩,
   ⟨some 52, .pick (.t 49) (.t 51) (.c (.d (.v (.bool false)))), none, 0⟩,
   ⟨some 0, .mv (.t 52), none, 0⟩])
 (.ret))
def L53_2 : CC := .seq (.seq (.reg false [⟨some 22, .mv (.t 6), none, 0⟩,
   ⟨some 23, .bin .lss (.t 22) (.c (.d (.v (.int .i64 3)))), none, 0⟩,
   ⟨some 24, .mv (.t 23), none, 0⟩,
   ⟨some 25, .mv (.t 5), some (24, true), 0⟩,
   ⟨some 26, .eq .int false (.t 25) (.c (.d (.v (.int .i64 0)))), some (24, true), 0⟩,
   ⟨some 27, .pick (.t 24) (.t 26) (.c (.d (.v (.bool false)))), none, 0⟩])
 (.cond 27 (.skip)
   (.exit 0)))
 (.seq (.block 1 (.reg false [⟨some 31, .mv (.t 2), none, 0⟩,
     ⟨some 32, .ld 33 true (.t 4), none, 0⟩,
     ⟨some 33, .call (.c (.fn (.func 54) [] [])) [.t 31, .c (.d (.v (.int .i64 0))), .t 32], none, 0⟩,
     ⟨some 30, .mv (.t 33), none, 0⟩,
     ⟨some 34, .ext 0 (.t 30), none, 0⟩,
     ⟨some 35, .ext 1 (.t 30), none, 0⟩,
     ⟨some 36, .ext 2 (.t 30), none, 0⟩,
     ⟨none, .st 33 (.t 4) (.t 34), none, 0⟩,
     ⟨some 5, .mv (.t 35), none, 0⟩]))
 (.reg false [⟨some 28, .mv (.t 6), none, 0⟩,
   ⟨some 29, .bin .add (.t 28) (.c (.d (.v (.int .i64 1)))), none, 0⟩,
   ⟨some 6, .mv (.t 29), none, 0⟩]))
def K53_3 : CC := .reg false [⟨some 6, .mv (.c (.d (.v (.int .i64 0)))), none, 0⟩]
def K53_4 : CC := .reg false [⟨some 5, .mv (.c (.d (.v (.int .i64 0)))), none, 0⟩]
def K53_5 : CC := .reg false [⟨some 21, .bld [.d (.v (.int .i64 0)), .d (.v (.int .i64 0)), .d (.v (.int .u64 0)), .d (.v (.int .u64 0)), .d (.v (.int .i64 0)), .d (.v (.bool false)), .d (.v (.int .i64 0)), .d (.v (.int .i64 0)), .d (.v (.bool false)), .d (.v (.int .u64 0)), .d (.v (.slice none 0 0)), .d (.v (.int .u64 0)), .d (.v (.slice none 0 0)), .d (.v (.int .u64 0)), .d (.v (.slice none 0 0)), .d (.v (.int .u64 0)), .d (.v (.slice none 0 0)), .d (.v (.slice none 0 0)), .d (.v (.int .i64 0)), .d (.v (.int .i64 0)), .d (.v (.int .i64 0)), .d (.v (.int .i64 0)), .d (.v (.int .i64 0)), .d (.v (.int .u64 0)), .d (.v (.int .u64 0)), .d (.v (.int .u64 0)), .d (.v (.int .u64 0)), .d (.v (.int .u64 0)), .d (.v (.int .i64 0)), .d (.v (.slice none 0 0)), .d (.v (.int .u64 0)), .d (.v (.int .i64 0)), .d (.v (.bool false))] [(0, 1, .c (.d (.v (.int .i64 1))))], none, 0⟩,
   ⟨some 4, .newc 73 [.d (.v (.int .i64 0)), .d (.v (.int .i64 0)), .d (.v (.int .u64 0)), .d (.v (.int .u64 0)), .d (.v (.int .i64 0)), .d (.v (.bool false)), .d (.v (.int .i64 0)), .d (.v (.int .i64 0)), .d (.v (.bool false)), .d (.v (.int .u64 0)), .d (.v (.slice none 0 0)), .d (.v (.int .u64 0)), .d (.v (.slice none 0 0)), .d (.v (.int .u64 0)), .d (.v (.slice none 0 0)), .d (.v (.int .u64 0)), .d (.v (.slice none 0 0)), .d (.v (.slice none 0 0)), .d (.v (.int .i64 0)), .d (.v (.int .i64 0)), .d (.v (.int .i64 0)), .d (.v (.int .i64 0)), .d (.v (.int .i64 0)), .d (.v (.int .u64 0)), .d (.v (.int .u64 0)), .d (.v (.int .u64 0)), .d (.v (.int .u64 0)), .d (.v (.int .u64 0)), .d (.v (.int .i64 0)), .d (.v (.slice none 0 0)), .d (.v (.int .u64 0)), .d (.v (.int .i64 0)), .d (.v (.bool false))], none, 0⟩,
   ⟨none, .st 33 (.t 4) (.t 21), none, 0⟩]
def K53_6 : CC := .seq (.reg false [⟨some 15, .mv (.t 3), none, 0⟩,
   ⟨some 16, .eq .int true (.t 15) (.c (.d (.v (.int .i64 0)))), none, 0⟩,
   ⟨some 17, .mv (.t 16), none, 0⟩,
   ⟨some 18, .mv (.t 2), some (17, false), 0⟩,
   ⟨some 19, .eq .ptr false (.t 18) (.c (.d (.v (.pointer none)))), some (17, false), 0⟩,
   ⟨some 20, .pick (.t 17) (.c (.d (.v (.bool true)))) (.t 19), none, 0⟩])
 (.cond 20 (.seq (.reg false [⟨some 0, .mv (.c (.d (.v (.bool false)))), none, 0⟩])
   (.ret))
   (.skip))
def K53_7 : CC := .reg false [⟨some 11, .ld 8 true (.t 1), none, 0⟩,
   ⟨some 12, .call (.c (.fn (.func 34) [] [])) [.t 11], none, 0⟩,
   ⟨some 10, .mv (.t 12), none, 0⟩,
   ⟨some 13, .ext 0 (.t 10), none, 0⟩,
   ⟨some 14, .ext 1 (.t 10), none, 0⟩,
   ⟨some 2, .mv (.t 13), none, 0⟩,
   ⟨some 3, .mv (.t 14), none, 0⟩]
def K53_8 : CC := .reg false [⟨some 9, .bld [.d (.v (.int .i64 0)), .d (.v (.int .i64 0)), .d (.v (.int .i64 0)), .d (.v (.int .i64 0)), .d (.v (.int .i64 0)), .d (.v (.int .i64 0)), .d (.v (.int .i64 0)), .d (.v (.int .u64 0))] [(0, 1, .c (.d (.v (.int .i64 1)))), (1, 1, .c (.d (.v (.int .i64 1)))), (2, 1, .c (.d (.v (.int .i64 1)))), (3, 1, .c (.d (.v (.int .i64 1)))), (4, 1, .c (.d (.v (.int .i64 1)))), (6, 1, .c (.d (.v (.int .i64 1)))), (7, 1, .c (.d (.v (.int .u64 1))))], none, 0⟩,
   ⟨some 1, .newc 24 [.d (.v (.int .i64 0)), .d (.v (.int .i64 0)), .d (.v (.int .i64 0)), .d (.v (.int .i64 0)), .d (.v (.int .i64 0)), .d (.v (.int .i64 0)), .d (.v (.int .i64 0)), .d (.v (.int .u64 0))], none, 0⟩,
   ⟨none, .st 8 (.t 1) (.t 9), none, 0⟩]
def K53_9 : CC := .reg false [⟨some 0, .mv (.c (.d (.v (.bool false)))), none, 0⟩]
/-- coatcheck/coatchecklaw07.awake -/
def C53 : CF := ⟨0, [(0, none)],
 .seq K53_9 (.seq K53_8 (.seq K53_7 (.seq K53_6 (.seq K53_5 (.seq K53_4 (.seq (.seq K53_3 (.block 0 (.loop L53_2))) K53_1))))))⟩
theorem c53 : coF Try.prog Try.f53 = some C53 := by kernel_rfl
def A53 : Ann := { keep := [0, 1, 2, 3, 4, 5, 6, 7, 8, 20, 27], live := [(0, [1, 2, 4, 5, 6])] }
def E53 {Ω : Type} : Env Ω := econs 33 S33 (econs 34 S34 (econs 54 S54 (econs 57 S57 (enil))))
theorem e53 : GoodE Try.prog E53 := GoodE.cons g33 (GoodE.cons g34 (GoodE.cons g54 (GoodE.cons g57 (GoodE.nil))))
def Z53_2 {Ω : Type} (it : Itr Ω) (K : SV → SH → Option Ω) : SE → SS → Option Ω := kblk 0 (kseq it E53 A53 K53_1 0 (kfn C53 K))
def S53 {Ω : Type} : Spec Ω := conSpec [] FTrue
theorem g53 : Good1 Try.prog 53 S53 := trueGood Try.func53 (by kernel_rfl) c53 (A := A53) e53 mix (by kernel_rfl)
end Go.Sx.Pr
