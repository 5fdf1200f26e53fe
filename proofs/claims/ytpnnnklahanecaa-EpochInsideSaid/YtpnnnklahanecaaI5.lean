/- Pieces of the code of functions, compiled for the symbolic interpreter, each checked against the program; no conditions. -/
import Derived.Test.YtpnnnklahanecaaI4
import Derived.Test.YtpnnnklahanecaaRows
import Derived.KernelRfl
namespace Go.Sx.Pr
open Go Go.Sx Go.Proofs
set_option maxRecDepth 100000
def K13_1 : CC := .seq (.reg false [⟨some 79, .ld 8 true (.t 3), none, 0⟩,
   ⟨some 80, .mv (.t 1), none, 0⟩,
   ⟨some 81, .call (.c (.fn (.func 59) [] [])) [.t 79, .t 80], none, 0⟩,
   ⟨some 78, .mv (.t 81), none, 0⟩,
   ⟨some 82, .ext 0 (.t 78), none, 0⟩,
   ⟨some 83, .ext 1 (.t 78), none, 0⟩,
   ⟨some 16, .mv (.t 82), none, 0⟩,
   ⟨some 17, .mv (.t 83), none, 0⟩])
 (.seq (.reg false [⟨some 84, .mv (.t 16), none, 0⟩,
   ⟨some 85, .mv (.t 11), none, 0⟩,
   ⟨some 86, .eq .int false (.t 84) (.t 85), none, 0⟩,
   ⟨some 87, .mv (.t 86), none, 0⟩,
   ⟨some 88, .mv (.t 17), some (87, true), 0⟩,
   ⟨some 89, .mv (.t 12), some (87, true), 0⟩,
   ⟨some 90, .eq .bool false (.t 88) (.t 89), some (87, true), 0⟩,
   ⟨some 91, .pick (.t 87) (.t 90) (.c (.d (.v (.bool false)))), none, 0⟩,
   ⟨some 6, .mv (.t 91), none, 0⟩])
 (.ret))
def K13_2 : CC := .seq (.block 1 (.seq (.reg false [⟨some 61, .ld 8 true (.t 3), none, 0⟩,
     ⟨some 62, .mv (.t 1), none, 0⟩,
     ⟨some 63, .mv (.t 13), none, 0⟩,
     ⟨some 64, .call (.c (.fn (.func 58) [] [])) [.t 61, .t 62, .t 63], none, 0⟩,
     ⟨some 60, .mv (.t 64), none, 0⟩,
     ⟨some 65, .ext 0 (.t 60), none, 0⟩,
     ⟨some 66, .ext 1 (.t 60), none, 0⟩,
     ⟨some 14, .mv (.t 65), none, 0⟩,
     ⟨some 15, .mv (.t 66), none, 0⟩])
   (.seq (.reg false [⟨some 67, .mv (.t 15), none, 0⟩,
     ⟨some 68, .mv (.t 67), none, 0⟩,
     ⟨some 69, .mv (.t 12), some (68, true), 0⟩,
     ⟨some 70, .un .not (.t 69), some (68, true), 0⟩,
     ⟨some 71, .mv (.t 70), some (68, true), 0⟩,
     ⟨some 72, .mv (.t 14), some (71, false), 0⟩,
     ⟨some 73, .mv (.t 11), some (71, false), 0⟩,
     ⟨some 74, .bin .lss (.t 72) (.t 73), some (71, false), 0⟩,
     ⟨some 75, .pick (.t 71) (.c (.d (.v (.bool true)))) (.t 74), some (68, true), 0⟩,
     ⟨some 76, .pick (.t 68) (.t 75) (.c (.d (.v (.bool false)))), none, 0⟩])
   (.cond 76 (.reg false [⟨some 77, .mv (.t 14), none, 0⟩,
       ⟨some 11, .mv (.t 77), none, 0⟩,
       ⟨some 12, .mv (.c (.d (.v (.bool true)))), none, 0⟩])
     (.skip)))))
 (.reg false [⟨some 58, .mv (.t 13), none, 0⟩,
   ⟨some 59, .bin .add (.t 58) (.c (.d (.v (.int .i64 1)))), none, 0⟩,
   ⟨some 13, .mv (.t 59), none, 0⟩])
def K13_3 : CC := .seq (.reg false [⟨some 49, .ld 8 true (.t 3), none, 0⟩,
   ⟨some 50, .call (.c (.fn (.func 19) [] [])) [.t 49], none, 0⟩,
   ⟨some 51, .eq .int false (.t 50) (.c (.d (.v (.int .i64 0)))), none, 0⟩,
   ⟨some 52, .mv (.t 51), none, 0⟩,
   ⟨some 53, .mv (.t 13), some (52, true), 0⟩,
   ⟨some 54, .fa 0 (.t 3), some (52, true), 0⟩,
   ⟨some 55, .ld 1 false (.t 54), some (52, true), 0⟩,
   ⟨some 56, .bin .lss (.t 53) (.t 55), some (52, true), 0⟩,
   ⟨some 57, .pick (.t 52) (.t 56) (.c (.d (.v (.bool false)))), none, 0⟩])
 (.cond 57 (.skip)
   (.exit 0))
def L13_4 : CC := .seq K13_3 K13_2
def K13_5 : CC := .reg false [⟨some 13, .mv (.c (.d (.v (.int .i64 0)))), none, 0⟩]
def K13_6 : CC := .reg false [⟨some 11, .mv (.c (.d (.v (.int .u64 0)))), none, 0⟩,
   ⟨some 12, .mv (.c (.d (.v (.bool false)))), none, 0⟩]
def K13_7 : CC := .seq (.reg false [⟨some 41, .mv (.t 7), none, 0⟩,
   ⟨some 42, .mv (.t 9), none, 0⟩,
   ⟨some 43, .eq .int true (.t 41) (.t 42), none, 0⟩,
   ⟨some 44, .mv (.t 43), none, 0⟩,
   ⟨some 45, .mv (.t 8), some (44, false), 0⟩,
   ⟨some 46, .mv (.t 10), some (44, false), 0⟩,
   ⟨some 47, .eq .bool true (.t 45) (.t 46), some (44, false), 0⟩,
   ⟨some 48, .pick (.t 44) (.c (.d (.v (.bool true)))) (.t 47), none, 0⟩])
 (.cond 48 (.seq (.reg false [⟨some 6, .mv (.c (.d (.v (.bool false)))), none, 0⟩])
   (.ret))
   (.skip))
def K13_8 : CC := .reg false [⟨some 35, .ld 8 true (.t 3), none, 0⟩,
   ⟨some 36, .mv (.t 1), none, 0⟩,
   ⟨some 37, .mv (.t 2), none, 0⟩,
   ⟨some 38, .call (.c (.fn (.func 58) [] [])) [.t 35, .t 36, .t 37], none, 0⟩,
   ⟨some 34, .mv (.t 38), none, 0⟩,
   ⟨some 39, .ext 0 (.t 34), none, 0⟩,
   ⟨some 40, .ext 1 (.t 34), none, 0⟩,
   ⟨some 9, .mv (.t 39), none, 0⟩,
   ⟨some 10, .mv (.t 40), none, 0⟩]
def K13_9 : CC := .reg false [⟨some 28, .ld 8 true (.t 3), none, 0⟩,
   ⟨some 29, .mv (.t 1), none, 0⟩,
   ⟨some 30, .mv (.t 2), none, 0⟩,
   ⟨some 31, .call (.c (.fn (.func 57) [] [])) [.t 28, .t 29, .t 30], none, 0⟩,
   ⟨some 27, .mv (.t 31), none, 0⟩,
   ⟨some 32, .ext 0 (.t 27), none, 0⟩,
   ⟨some 33, .ext 1 (.t 27), none, 0⟩,
   ⟨some 7, .mv (.t 32), none, 0⟩,
   ⟨some 8, .mv (.t 33), none, 0⟩]
def K13_10 : CC := .seq (.reg false [⟨some 20, .ld 8 true (.t 3), none, 0⟩,
   ⟨some 21, .call (.c (.fn (.func 16) [] [])) [.t 20], none, 0⟩,
   ⟨some 22, .mv (.t 21), none, 0⟩,
   ⟨some 23, .mv (.t 1), some (22, false), 0⟩,
   ⟨some 24, .len (.t 23), some (22, false), 0⟩,
   ⟨some 25, .bin .gtr (.t 24) (.c (.d (.v (.int .i64 400)))), some (22, false), 0⟩,
   ⟨some 26, .pick (.t 22) (.c (.d (.v (.bool true)))) (.t 25), none, 0⟩])
 (.cond 26 (.seq (.reg false [⟨some 6, .mv (.c (.d (.v (.bool true)))), none, 0⟩])
   (.ret))
   (.skip))
def K13_11 : CC := .seq (.reg false [⟨some 18, .call (.c (.fn (.func 53) [] [])) [], none, 0⟩,
   ⟨some 19, .un .not (.t 18), none, 0⟩])
 (.cond 19 (.seq (.reg false [⟨some 6, .mv (.c (.d (.v (.bool false)))), none, 0⟩])
   (.ret))
   (.skip))
def K13_12 : CC := .reg false [⟨some 3, .box 24 8 (.t 0), none, 0⟩,
   ⟨some 6, .mv (.c (.d (.v (.bool false)))), none, 0⟩]
/-- coatcheck/coatchecklaw07.EpochInside -/
def C13 : CF := ⟨3, [(6, none)],
 .seq K13_12 (.seq K13_11 (.seq K13_10 (.seq K13_9 (.seq K13_8 (.seq K13_7 (.seq K13_6 (.seq (.seq K13_5 (.block 0 (.loop L13_4))) K13_1)))))))⟩
theorem c13 : coF Try.prog Try.f13 = some C13 := by kernel_rfl
def A13 : Ann := { keep := [0, 1, 2, 3, 6, 7, 8, 9, 10, 11, 12, 13, 14, 15, 16, 17, 19, 26, 48, 57, 76], live := [(0, [1, 3, 11, 12, 13])] }
def E13 {Ω : Type} : Env Ω := econs 16 S16 (econs 19 S19 (econs 53 S53 (econs 57 S57 (econs 58 S58 (econs 59 S59 (enil))))))
theorem e13 : GoodE Try.prog E13 := GoodE.cons g16 (GoodE.cons g19 (GoodE.cons g53 (GoodE.cons g57 (GoodE.cons g58 (GoodE.cons g59 (GoodE.nil))))))
def Z13_4 {Ω : Type} (it : Itr Ω) (K : SV → SH → Option Ω) : SE → SS → Option Ω := kblk 0 (kseq it E13 A13 K13_1 0 (kfn C13 K))
end Go.Sx.Pr
