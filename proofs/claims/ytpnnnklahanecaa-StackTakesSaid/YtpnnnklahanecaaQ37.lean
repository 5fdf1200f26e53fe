/- Pieces of the code of functions, compiled for the symbolic interpreter, each checked against the program; no conditions. -/
import Derived.Test.YtpnnnklahanecaaQ34
import Derived.Test.YtpnnnklahanecaaQ34
import Derived.Test.YtpnnnklahanecaaRows
import Derived.KernelRfl
set_option linter.all false
set_option linter.unusedVariables false
set_option linter.unusedSimpArgs false
set_option linter.unnecessarySimpa false
namespace Go.Sx.Pr
open Go Go.Sx Go.Proofs
set_option maxRecDepth 100000
def K8_1 : CC := .seq (.reg false [⟨some 154, .mv (.t 17), none, 0⟩,
   ⟨some 155, .eq .int false (.t 154) (.c (.d (.v (.int .i64 1)))), none, 0⟩,
   ⟨some 156, .mv (.t 155), none, 0⟩,
   ⟨some 157, .mv (.t 20), some (156, true), 0⟩,
   ⟨some 158, .pick (.t 156) (.t 157) (.c (.d (.v (.bool false)))), none, 0⟩,
   ⟨some 159, .mv (.t 158), none, 0⟩,
   ⟨some 160, .mv (.t 22), some (159, true), 0⟩,
   ⟨some 161, .mv (.t 10), some (159, true), 0⟩,
   ⟨some 162, .call (.c (.fn (.func 52) [] [])) [.t 160, .t 161], some (159, true), 0⟩,
   ⟨some 163, .pick (.t 159) (.t 162) (.c (.d (.v (.bool false)))), none, 0⟩,
   ⟨some 164, .mv (.t 163), none, 0⟩,
   ⟨some 165, .mv (.t 24), some (164, true), 0⟩,
   ⟨some 166, .mv (.t 15), some (164, true), 0⟩,
   ⟨some 167, .bin .add (.t 166) (.c (.d (.v (.int .u64 2)))), some (164, true), 0⟩,
   ⟨some 168, .bin .rem (.t 167) (.c (.d (.v (.int .u64 4294967296)))), some (164, true), 0⟩,
   ⟨some 169, .eq .int false (.t 165) (.t 168), some (164, true), 0⟩,
   ⟨some 170, .pick (.t 164) (.t 169) (.c (.d (.v (.bool false)))), none, 0⟩,
   ⟨some 6, .mv (.t 170), none, 0⟩])
 (.ret)
def K8_2 : CC := .reg false [⟨some 148, .mv (.t 7), none, 0⟩,
   ⟨some 149, .mv (.t 13), none, 0⟩,
   ⟨some 150, .call (.c (.fn (.func 30) [] [])) [.t 148, .t 149], none, 0⟩,
   ⟨some 151, .call (.c (.fn (.func 51) [] [])) [.t 150], none, 0⟩,
   ⟨some 147, .mv (.t 151), none, 0⟩,
   ⟨some 152, .ext 0 (.t 147), none, 0⟩,
   ⟨some 153, .ext 1 (.t 147), none, 0⟩,
   ⟨some 23, .mv (.t 152), none, 0⟩,
   ⟨some 24, .mv (.t 153), none, 0⟩]
def K8_3 : CC := .reg true [⟨some 140, .ld 8 true (.t 3), none, 0⟩,
   ⟨some 141, .mv (.t 7), none, 0⟩,
   ⟨some 142, .call (.c (.fn (.func 33) [] [])) [.t 141], none, 2⟩,
   ⟨some 143, .mv (.t 2), none, 0⟩,
   ⟨some 144, .call (.c (.fn (.func 50) [] [])) [.t 140, .t 142, .t 143], none, 15⟩,
   ⟨some 139, .mv (.t 144), none, 31⟩,
   ⟨some 145, .ext 0 (.t 139), none, 63⟩,
   ⟨some 146, .ext 1 (.t 139), none, 63⟩,
   ⟨some 22, .mv (.t 145), none, 127⟩,
   ⟨some 20, .mv (.t 146), none, 511⟩]
def L8_4 : CC := .seq (.seq (.reg false [⟨some 124, .mv (.t 21), none, 0⟩,
   ⟨some 125, .bin .lss (.t 124) (.c (.d (.v (.int .i64 3)))), none, 0⟩,
   ⟨some 126, .mv (.t 125), none, 0⟩,
   ⟨some 127, .mv (.t 17), some (126, true), 0⟩,
   ⟨some 128, .eq .int false (.t 127) (.c (.d (.v (.int .i64 0)))), some (126, true), 0⟩,
   ⟨some 129, .pick (.t 126) (.t 128) (.c (.d (.v (.bool false)))), none, 0⟩])
 (.cond 129 (.skip)
   (.exit 2)))
 (.seq (.block 3 (.reg false [⟨some 133, .mv (.t 7), none, 0⟩,
     ⟨some 134, .ld 33 true (.t 16), none, 0⟩,
     ⟨some 135, .call (.c (.fn (.func 45) [] [])) [.t 133, .t 134], none, 0⟩,
     ⟨some 132, .mv (.t 135), none, 0⟩,
     ⟨some 136, .ext 0 (.t 132), none, 0⟩,
     ⟨some 137, .ext 1 (.t 132), none, 0⟩,
     ⟨some 138, .ext 2 (.t 132), none, 0⟩,
     ⟨none, .st 33 (.t 16) (.t 136), none, 0⟩,
     ⟨some 17, .mv (.t 137), none, 0⟩]))
 (.reg false [⟨some 130, .mv (.t 21), none, 0⟩,
   ⟨some 131, .bin .add (.t 130) (.c (.d (.v (.int .i64 1)))), none, 0⟩,
   ⟨some 21, .mv (.t 131), none, 0⟩]))
def K8_5 : CC := .reg false [⟨some 21, .mv (.c (.d (.v (.int .i64 0)))), none, 0⟩]
def K8_6 : CC := .reg false [⟨some 17, .mv (.c (.d (.v (.int .i64 0)))), none, 0⟩]
def K8_7 : CC := .reg true [⟨some 113, .mv (.t 12), none, 0⟩,
   ⟨some 114, .bin .add (.t 113) (.c (.d (.v (.int .i64 3)))), none, 1⟩,
   ⟨some 115, .mv (.t 10), none, 0⟩,
   ⟨some 116, .ixs 1 (.t 115) (.c (.d (.v (.int .i64 0)))), none, 4⟩,
   ⟨some 117, .ld 1 false (.t 116), none, 12⟩,
   ⟨some 118, .bin .add (.t 117) (.c (.d (.v (.int .i64 1)))), none, 28⟩,
   ⟨some 119, .mv (.t 10), none, 0⟩,
   ⟨some 120, .ixs 1 (.t 119) (.c (.d (.v (.int .i64 0)))), none, 64⟩,
   ⟨some 121, .ld 1 false (.t 120), none, 192⟩,
   ⟨some 122, .bin .add (.t 121) (.c (.d (.v (.int .i64 1)))), none, 448⟩,
   ⟨some 123, .bld [.d (.v (.int .i64 0)), .d (.v (.int .i64 0)), .d (.v (.int .u64 0)), .d (.v (.int .u64 0)), .d (.v (.int .i64 0)), .d (.v (.bool false)), .d (.v (.int .i64 0)), .d (.v (.int .i64 0)), .d (.v (.bool false)), .d (.v (.int .u64 0)), .d (.v (.slice none 0 0)), .d (.v (.int .u64 0)), .d (.v (.slice none 0 0)), .d (.v (.int .u64 0)), .d (.v (.slice none 0 0)), .d (.v (.int .u64 0)), .d (.v (.slice none 0 0)), .d (.v (.slice none 0 0)), .d (.v (.int .i64 0)), .d (.v (.int .i64 0)), .d (.v (.int .i64 0)), .d (.v (.int .i64 0)), .d (.v (.int .i64 0)), .d (.v (.int .u64 0)), .d (.v (.int .u64 0)), .d (.v (.int .u64 0)), .d (.v (.int .u64 0)), .d (.v (.int .u64 0)), .d (.v (.int .i64 0)), .d (.v (.slice none 0 0)), .d (.v (.int .u64 0)), .d (.v (.int .i64 0)), .d (.v (.bool false))] [(0, 1, .t 114), (19, 1, .t 118), (20, 1, .t 122)], none, 1023⟩,
   ⟨none, .st 33 (.t 16) (.t 123), none, 2047⟩]
def K8_8 : CC := .seq (.reg true [⟨some 90, .mv (.t 17), none, 0⟩,
   ⟨some 91, .eq .int true (.t 90) (.c (.d (.v (.int .i64 1)))), none, 1⟩,
   ⟨some 92, .mv (.t 91), none, 3⟩,
   ⟨some 93, .fa 23 (.t 16), some (92, false), 7⟩,
   ⟨some 94, .ld 1 false (.t 93), some (92, false), 15⟩,
   ⟨some 95, .conv .i64 (.t 94), some (92, false), 31⟩,
   ⟨some 96, .mv (.t 10), some (92, false), 7⟩,
   ⟨some 97, .ixs 1 (.t 96) (.c (.d (.v (.int .i64 0)))), some (92, false), 71⟩,
   ⟨some 98, .ld 1 false (.t 97), some (92, false), 199⟩,
   ⟨some 99, .bin .add (.t 98) (.c (.d (.v (.int .i64 1)))), some (92, false), 455⟩,
   ⟨some 100, .eq .int true (.t 95) (.t 99), some (92, false), 1023⟩,
   ⟨some 101, .pick (.t 92) (.c (.d (.v (.bool true)))) (.t 100), none, 2047⟩,
   ⟨some 102, .mv (.t 101), none, 4095⟩,
   ⟨some 103, .mv (.t 20), some (102, false), 8191⟩,
   ⟨some 104, .un .not (.t 103), some (102, false), 16383⟩,
   ⟨some 105, .pick (.t 102) (.c (.d (.v (.bool true)))) (.t 104), none, 32767⟩,
   ⟨some 106, .mv (.t 105), none, 65535⟩,
   ⟨some 107, .mv (.t 19), some (106, false), 131071⟩,
   ⟨some 108, .mv (.t 10), some (106, false), 131071⟩,
   ⟨some 109, .slc 1 (.t 108) (some (.c (.d (.v (.int .i64 1))))) none none, some (106, false), 393215⟩,
   ⟨some 110, .call (.c (.fn (.func 52) [] [])) [.t 107, .t 109], some (106, false), 1048575⟩,
   ⟨some 111, .un .not (.t 110), some (106, false), 2097151⟩,
   ⟨some 112, .pick (.t 106) (.c (.d (.v (.bool true)))) (.t 111), none, 4194303⟩])
 (.cond 112 (.seq (.reg false [⟨some 6, .mv (.c (.d (.v (.bool false)))), none, 0⟩])
   (.ret))
   (.skip))
def K8_9 : CC := .reg true [⟨some 83, .ld 8 true (.t 3), none, 0⟩,
   ⟨some 84, .mv (.t 7), none, 0⟩,
   ⟨some 85, .call (.c (.fn (.func 33) [] [])) [.t 84], none, 2⟩,
   ⟨some 86, .mv (.t 2), none, 0⟩,
   ⟨some 87, .call (.c (.fn (.func 50) [] [])) [.t 83, .t 85, .t 86], none, 15⟩,
   ⟨some 82, .mv (.t 87), none, 31⟩,
   ⟨some 88, .ext 0 (.t 82), none, 63⟩,
   ⟨some 89, .ext 1 (.t 82), none, 63⟩,
   ⟨some 19, .mv (.t 88), none, 127⟩,
   ⟨some 20, .mv (.t 89), none, 511⟩]
def K8_10 : CC := .seq (.reg false [⟨some 71, .mv (.t 10), none, 0⟩,
   ⟨some 72, .len (.t 71), none, 0⟩,
   ⟨some 73, .eq .int false (.t 72) (.c (.d (.v (.int .i64 0)))), none, 0⟩])
 (.cond 73 (.seq (.reg false [⟨some 74, .mv (.t 17), none, 0⟩,
     ⟨some 75, .eq .int false (.t 74) (.c (.d (.v (.int .i64 2)))), none, 0⟩,
     ⟨some 76, .mv (.t 75), none, 0⟩,
     ⟨some 77, .mv (.t 7), some (76, true), 0⟩,
     ⟨some 78, .call (.c (.fn (.func 33) [] [])) [.t 77], some (76, true), 0⟩,
     ⟨some 79, .mv (.t 1), some (76, true), 0⟩,
     ⟨some 80, .call (.c (.fn (.func 32) [] [])) [.t 78, .t 79], some (76, true), 0⟩,
     ⟨some 81, .pick (.t 76) (.t 80) (.c (.d (.v (.bool false)))), none, 0⟩,
     ⟨some 6, .mv (.t 81), none, 0⟩])
   (.ret))
   (.skip))
def L8_11 : CC := .seq (.seq (.reg false [⟨some 56, .mv (.t 18), none, 0⟩,
   ⟨some 57, .bin .lss (.t 56) (.c (.d (.v (.int .i64 3)))), none, 0⟩,
   ⟨some 58, .mv (.t 57), none, 0⟩,
   ⟨some 59, .mv (.t 17), some (58, true), 0⟩,
   ⟨some 60, .eq .int false (.t 59) (.c (.d (.v (.int .i64 0)))), some (58, true), 0⟩,
   ⟨some 61, .pick (.t 58) (.t 60) (.c (.d (.v (.bool false)))), none, 0⟩])
 (.cond 61 (.skip)
   (.exit 0)))
 (.seq (.block 1 (.reg false [⟨some 65, .mv (.t 7), none, 0⟩,
     ⟨some 66, .ld 33 true (.t 16), none, 0⟩,
     ⟨some 67, .call (.c (.fn (.func 45) [] [])) [.t 65, .t 66], none, 0⟩,
     ⟨some 64, .mv (.t 67), none, 0⟩,
     ⟨some 68, .ext 0 (.t 64), none, 0⟩,
     ⟨some 69, .ext 1 (.t 64), none, 0⟩,
     ⟨some 70, .ext 2 (.t 64), none, 0⟩,
     ⟨none, .st 33 (.t 16) (.t 68), none, 0⟩,
     ⟨some 17, .mv (.t 69), none, 0⟩]))
 (.reg false [⟨some 62, .mv (.t 18), none, 0⟩,
   ⟨some 63, .bin .add (.t 62) (.c (.d (.v (.int .i64 1)))), none, 0⟩,
   ⟨some 18, .mv (.t 63), none, 0⟩]))
def K8_12 : CC := .reg false [⟨some 18, .mv (.c (.d (.v (.int .i64 0)))), none, 0⟩]
def K8_13 : CC := .reg false [⟨some 17, .mv (.c (.d (.v (.int .i64 0)))), none, 0⟩]
def K8_14 : CC := .reg false [⟨some 54, .mv (.t 12), none, 0⟩,
   ⟨some 55, .bld [.d (.v (.int .i64 0)), .d (.v (.int .i64 0)), .d (.v (.int .u64 0)), .d (.v (.int .u64 0)), .d (.v (.int .i64 0)), .d (.v (.bool false)), .d (.v (.int .i64 0)), .d (.v (.int .i64 0)), .d (.v (.bool false)), .d (.v (.int .u64 0)), .d (.v (.slice none 0 0)), .d (.v (.int .u64 0)), .d (.v (.slice none 0 0)), .d (.v (.int .u64 0)), .d (.v (.slice none 0 0)), .d (.v (.int .u64 0)), .d (.v (.slice none 0 0)), .d (.v (.slice none 0 0)), .d (.v (.int .i64 0)), .d (.v (.int .i64 0)), .d (.v (.int .i64 0)), .d (.v (.int .i64 0)), .d (.v (.int .i64 0)), .d (.v (.int .u64 0)), .d (.v (.int .u64 0)), .d (.v (.int .u64 0)), .d (.v (.int .u64 0)), .d (.v (.int .u64 0)), .d (.v (.int .i64 0)), .d (.v (.slice none 0 0)), .d (.v (.int .u64 0)), .d (.v (.int .i64 0)), .d (.v (.bool false))] [(0, 1, .t 54)], none, 0⟩,
   ⟨some 16, .newc 73 [.d (.v (.int .i64 0)), .d (.v (.int .i64 0)), .d (.v (.int .u64 0)), .d (.v (.int .u64 0)), .d (.v (.int .i64 0)), .d (.v (.bool false)), .d (.v (.int .i64 0)), .d (.v (.int .i64 0)), .d (.v (.bool false)), .d (.v (.int .u64 0)), .d (.v (.slice none 0 0)), .d (.v (.int .u64 0)), .d (.v (.slice none 0 0)), .d (.v (.int .u64 0)), .d (.v (.slice none 0 0)), .d (.v (.int .u64 0)), .d (.v (.slice none 0 0)), .d (.v (.slice none 0 0)), .d (.v (.int .i64 0)), .d (.v (.int .i64 0)), .d (.v (.int .i64 0)), .d (.v (.int .i64 0)), .d (.v (.int .i64 0)), .d (.v (.int .u64 0)), .d (.v (.int .u64 0)), .d (.v (.int .u64 0)), .d (.v (.int .u64 0)), .d (.v (.int .u64 0)), .d (.v (.int .i64 0)), .d (.v (.slice none 0 0)), .d (.v (.int .u64 0)), .d (.v (.int .i64 0)), .d (.v (.bool false))], none, 0⟩,
   ⟨none, .st 33 (.t 16) (.t 55), none, 0⟩]
def K8_15 : CC := .reg false [⟨some 47, .mv (.t 1), none, 0⟩,
   ⟨some 48, .mv (.t 13), none, 0⟩,
   ⟨some 49, .ixs 1 (.t 47) (.t 48), none, 0⟩,
   ⟨some 50, .ld 1 false (.t 49), none, 0⟩,
   ⟨some 51, .call (.c (.fn (.func 51) [] [])) [.t 50], none, 0⟩,
   ⟨some 46, .mv (.t 51), none, 0⟩,
   ⟨some 52, .ext 0 (.t 46), none, 0⟩,
   ⟨some 53, .ext 1 (.t 46), none, 0⟩,
   ⟨some 14, .mv (.t 52), none, 0⟩,
   ⟨some 15, .mv (.t 53), none, 0⟩]
def K8_16 : CC := .seq (.reg false [⟨some 45, .mv (.t 2), none, 0⟩])
 (.cond 45 (.reg false [⟨some 12, .mv (.c (.d (.v (.int .i64 20)))), none, 0⟩,
     ⟨some 13, .mv (.c (.d (.v (.int .i64 2)))), none, 0⟩])
   (.skip))
def K8_17 : CC := .reg false [⟨some 12, .mv (.c (.d (.v (.int .i64 10)))), none, 0⟩,
   ⟨some 13, .mv (.c (.d (.v (.int .i64 1)))), none, 0⟩]
def K8_18 : CC := .seq (.reg false [⟨some 43, .mv (.t 11), none, 0⟩,
   ⟨some 44, .un .not (.t 43), none, 0⟩])
 (.cond 44 (.seq (.reg false [⟨some 6, .mv (.c (.d (.v (.bool true)))), none, 0⟩])
   (.ret))
   (.skip))
def K8_19 : CC := .reg false [⟨some 37, .ld 8 true (.t 3), none, 0⟩,
   ⟨some 38, .mv (.t 1), none, 0⟩,
   ⟨some 39, .mv (.t 2), none, 0⟩,
   ⟨some 40, .call (.c (.fn (.func 50) [] [])) [.t 37, .t 38, .t 39], none, 0⟩,
   ⟨some 36, .mv (.t 40), none, 0⟩,
   ⟨some 41, .ext 0 (.t 36), none, 0⟩,
   ⟨some 42, .ext 1 (.t 36), none, 0⟩,
   ⟨some 10, .mv (.t 41), none, 0⟩,
   ⟨some 11, .mv (.t 42), none, 0⟩]
def K8_20 : CC := .seq (.reg false [⟨some 34, .mv (.t 9), none, 0⟩,
   ⟨some 35, .un .not (.t 34), none, 0⟩])
 (.cond 35 (.seq (.reg false [⟨some 6, .mv (.c (.d (.v (.bool true)))), none, 0⟩])
   (.ret))
   (.skip))
def K8_21 : CC := .reg false [⟨some 28, .ld 8 true (.t 3), none, 0⟩,
   ⟨some 29, .mv (.t 1), none, 0⟩,
   ⟨some 30, .call (.c (.fn (.func 44) [] [])) [.t 28, .t 29], none, 0⟩,
   ⟨some 27, .mv (.t 30), none, 0⟩,
   ⟨some 31, .ext 0 (.t 27), none, 0⟩,
   ⟨some 32, .ext 1 (.t 27), none, 0⟩,
   ⟨some 33, .ext 2 (.t 27), none, 0⟩,
   ⟨some 7, .mv (.t 31), none, 0⟩,
   ⟨some 8, .mv (.t 32), none, 0⟩,
   ⟨some 9, .mv (.t 33), none, 0⟩]
def K8_22 : CC := .seq (.reg false [⟨some 25, .call (.c (.fn (.func 43) [] [])) [], none, 0⟩,
   ⟨some 26, .un .not (.t 25), none, 0⟩])
 (.cond 26 (.seq (.reg false [⟨some 6, .mv (.c (.d (.v (.bool false)))), none, 0⟩])
   (.ret))
   (.skip))
def K8_23 : CC := .reg false [⟨some 3, .box 24 8 (.t 0), none, 0⟩,
   ⟨some 6, .mv (.c (.d (.v (.bool false)))), none, 0⟩]
/-- coatcheck/coatchecklaw06.StackTakes -/
def C8 : CF := ⟨3, [(6, none)],
 .seq K8_23 (.seq K8_22 (.seq K8_21 (.seq K8_20 (.seq K8_19 (.seq K8_18 (.seq K8_17 (.seq K8_16 (.seq K8_15 (.seq K8_14 (.seq K8_13 (.seq (.seq K8_12 (.block 0 (.loop L8_11))) (.seq K8_10 (.seq K8_9 (.seq K8_8 (.seq K8_7 (.seq K8_6 (.seq (.seq K8_5 (.block 2 (.loop L8_4))) (.seq K8_3 (.seq K8_2 K8_1)))))))))))))))))))⟩
theorem c8 : coF Try.prog Try.f8 = some C8 := by kernel_rfl
def A8 : Ann := { keep := [0, 1, 2, 3, 6, 7, 9, 10, 11, 12, 13, 15, 16, 17, 18, 19, 20, 21, 22, 24, 26, 35, 44, 45, 61, 73, 112, 129], live := [(0, [1, 2, 3, 7, 10, 12, 13, 15, 16, 17, 18]), (2, [2, 3, 7, 10, 13, 15, 16, 17, 21])] }
def E8 {Ω : Type} : Env Ω := econs 30 S30m (econs 32 S32 (econs 33 S33c (econs 43 S43 (econs 44 S44c (econs 45 S45m (econs 50 S50f (econs 51 S51c (econs 52 S52 (enil)))))))))
theorem e8 : GoodE Try.prog E8 := GoodE.cons g30m (GoodE.cons g32 (GoodE.cons g33c (GoodE.cons g43 (GoodE.cons g44c (GoodE.cons g45m (GoodE.cons g50f (GoodE.cons g51c (GoodE.cons g52 (GoodE.nil)))))))))
def Z8_4 {Ω : Type} (it : Itr Ω) (K : SV → SH → Option Ω) : SE → SS → Option Ω := kblk 2 (kseq it E8 A8 (.seq K8_3 (.seq K8_2 K8_1)) 0 (kfn C8 K))
def Z8_11 {Ω : Type} (it : Itr Ω) (K : SV → SH → Option Ω) : SE → SS → Option Ω := kblk 0 (kseq it E8 A8 (.seq K8_10 (.seq K8_9 (.seq K8_8 (.seq K8_7 (.seq K8_6 (.seq (.seq K8_5 (.block 2 (.loop L8_4))) (.seq K8_3 (.seq K8_2 K8_1)))))))) 0 (kfn C8 K))
def E9 {Ω : Type} : Env Ω := econs 33 S33c (econs 34 S34 (econs 43 S43 (econs 45 S45m (econs 50 S50f (enil)))))
theorem e9 : GoodE Try.prog E9 := GoodE.cons g33c (GoodE.cons g34 (GoodE.cons g43 (GoodE.cons g45m (GoodE.cons g50f (GoodE.nil)))))
end Go.Sx.Pr

/- Taking from a free list and putting back, without interference. Plain Lean. -/
namespace Go.Sx.Pr
open Go Go.Sx Go.Sx.Md Go.Proofs

theorem listV_some {c : Cf} {ws : List Int} {en : Bool} {L : List Int} (h : listV c ws en = some L) : chkC c = 0 ∧ (ws.length : Int) = szC c ∧ Chain (nxtV c ws (kindL en)) (topV ws en) L ∧ L.Nodup ∧ (∀ i, i ∈ L → 0 ≤ i ∧ i < manyV c en) ∧ L.length ≤ 128 := by
  unfold listV at h
  cases e : (chkC c == 0) && ((ws.length : Int) == szC c) with
  | false => rw [e] at h; cases h
  | true =>
    rw [e, cond_true] at h
    simp only [Bool.and_eq_true, beq_iff_eq] at e
    obtain ⟨L', h1, h2, h3, h4⟩ := chain_chase (many := manyV c en) (fun i => nxt_lt.1) (by unfold topV; omega) (by simp) (by simp) h
    simp only [List.nil_append] at h1
    subst h1
    obtain ⟨m1, m2⟩ := many_le (en := en) e.1
    refine ⟨e.1, e.2, h2, h3, h4, ?_⟩
    have := nodup_le (E := (manyV c en).toNat) h3 (fun i hi => by have := h4 i hi; omega)
    omega

def headL (en : Bool) : Int := bif en then 2 else 1
def baseL (en : Bool) : Int := bif en then 20 else 10

/-- A memory of the right size. -/
structure MW (m : Mm) : Prop where
  ok : okM m = true
  sz : (m.ws.length : Int) = szC m.c
theorem MW.chk {m : Mm} (h : MW m) : chkC m.c = 0 := by
  have := h.ok
  simp only [okM, Bool.and_eq_true, beq_iff_eq] at this
  exact this.1
theorem MW.u {m : Mm} (h : MW m) : u64B m.ws = true := by
  have := h.ok
  simp only [okM, Bool.and_eq_true, beq_iff_eq] at this
  exact this.2
theorem MW.len {m : Mm} (h : MW m) : 3 ≤ m.ws.length := by
  have hs := szC_eq h.chk
  have := h.sz
  unfold sizeN at hs; omega
theorem ld_u {m : Mm} (h : u64B m.ws = true) (a : Int) : 0 ≤ mLoadV m a ∧ mLoadV m a ≤ 18446744073709551615 := by
  unfold mLoadV
  cases Mm.ok m a with
  | false => simp
  | true => exact uB_iff.1 (u64B_all h _)
theorem ld_get {m : Mm} {a : Int} (h : Mm.ok m a = true) : mLoadV m a = m.ws.getD a.toNat 0 := by
  unfold mLoadV; rw [h, cond_true]; rfl
theorem ok_nat {m : Mm} {k : Nat} (h : k < m.ws.length) : Mm.ok m (k : Int) = true := inB_of' (by omega) (by omega)
theorem top_ld {m : Mm} (h : MW m) (en : Bool) : topV m.ws en = mLoadV m (headL en) % 4294967296 := by
  have := h.len
  unfold topV
  cases en with
  | true =>
    have e := ld_get (m := m) (a := ((2 : Nat) : Int)) (ok_nat (by omega))
    show m.ws.getD 2 0 % 4294967296 = mLoadV m 2 % 4294967296
    rw [show mLoadV m 2 = m.ws.getD 2 0 from e]
  | false =>
    have e := ld_get (m := m) (a := ((1 : Nat) : Int)) (ok_nat (by omega))
    show m.ws.getD 1 0 % 4294967296 = mLoadV m 1 % 4294967296
    rw [show mLoadV m 1 = m.ws.getD 1 0 from e]
theorem nxt_ld {m : Mm} (h : MW m) {en : Bool} {i : Int} (h0 : 0 ≤ i) (h1 : i < manyV m.c en) : nxtV m.c m.ws (kindL en) i = mLoadV m (adr m.c (kindL en) i) % 4294967296 := by
  unfold nxtV
  rw [ld_get (show Mm.ok m (adr m.c (kindL en) i) = true from inBL h.chk h.sz h0 h1)]
theorem adr_in {c : Cf} (hc : chkC c = 0) {en : Bool} {i : Int} (h0 : 0 ≤ i) (h1 : i < manyV c en) : adr c (kindL en) i = bif en then 3 + c.a + c.b + 2 * i + 1 else 3 + c.a + c.b + 2 * c.e + (1 + c.d) * i := by
  cases en with
  | true => show atV c.a c.b c.c c.d c.e c.f c.g c.l 4 i 0 = _; rw [at4 hc]; exact if_pos ⟨h0, h1⟩
  | false => show atV c.a c.b c.c c.d c.e c.f c.g c.l 5 i 0 = _; rw [at5 hc]; exact if_pos ⟨h0, h1⟩
theorem adr_ne {c : Cf} (hc : chkC c = 0) {en : Bool} {i : Int} (h0 : 0 ≤ i) (h1 : i < manyV c en) : adr c (kindL en) i ≠ headL en := by
  rw [adr_in hc h0 h1]
  obtain ⟨⟨a1, a2⟩, ⟨b1, b2⟩, ⟨c1, c2⟩, ⟨d1, d2⟩, ⟨e1, e2⟩, _⟩ := chk_zero hc
  cases en with
  | true => show 3 + c.a + c.b + 2 * i + 1 ≠ 2; omega
  | false =>
    show 3 + c.a + c.b + 2 * c.e + (1 + c.d) * i ≠ 1
    have : 0 ≤ (1 + c.d) * i := Int.mul_nonneg (by omega) h0
    omega
theorem adr_inj {c : Cf} (hc : chkC c = 0) {en : Bool} {i j : Int} (h0 : 0 ≤ i) (h1 : i < manyV c en) (k0 : 0 ≤ j) (k1 : j < manyV c en) (e : adr c (kindL en) i = adr c (kindL en) j) : i = j := by
  rw [adr_in hc h0 h1, adr_in hc k0 k1] at e
  obtain ⟨⟨a1, a2⟩, ⟨b1, b2⟩, ⟨c1, c2⟩, ⟨d1, d2⟩, ⟨e1, e2⟩, _⟩ := chk_zero hc
  cases en with
  | true => simp only [cond_true] at e; omega
  | false =>
    simp only [cond_false] at e
    have : (1 + c.d) * i = (1 + c.d) * j := by omega
    exact Int.eq_of_mul_eq_mul_left (by omega) this

theorem listV_of {c : Cf} {ws : List Int} {en : Bool} {L : List Int} (h0 : chkC c = 0) (h1 : (ws.length : Int) = szC c) (hc : Chain (nxtV c ws (kindL en)) (topV ws en) L) (hd : L.Nodup) (hr : ∀ i, i ∈ L → 0 ≤ i ∧ i < manyV c en) : listV c ws en = some L := by
  unfold listV
  rw [h0, show ((0 : Int) == 0) = true from rfl, beq_iff_eq.2 h1, Bool.and_self, cond_true]
  obtain ⟨m1, m2⟩ := many_le (en := en) h0
  have hl := nodup_le (E := (manyV c en).toNat) hd (fun i hi => by have := hr i hi; omega)
  have := chase_chain (many := manyV c en) (f := (manyV c en).toNat + 1) (out := []) hc (by simpa using hd) hr (by omega)
  simpa using this

theorem MW.of {m m' : Mm} (h : MW m) (hc : m'.c = m.c) (hl : m'.ws.length = m.ws.length) (hok : okM m' = true) : MW m' := ⟨hok, by rw [hl, hc]; exact h.sz⟩

/-- The steps of one list. -/
theorem stepS_of {m : Mm} {x : Wk} (en : Bool) (k : Int) (hk : 0 ≤ k ∧ k ≤ 5) (hl : x.line = baseL en + k) : stepS m x = stepL (headL en) (kindL en) (baseL en) (w64' ((bif en then x.I else x.K) - 1)) m x := by
  unfold stepS
  cases en with
  | true =>
    have : x.line = 20 + k := hl
    rw [if_neg (by omega), if_pos (by omega)]; rfl
  | false =>
    have : x.line = 10 + k := hl
    rw [if_pos (by omega)]; rfl

section
variable {m : Mm} {en : Bool} {x : Wk}
theorem sL0 (hl : x.line = baseL en) : stepS m x = bif mLoadV m (headL en) % 4294967296 == 0 then ⟨mLoad m (headL en), { x with V := mLoadV m (headL en), H := mLoadV m (headL en) % 4294967296, line := 0 }, 2, true⟩ else ⟨mLoad m (headL en), { x with V := mLoadV m (headL en), H := mLoadV m (headL en) % 4294967296, line := baseL en + 1 }, 0, true⟩ := by
  rw [stepS_of en 0 (by omega) (by rw [hl]; omega)]
  unfold stepL
  rw [if_pos hl]
theorem sL1 (hl : x.line = baseL en + 1) : stepS m x = ⟨mLoad m (adr m.c (kindL en) (w64' (w64' x.H - 1))), { x with N := mLoadV m (adr m.c (kindL en) (w64' (w64' x.H - 1))), line := baseL en + 2 }, 0, true⟩ := by
  rw [stepS_of en 1 (by omega) hl]
  unfold stepL
  rw [if_neg (by omega), if_pos hl]
theorem sL2 (hl : x.line = baseL en + 2) : stepS m x = bif mCasB m (headL en) x.V then ⟨mCas m (headL en) x.V (pHead (x.N % 4294967296 - 1) (x.V / 4294967296 + 1)), { x with line := 0 }, 1, true⟩ else ⟨mCas m (headL en) x.V (pHead (x.N % 4294967296 - 1) (x.V / 4294967296 + 1)), { x with line := baseL en }, 0, true⟩ := by
  rw [stepS_of en 2 (by omega) hl]
  unfold stepL
  rw [if_neg (by omega), if_neg (by omega), if_pos hl]
theorem sL3 (hl : x.line = baseL en + 3) : stepS m x = ⟨mLoad m (headL en), { x with V := mLoadV m (headL en), line := baseL en + 4 }, 0, true⟩ := by
  rw [stepS_of en 3 (by omega) hl]
  unfold stepL
  rw [if_neg (by omega), if_neg (by omega), if_neg (by omega), if_pos hl]
theorem sL4 (hl : x.line = baseL en + 4) : stepS m x = ⟨mStore m (adr m.c (kindL en) (w64' ((bif en then x.I else x.K) - 1))) (x.V % 4294967296), { x with line := baseL en + 5 }, 0, true⟩ := by
  rw [stepS_of en 4 (by omega) hl]
  unfold stepL
  rw [if_neg (by omega), if_neg (by omega), if_neg (by omega), if_neg (by omega), if_pos hl]
theorem sL5 (hl : x.line = baseL en + 5) : stepS m x = bif mCasB m (headL en) x.V then ⟨mCas m (headL en) x.V (pHead (w64' ((bif en then x.I else x.K) - 1)) (x.V / 4294967296 + 1)), { x with line := 0 }, 1, true⟩ else ⟨mCas m (headL en) x.V (pHead (w64' ((bif en then x.I else x.K) - 1)) (x.V / 4294967296 + 1)), { x with line := baseL en + 3 }, 0, true⟩ := by
  rw [stepS_of en 5 (by omega) hl]
  unfold stepL
  rw [if_neg (by omega), if_neg (by omega), if_neg (by omega), if_neg (by omega), if_neg (by omega)]
end

theorem ok_head {m : Mm} (h : MW m) (en : Bool) : Mm.ok m (headL en) = true := by
  have := h.len
  cases en with
  | true => exact inB_of' (show (0 : Int) ≤ 2 by omega) (show (2 : Int) < m.ws.length by omega)
  | false => exact inB_of' (show (0 : Int) ≤ 1 by omega) (show (1 : Int) < m.ws.length by omega)

theorem pHead_div {p v : Int} (hv : 0 ≤ v) : pHead p v % 4294967296 = (p + 1) % 4294967296 ∧ pHead p v / 4294967296 = v % 4294967296 := by
  unfold pHead
  constructor <;> omega
end Go.Sx.Pr

/- Popping and pushing without interference: three steps each. Plain Lean. -/
namespace Go.Sx.Pr
open Go Go.Sx Go.Sx.Md Go.Proofs

theorem w64_nat {x : Int} (h0 : 0 ≤ x) (h1 : x ≤ 4294967296) : w64' x = x := w64_id (by omega) (by omega)

theorem pop3 {m : Mm} {x : Wk} {en : Bool} {i : Int} {L : List Int} (h : MW m) (hx : okW x = true) (hl : x.line = baseL en) (hL : listV m.c m.ws en = some (i :: L)) :
    (stepS m x).way = 0 ∧ (stepS (stepS m x).m (stepS m x).x).way = 0 ∧ (stepS (stepS (stepS m x).m (stepS m x).x).m (stepS (stepS m x).m (stepS m x).x).x).way = 1 ∧
    (stepS (stepS (stepS m x).m (stepS m x).x).m (stepS (stepS m x).m (stepS m x).x).x).x.H = i + 1 ∧
    listV m.c (stepS (stepS (stepS m x).m (stepS m x).x).m (stepS (stepS m x).m (stepS m x).x).x).m.ws en = some L ∧
    mLoadV (stepS (stepS (stepS m x).m (stepS m x).x).m (stepS (stepS m x).m (stepS m x).x).x).m (headL en) / 4294967296 = (mLoadV m (headL en) / 4294967296 + 1) % 4294967296 := by
  obtain ⟨f1, f2, f3, f4, f5, f6⟩ := listV_some hL
  obtain ⟨g1, g2⟩ := f3
  have hi := f5 i (by simp)
  obtain ⟨m1, m2⟩ := many_le (en := en) f1
  rw [top_ld h en] at g1
  obtain ⟨p1, p2, _, p4, p5⟩ := presS h.ok hx
  have e1 : stepS m x = ⟨mLoad m (headL en), { x with V := mLoadV m (headL en), H := mLoadV m (headL en) % 4294967296, line := baseL en + 1 }, 0, true⟩ := by
    rw [sL0 hl, show (mLoadV m (headL en) % 4294967296 == 0) = false by simp; omega, cond_false]
  obtain ⟨q1, q2, _, q4, q5⟩ := presS p1 p2
  have e2 : stepS (stepS m x).m (stepS m x).x = ⟨mLoad (mLoad m (headL en)) (adr m.c (kindL en) i), { x with V := mLoadV m (headL en), H := mLoadV m (headL en) % 4294967296, N := mLoadV m (adr m.c (kindL en) i), line := baseL en + 2 }, 0, true⟩ := by
    rw [e1, sL1 (en := en) rfl]
    simp only [g1]
    rw [show w64' (w64' (i + 1) - 1) = i by rw [w64_nat (x := i + 1) (by omega) (by omega), w64_nat (by omega) (by omega)]; omega]
    rfl
  obtain ⟨r1, r2, _, r4, r5⟩ := presS q1 q2
  rw [e2] at r1 r4 r5 q1
  have hcas : mCasB (mLoad (mLoad m (headL en)) (adr m.c (kindL en) i)) (headL en) (mLoadV m (headL en)) = true := (casB_iff (ok_head h en)).2 rfl
  have e3 : stepS (mLoad (mLoad m (headL en)) (adr m.c (kindL en) i)) { x with V := mLoadV m (headL en), H := mLoadV m (headL en) % 4294967296, N := mLoadV m (adr m.c (kindL en) i), line := baseL en + 2 } =
      ⟨mCas (mLoad (mLoad m (headL en)) (adr m.c (kindL en) i)) (headL en) (mLoadV m (headL en)) (pHead (mLoadV m (adr m.c (kindL en) i) % 4294967296 - 1) (mLoadV m (headL en) / 4294967296 + 1)), { x with V := mLoadV m (headL en), H := mLoadV m (headL en) % 4294967296, N := mLoadV m (adr m.c (kindL en) i), line := 0 }, 1, true⟩ := by
    rw [sL2 (en := en) rfl]
    simp only []
    rw [hcas, cond_true]
  have hv := ld_u h.u (headL en)
  obtain ⟨v1, v2⟩ := @pHead_div (mLoadV m (adr m.c (kindL en) i) % 4294967296 - 1) (mLoadV m (headL en) / 4294967296 + 1) (by omega)
  rw [e3] at r1 r4 r5
  refine ⟨by rw [e1], by rw [e2], by rw [e2, e3], by rw [e2, e3]; exact g1, ?_, ?_⟩
  · rw [e2, e3]
    have h3 : MW (mCas (mLoad (mLoad m (headL en)) (adr m.c (kindL en) i)) (headL en) (mLoadV m (headL en)) (pHead (mLoadV m (adr m.c (kindL en) i) % 4294967296 - 1) (mLoadV m (headL en) / 4294967296 + 1))) := h.of rfl r4 r1
    have ld3 : ∀ b, b ≠ headL en → mLoadV (mCas (mLoad (mLoad m (headL en)) (adr m.c (kindL en) i)) (headL en) (mLoadV m (headL en)) (pHead (mLoadV m (adr m.c (kindL en) i) % 4294967296 - 1) (mLoadV m (headL en) / 4294967296 + 1))) b = mLoadV m b := fun b hb => by
      rw [ld_cas, if_neg (fun q => hb q.2.symm)]; rfl
    have ldh : mLoadV (mCas (mLoad (mLoad m (headL en)) (adr m.c (kindL en) i)) (headL en) (mLoadV m (headL en)) (pHead (mLoadV m (adr m.c (kindL en) i) % 4294967296 - 1) (mLoadV m (headL en) / 4294967296 + 1))) (headL en) = pHead (mLoadV m (adr m.c (kindL en) i) % 4294967296 - 1) (mLoadV m (headL en) / 4294967296 + 1) := by
      rw [ld_cas, if_pos ⟨hcas, rfl⟩]
    have nx : ∀ j, 0 ≤ j → j < manyV m.c en → nxtV m.c (mCas (mLoad (mLoad m (headL en)) (adr m.c (kindL en) i)) (headL en) (mLoadV m (headL en)) (pHead (mLoadV m (adr m.c (kindL en) i) % 4294967296 - 1) (mLoadV m (headL en) / 4294967296 + 1))).ws (kindL en) j = nxtV m.c m.ws (kindL en) j := fun j j0 j1 => by
      have a1 := nxt_ld h3 (en := en) j0 j1
      have a2 := nxt_ld h (en := en) j0 j1
      rw [a2]
      refine Eq.trans a1 ?_
      rw [show adr (mCas (mLoad (mLoad m (headL en)) (adr m.c (kindL en) i)) (headL en) (mLoadV m (headL en)) (pHead (mLoadV m (adr m.c (kindL en) i) % 4294967296 - 1) (mLoadV m (headL en) / 4294967296 + 1))).c (kindL en) j = adr m.c (kindL en) j from rfl, ld3 _ (adr_ne f1 j0 j1)]
    refine listV_of h3.chk h3.sz ?_ (List.nodup_cons.1 f4).2 fun j hj => f5 j (by simp [hj])
    rw [top_ld h3 en, ldh, v1, show mLoadV m (adr m.c (kindL en) i) % 4294967296 - 1 + 1 = mLoadV m (adr m.c (kindL en) i) % 4294967296 by omega]
    rw [nxt_ld h hi.1 hi.2] at g2
    rw [show mLoadV m (adr m.c (kindL en) i) % 4294967296 % 4294967296 = mLoadV m (adr m.c (kindL en) i) % 4294967296 by omega]
    exact g2.congr fun j hj => nx j (f5 j (by simp [hj])).1 (f5 j (by simp [hj])).2
  · rw [e2, e3]
    show mLoadV (mCas _ _ _ _) (headL en) / 4294967296 = _
    rw [ld_cas, if_pos ⟨hcas, rfl⟩, v2]

theorem popNil {m : Mm} {x : Wk} {en : Bool} (h : MW m) (hl : x.line = baseL en) (hL : listV m.c m.ws en = some []) : (stepS m x).way = 2 ∧ (stepS m x).m.ws = m.ws := by
  obtain ⟨f1, f2, f3, f4, f5, f6⟩ := listV_some hL
  have g1 : topV m.ws en = 0 := f3
  rw [top_ld h en] at g1
  rw [sL0 hl, show (mLoadV m (headL en) % 4294967296 == 0) = true by simpa using g1, cond_true]
  exact ⟨rfl, rfl⟩

theorem push3 {m : Mm} {x : Wk} {en : Bool} {i : Int} {L : List Int} (h : MW m) (hx : okW x = true) (hl : x.line = baseL en + 3) (hi0 : 0 ≤ i) (hi1 : i < manyV m.c en) (hk : (bif en then x.I else x.K) = i + 1) (hL : listV m.c m.ws en = some L) (hn : i ∉ L) :
    (stepS m x).way = 0 ∧ (stepS (stepS m x).m (stepS m x).x).way = 0 ∧ (stepS (stepS (stepS m x).m (stepS m x).x).m (stepS (stepS m x).m (stepS m x).x).x).way = 1 ∧
    listV m.c (stepS (stepS (stepS m x).m (stepS m x).x).m (stepS (stepS m x).m (stepS m x).x).x).m.ws en = some (i :: L) ∧
    mLoadV (stepS (stepS (stepS m x).m (stepS m x).x).m (stepS (stepS m x).m (stepS m x).x).x).m (headL en) / 4294967296 = (mLoadV m (headL en) / 4294967296 + 1) % 4294967296 := by
  obtain ⟨f1, f2, f3, f4, f5, f6⟩ := listV_some hL
  obtain ⟨m1, m2⟩ := many_le (en := en) f1
  obtain ⟨p1, p2, _, p4, p5⟩ := presS h.ok hx
  have hw : w64' ((bif en then x.I else x.K) - 1) = i := by rw [hk, w64_nat (by omega) (by omega)]; omega
  have e1 : stepS m x = ⟨mLoad m (headL en), { x with V := mLoadV m (headL en), line := baseL en + 4 }, 0, true⟩ := sL3 hl
  obtain ⟨q1, q2, _, q4, q5⟩ := presS p1 p2
  have e2 : stepS (stepS m x).m (stepS m x).x = ⟨mStore (mLoad m (headL en)) (adr m.c (kindL en) i) (mLoadV m (headL en) % 4294967296), { x with V := mLoadV m (headL en), line := baseL en + 5 }, 0, true⟩ := by
    rw [e1, sL4 (en := en) rfl]
    simp only [hw]
    rfl
  obtain ⟨r1, r2, _, r4, r5⟩ := presS q1 q2
  have hne := adr_ne f1 (en := en) hi0 hi1
  have hok : Mm.ok (mLoad m (headL en)) (adr m.c (kindL en) i) = true := inBL f1 f2 hi0 hi1
  have lh : mLoadV (mStore (mLoad m (headL en)) (adr m.c (kindL en) i) (mLoadV m (headL en) % 4294967296)) (headL en) = mLoadV m (headL en) := by
    rw [ld_store, if_neg (fun q => hne q.2)]; rfl
  rw [e2] at r1 r4 r5 q1 q4
  have hokh : Mm.ok (mStore (mLoad m (headL en)) (adr m.c (kindL en) i) (mLoadV m (headL en) % 4294967296)) (headL en) = true := by
    have := ok_head h en
    unfold Mm.ok at this ⊢
    have hlen : (mStore (mLoad m (headL en)) (adr m.c (kindL en) i) (mLoadV m (headL en) % 4294967296)).ws.length = m.ws.length := by rw [q4, e1]; rfl
    rw [hlen]; exact this
  have hcas : mCasB (mStore (mLoad m (headL en)) (adr m.c (kindL en) i) (mLoadV m (headL en) % 4294967296)) (headL en) (mLoadV m (headL en)) = true := (casB_iff hokh).2 lh
  have e3 : stepS (mStore (mLoad m (headL en)) (adr m.c (kindL en) i) (mLoadV m (headL en) % 4294967296)) { x with V := mLoadV m (headL en), line := baseL en + 5 } =
      ⟨mCas (mStore (mLoad m (headL en)) (adr m.c (kindL en) i) (mLoadV m (headL en) % 4294967296)) (headL en) (mLoadV m (headL en)) (pHead i (mLoadV m (headL en) / 4294967296 + 1)), { x with V := mLoadV m (headL en), line := 0 }, 1, true⟩ := by
    rw [sL5 (en := en) rfl]
    simp only [hw]
    rw [hcas, cond_true]
  have hv := ld_u h.u (headL en)
  obtain ⟨v1, v2⟩ := @pHead_div i (mLoadV m (headL en) / 4294967296 + 1) (by omega)
  rw [e3] at r1 r4 r5
  refine ⟨by rw [e1], by rw [e2], by rw [e2, e3], ?_, ?_⟩
  · rw [e2, e3]
    have h3 : MW (mCas (mStore (mLoad m (headL en)) (adr m.c (kindL en) i) (mLoadV m (headL en) % 4294967296)) (headL en) (mLoadV m (headL en)) (pHead i (mLoadV m (headL en) / 4294967296 + 1))) := h.of rfl (by rw [r4, q4, e1]; rfl) r1
    have ld3 : ∀ b, b ≠ headL en → b ≠ adr m.c (kindL en) i → mLoadV (mCas (mStore (mLoad m (headL en)) (adr m.c (kindL en) i) (mLoadV m (headL en) % 4294967296)) (headL en) (mLoadV m (headL en)) (pHead i (mLoadV m (headL en) / 4294967296 + 1))) b = mLoadV m b := fun b hb hb2 => by
      rw [ld_cas, if_neg (fun q => hb q.2.symm), ld_store, if_neg (fun q => hb2 q.2.symm)]; rfl
    have ldi : mLoadV (mCas (mStore (mLoad m (headL en)) (adr m.c (kindL en) i) (mLoadV m (headL en) % 4294967296)) (headL en) (mLoadV m (headL en)) (pHead i (mLoadV m (headL en) / 4294967296 + 1))) (adr m.c (kindL en) i) = mLoadV m (headL en) % 4294967296 := by
      rw [ld_cas, if_neg (fun q => hne q.2.symm), ld_store, if_pos ⟨hok, rfl⟩]
    have ldh : mLoadV (mCas (mStore (mLoad m (headL en)) (adr m.c (kindL en) i) (mLoadV m (headL en) % 4294967296)) (headL en) (mLoadV m (headL en)) (pHead i (mLoadV m (headL en) / 4294967296 + 1))) (headL en) = pHead i (mLoadV m (headL en) / 4294967296 + 1) := by
      rw [ld_cas, if_pos ⟨hcas, rfl⟩]
    generalize hM : mCas (mStore (mLoad m (headL en)) (adr m.c (kindL en) i) (mLoadV m (headL en) % 4294967296)) (headL en) (mLoadV m (headL en)) (pHead i (mLoadV m (headL en) / 4294967296 + 1)) = M at *
    have hMc : M.c = m.c := by subst hM; rfl
    refine listV_of (c := m.c) f1 (by rw [← hMc]; exact h3.sz) ?_ (List.nodup_cons.2 ⟨hn, f4⟩) fun j hj => by
      rcases List.mem_cons.1 hj with rfl | hj
      · exact ⟨hi0, hi1⟩
      · exact f5 j hj
    rw [top_ld h3 en, ldh, v1, show (i + 1) % 4294967296 = i + 1 by omega]
    refine ⟨rfl, ?_⟩
    have ni := nxt_ld h3 (en := en) (i := i) hi0 (by rw [hMc]; exact hi1)
    rw [hMc] at ni
    rw [ni, ldi, show mLoadV m (headL en) % 4294967296 % 4294967296 = mLoadV m (headL en) % 4294967296 by omega]
    rw [top_ld h en] at f3
    refine f3.congr fun j hj => ?_
    have hj' := f5 j hj
    have a1 := nxt_ld h3 (en := en) (i := j) hj'.1 (by rw [hMc]; exact hj'.2)
    rw [hMc] at a1
    rw [a1, nxt_ld h hj'.1 hj'.2, ld3 _ (adr_ne f1 hj'.1 hj'.2) (fun e => hn (by have := adr_inj f1 hj'.1 hj'.2 hi0 hi1 e; subst this; exact hj))]
  · rw [e2, e3]
    show mLoadV (mCas _ _ _ _) (headL en) / 4294967296 = _
    rw [ld_cas, if_pos ⟨hcas, rfl⟩, v2]
end Go.Sx.Pr
