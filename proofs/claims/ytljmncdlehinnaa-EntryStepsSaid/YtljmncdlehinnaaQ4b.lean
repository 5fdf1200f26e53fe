/- Pieces of the code of functions, compiled for the symbolic interpreter, each checked against the program; no conditions. -/
import Derived.Test.YtljmncdlehinnaaR13
import Derived.Test.YtljmncdlehinnaaO2
import Derived.Test.YtljmncdlehinnaaRows
import Derived.KernelRfl
import Derived.Test.YtljmncdlehinnaaSxMem2
import Derived.Test.YtljmncdlehinnaaSxCon3
set_option linter.unusedVariables false
set_option linter.unusedSimpArgs false
namespace Go.Sx.Pr
open Go Go.Sx Go.Proofs
set_option maxRecDepth 100000
def K48_1 : CC := .seq (.reg false [⟨some 157, .fa 10 (.t 2), none, 0⟩,
   ⟨some 158, .ld 1 false (.t 157), none, 0⟩,
   ⟨some 159, .fa 10 (.t 3), none, 0⟩,
   ⟨some 160, .ld 1 false (.t 159), none, 0⟩,
   ⟨some 161, .call (.c (.fn (.func 44) [] [])) [.t 158, .t 160], none, 0⟩,
   ⟨some 162, .mv (.t 161), none, 0⟩,
   ⟨some 163, .fa 17 (.t 2), some (162, true), 0⟩,
   ⟨some 164, .ld 1 false (.t 163), some (162, true), 0⟩,
   ⟨some 165, .fa 17 (.t 3), some (162, true), 0⟩,
   ⟨some 166, .ld 1 false (.t 165), some (162, true), 0⟩,
   ⟨some 167, .call (.c (.fn (.func 44) [] [])) [.t 164, .t 166], some (162, true), 0⟩,
   ⟨some 168, .pick (.t 162) (.t 167) (.c (.d (.v (.bool false)))), none, 0⟩,
   ⟨some 169, .mv (.t 168), none, 0⟩,
   ⟨some 170, .fa 29 (.t 2), some (169, true), 0⟩,
   ⟨some 171, .ld 1 false (.t 170), some (169, true), 0⟩,
   ⟨some 172, .fa 29 (.t 3), some (169, true), 0⟩,
   ⟨some 173, .ld 1 false (.t 172), some (169, true), 0⟩,
   ⟨some 174, .call (.c (.fn (.func 84) [] [])) [.t 171, .t 173], some (169, true), 0⟩,
   ⟨some 175, .pick (.t 169) (.t 174) (.c (.d (.v (.bool false)))), none, 0⟩,
   ⟨some 4, .mv (.t 175), none, 0⟩])
 (.ret)
def K48_2 : CC := .reg false [⟨some 130, .mv (.t 5), none, 0⟩,
   ⟨some 131, .bin .add (.t 130) (.c (.d (.v (.int .i64 1)))), none, 0⟩,
   ⟨some 5, .mv (.t 131), none, 0⟩]
def K48_3 : CC := .cond 156 (.seq (.reg false [⟨some 4, .mv (.c (.d (.v (.bool false)))), none, 0⟩])
   (.ret))
   (.skip)
def K48_4 : CC := .reg true [⟨some 132, .mv (.t 5), none, 0⟩,
   ⟨some 133, .fa 11 (.t 2), none, 0⟩,
   ⟨some 134, .ixa 3 2 (.t 133) (.t 132), none, 3⟩,
   ⟨some 135, .fa 0 (.t 134), none, 7⟩,
   ⟨some 136, .ld 1 false (.t 135), none, 15⟩,
   ⟨some 137, .mv (.t 5), none, 0⟩,
   ⟨some 138, .fa 11 (.t 3), none, 0⟩,
   ⟨some 139, .ixa 3 2 (.t 138) (.t 137), none, 96⟩,
   ⟨some 140, .fa 0 (.t 139), none, 224⟩,
   ⟨some 141, .ld 1 false (.t 140), none, 480⟩,
   ⟨some 142, .eq .int true (.t 136) (.t 141), none, 1023⟩,
   ⟨some 143, .mv (.t 142), none, 2047⟩,
   ⟨some 144, .mv (.t 5), some (143, false), 4095⟩,
   ⟨some 145, .fa 11 (.t 2), some (143, false), 4095⟩,
   ⟨some 146, .ixa 3 2 (.t 145) (.t 144), some (143, false), 16383⟩,
   ⟨some 147, .fa 1 (.t 146), some (143, false), 32767⟩,
   ⟨some 148, .ld 1 false (.t 147), some (143, false), 65535⟩,
   ⟨some 149, .mv (.t 5), some (143, false), 4095⟩,
   ⟨some 150, .fa 11 (.t 3), some (143, false), 4095⟩,
   ⟨some 151, .ixa 3 2 (.t 150) (.t 149), some (143, false), 397311⟩,
   ⟨some 152, .fa 1 (.t 151), some (143, false), 921599⟩,
   ⟨some 153, .ld 1 false (.t 152), some (143, false), 1970175⟩,
   ⟨some 154, .call (.c (.fn (.func 44) [] [])) [.t 148, .t 153], some (143, false), 4194303⟩,
   ⟨some 155, .un .not (.t 154), some (143, false), 8388607⟩,
   ⟨some 156, .pick (.t 143) (.c (.d (.v (.bool true)))) (.t 155), none, 16777215⟩]
def K48_5 : CC := .seq (.reg false [⟨some 128, .mv (.t 5), none, 0⟩,
   ⟨some 129, .bin .lss (.t 128) (.c (.d (.v (.int .i64 3)))), none, 0⟩])
 (.cond 129 (.skip)
   (.exit 0))
def L48_6 : CC := .seq K48_5 (.seq (.block 1 (.seq K48_4 K48_3)) K48_2)
def K48_7 : CC := .reg false [⟨some 5, .mv (.c (.d (.v (.int .i64 0)))), none, 0⟩]
def K48_8 : CC := .cond 127 (.seq (.reg false [⟨some 4, .mv (.c (.d (.v (.bool false)))), none, 0⟩])
   (.ret))
   (.skip)
def K48_9 : CC := .reg false [⟨some 67, .fa 23 (.t 2), none, 0⟩,
   ⟨some 68, .ld 1 false (.t 67), none, 0⟩,
   ⟨some 69, .fa 23 (.t 3), none, 0⟩,
   ⟨some 70, .ld 1 false (.t 69), none, 0⟩,
   ⟨some 71, .eq .int true (.t 68) (.t 70), none, 0⟩,
   ⟨some 72, .mv (.t 71), none, 0⟩,
   ⟨some 73, .fa 24 (.t 2), some (72, false), 0⟩,
   ⟨some 74, .ld 1 false (.t 73), some (72, false), 0⟩,
   ⟨some 75, .fa 24 (.t 3), some (72, false), 0⟩,
   ⟨some 76, .ld 1 false (.t 75), some (72, false), 0⟩,
   ⟨some 77, .eq .int true (.t 74) (.t 76), some (72, false), 0⟩,
   ⟨some 78, .pick (.t 72) (.c (.d (.v (.bool true)))) (.t 77), none, 0⟩,
   ⟨some 79, .mv (.t 78), none, 0⟩,
   ⟨some 80, .fa 25 (.t 2), some (79, false), 0⟩,
   ⟨some 81, .ld 1 false (.t 80), some (79, false), 0⟩,
   ⟨some 82, .fa 25 (.t 3), some (79, false), 0⟩,
   ⟨some 83, .ld 1 false (.t 82), some (79, false), 0⟩,
   ⟨some 84, .eq .int true (.t 81) (.t 83), some (79, false), 0⟩,
   ⟨some 85, .pick (.t 79) (.c (.d (.v (.bool true)))) (.t 84), none, 0⟩,
   ⟨some 86, .mv (.t 85), none, 0⟩,
   ⟨some 87, .fa 26 (.t 2), some (86, false), 0⟩,
   ⟨some 88, .ld 1 false (.t 87), some (86, false), 0⟩,
   ⟨some 89, .fa 26 (.t 3), some (86, false), 0⟩,
   ⟨some 90, .ld 1 false (.t 89), some (86, false), 0⟩,
   ⟨some 91, .eq .int true (.t 88) (.t 90), some (86, false), 0⟩,
   ⟨some 92, .pick (.t 86) (.c (.d (.v (.bool true)))) (.t 91), none, 0⟩,
   ⟨some 93, .mv (.t 92), none, 0⟩,
   ⟨some 94, .fa 27 (.t 2), some (93, false), 0⟩,
   ⟨some 95, .ld 1 false (.t 94), some (93, false), 0⟩,
   ⟨some 96, .fa 27 (.t 3), some (93, false), 0⟩,
   ⟨some 97, .ld 1 false (.t 96), some (93, false), 0⟩,
   ⟨some 98, .eq .int true (.t 95) (.t 97), some (93, false), 0⟩,
   ⟨some 99, .pick (.t 93) (.c (.d (.v (.bool true)))) (.t 98), none, 0⟩,
   ⟨some 100, .mv (.t 99), none, 0⟩,
   ⟨some 101, .fa 28 (.t 2), some (100, false), 0⟩,
   ⟨some 102, .ld 1 false (.t 101), some (100, false), 0⟩,
   ⟨some 103, .fa 28 (.t 3), some (100, false), 0⟩,
   ⟨some 104, .ld 1 false (.t 103), some (100, false), 0⟩,
   ⟨some 105, .eq .int true (.t 102) (.t 104), some (100, false), 0⟩,
   ⟨some 106, .pick (.t 100) (.c (.d (.v (.bool true)))) (.t 105), none, 0⟩,
   ⟨some 107, .mv (.t 106), none, 0⟩,
   ⟨some 108, .fa 30 (.t 2), some (107, false), 0⟩,
   ⟨some 109, .ld 1 false (.t 108), some (107, false), 0⟩,
   ⟨some 110, .fa 30 (.t 3), some (107, false), 0⟩,
   ⟨some 111, .ld 1 false (.t 110), some (107, false), 0⟩,
   ⟨some 112, .eq .int true (.t 109) (.t 111), some (107, false), 0⟩,
   ⟨some 113, .pick (.t 107) (.c (.d (.v (.bool true)))) (.t 112), none, 0⟩,
   ⟨some 114, .mv (.t 113), none, 0⟩,
   ⟨some 115, .fa 31 (.t 2), some (114, false), 0⟩,
   ⟨some 116, .ld 1 false (.t 115), some (114, false), 0⟩,
   ⟨some 117, .fa 31 (.t 3), some (114, false), 0⟩,
   ⟨some 118, .ld 1 false (.t 117), some (114, false), 0⟩,
   ⟨some 119, .eq .int true (.t 116) (.t 118), some (114, false), 0⟩,
   ⟨some 120, .pick (.t 114) (.c (.d (.v (.bool true)))) (.t 119), none, 0⟩,
   ⟨some 121, .mv (.t 120), none, 0⟩,
   ⟨some 122, .fa 32 (.t 2), some (121, false), 0⟩,
   ⟨some 123, .ld 1 false (.t 122), some (121, false), 0⟩,
   ⟨some 124, .fa 32 (.t 3), some (121, false), 0⟩,
   ⟨some 125, .ld 1 false (.t 124), some (121, false), 0⟩,
   ⟨some 126, .eq .bool true (.t 123) (.t 125), some (121, false), 0⟩,
   ⟨some 127, .pick (.t 121) (.c (.d (.v (.bool true)))) (.t 126), none, 0⟩]
def K48_10 : CC := .cond 66 (.seq (.reg false [⟨some 4, .mv (.c (.d (.v (.bool false)))), none, 0⟩])
   (.ret))
   (.skip)
def K48_11 : CC := .reg false [⟨some 6, .fa 0 (.t 2), none, 0⟩,
   ⟨some 7, .ld 1 false (.t 6), none, 0⟩,
   ⟨some 8, .fa 0 (.t 3), none, 0⟩,
   ⟨some 9, .ld 1 false (.t 8), none, 0⟩,
   ⟨some 10, .eq .int true (.t 7) (.t 9), none, 0⟩,
   ⟨some 11, .mv (.t 10), none, 0⟩,
   ⟨some 12, .fa 1 (.t 2), some (11, false), 0⟩,
   ⟨some 13, .ld 7 true (.t 12), some (11, false), 0⟩,
   ⟨some 14, .fa 1 (.t 3), some (11, false), 0⟩,
   ⟨some 15, .ld 7 true (.t 14), some (11, false), 0⟩,
   ⟨some 16, .eq (.cons .int 0 1 false (.cons .int 1 1 false (.cons .int 2 1 false (.cons .int 3 1 false (.cons .bool 4 1 false (.cons .int 5 1 false (.cons .int 6 1 false .nil))))))) true (.t 13) (.t 15), some (11, false), 0⟩,
   ⟨some 17, .pick (.t 11) (.c (.d (.v (.bool true)))) (.t 16), none, 0⟩,
   ⟨some 18, .mv (.t 17), none, 0⟩,
   ⟨some 19, .fa 8 (.t 2), some (18, false), 0⟩,
   ⟨some 20, .ld 1 false (.t 19), some (18, false), 0⟩,
   ⟨some 21, .fa 8 (.t 3), some (18, false), 0⟩,
   ⟨some 22, .ld 1 false (.t 21), some (18, false), 0⟩,
   ⟨some 23, .eq .bool true (.t 20) (.t 22), some (18, false), 0⟩,
   ⟨some 24, .pick (.t 18) (.c (.d (.v (.bool true)))) (.t 23), none, 0⟩,
   ⟨some 25, .mv (.t 24), none, 0⟩,
   ⟨some 26, .fa 9 (.t 2), some (25, false), 0⟩,
   ⟨some 27, .ld 1 false (.t 26), some (25, false), 0⟩,
   ⟨some 28, .fa 9 (.t 3), some (25, false), 0⟩,
   ⟨some 29, .ld 1 false (.t 28), some (25, false), 0⟩,
   ⟨some 30, .eq .int true (.t 27) (.t 29), some (25, false), 0⟩,
   ⟨some 31, .pick (.t 25) (.c (.d (.v (.bool true)))) (.t 30), none, 0⟩,
   ⟨some 32, .mv (.t 31), none, 0⟩,
   ⟨some 33, .fa 18 (.t 2), some (32, false), 0⟩,
   ⟨some 34, .ld 1 false (.t 33), some (32, false), 0⟩,
   ⟨some 35, .fa 18 (.t 3), some (32, false), 0⟩,
   ⟨some 36, .ld 1 false (.t 35), some (32, false), 0⟩,
   ⟨some 37, .eq .int true (.t 34) (.t 36), some (32, false), 0⟩,
   ⟨some 38, .pick (.t 32) (.c (.d (.v (.bool true)))) (.t 37), none, 0⟩,
   ⟨some 39, .mv (.t 38), none, 0⟩,
   ⟨some 40, .fa 19 (.t 2), some (39, false), 0⟩,
   ⟨some 41, .ld 1 false (.t 40), some (39, false), 0⟩,
   ⟨some 42, .fa 19 (.t 3), some (39, false), 0⟩,
   ⟨some 43, .ld 1 false (.t 42), some (39, false), 0⟩,
   ⟨some 44, .eq .int true (.t 41) (.t 43), some (39, false), 0⟩,
   ⟨some 45, .pick (.t 39) (.c (.d (.v (.bool true)))) (.t 44), none, 0⟩,
   ⟨some 46, .mv (.t 45), none, 0⟩,
   ⟨some 47, .fa 20 (.t 2), some (46, false), 0⟩,
   ⟨some 48, .ld 1 false (.t 47), some (46, false), 0⟩,
   ⟨some 49, .fa 20 (.t 3), some (46, false), 0⟩,
   ⟨some 50, .ld 1 false (.t 49), some (46, false), 0⟩,
   ⟨some 51, .eq .int true (.t 48) (.t 50), some (46, false), 0⟩,
   ⟨some 52, .pick (.t 46) (.c (.d (.v (.bool true)))) (.t 51), none, 0⟩,
   ⟨some 53, .mv (.t 52), none, 0⟩,
   ⟨some 54, .fa 21 (.t 2), some (53, false), 0⟩,
   ⟨some 55, .ld 1 false (.t 54), some (53, false), 0⟩,
   ⟨some 56, .fa 21 (.t 3), some (53, false), 0⟩,
   ⟨some 57, .ld 1 false (.t 56), some (53, false), 0⟩,
   ⟨some 58, .eq .int true (.t 55) (.t 57), some (53, false), 0⟩,
   ⟨some 59, .pick (.t 53) (.c (.d (.v (.bool true)))) (.t 58), none, 0⟩,
   ⟨some 60, .mv (.t 59), none, 0⟩,
   ⟨some 61, .fa 22 (.t 2), some (60, false), 0⟩,
   ⟨some 62, .ld 1 false (.t 61), some (60, false), 0⟩,
   ⟨some 63, .fa 22 (.t 3), some (60, false), 0⟩,
   ⟨some 64, .ld 1 false (.t 63), some (60, false), 0⟩,
   ⟨some 65, .eq .int true (.t 62) (.t 64), some (60, false), 0⟩,
   ⟨some 66, .pick (.t 60) (.c (.d (.v (.bool true)))) (.t 65), none, 0⟩]
def K48_12 : CC := .reg false [⟨some 2, .box 40 33 (.t 0), none, 0⟩,
   ⟨some 3, .box 40 33 (.t 1), none, 0⟩,
   ⟨some 4, .mv (.c (.d (.v (.bool false)))), none, 0⟩]
/-- coatcheck/coatcheckref04.Same -/
def C48 : CF := ⟨2, [(4, none)],
 .seq K48_12 (.seq (.seq K48_11 K48_10) (.seq (.seq K48_9 K48_8) (.seq (.seq K48_7 (.block 0 (.loop L48_6))) K48_1)))⟩
theorem c48 : coF Try.prog Try.f31 = some C48 := by kernel_rfl
def A48 : Ann := { keep := [0, 1, 2, 3, 4, 5, 66, 127, 129, 156], live := [(0, [2, 3, 5])] }
def E48 {Ω : Type} : Env Ω := econs 84 S32 (econs 44 S52 (enil))
theorem e48 : GoodE Try.prog E48 := GoodE.cons g32 (GoodE.cons g52 (GoodE.nil))
end Go.Sx.Pr

namespace Go.Sx.Pr
open Go Go.Sx Go.Proofs
set_option maxRecDepth 100000
def K46_1 : CC := .ret
def K46_2 : CC := .reg false [⟨some 3, .fa 10 (.t 1), none, 0⟩,
   ⟨some 4, .ld 1 false (.t 3), none, 0⟩,
   ⟨some 5, .len (.t 4), none, 0⟩,
   ⟨some 6, .bin .gtr (.t 5) (.c (.d (.v (.int .i64 40)))), none, 0⟩,
   ⟨some 7, .mv (.t 6), none, 0⟩,
   ⟨some 8, .fa 17 (.t 1), some (7, false), 0⟩,
   ⟨some 9, .ld 1 false (.t 8), some (7, false), 0⟩,
   ⟨some 10, .len (.t 9), some (7, false), 0⟩,
   ⟨some 11, .bin .gtr (.t 10) (.c (.d (.v (.int .i64 40)))), some (7, false), 0⟩,
   ⟨some 12, .pick (.t 7) (.c (.d (.v (.bool true)))) (.t 11), none, 0⟩,
   ⟨some 13, .mv (.t 12), none, 0⟩,
   ⟨some 14, .fa 29 (.t 1), some (13, false), 0⟩,
   ⟨some 15, .ld 1 false (.t 14), some (13, false), 0⟩,
   ⟨some 16, .len (.t 15), some (13, false), 0⟩,
   ⟨some 17, .bin .gtr (.t 16) (.c (.d (.v (.int .i64 40)))), some (13, false), 0⟩,
   ⟨some 18, .pick (.t 13) (.c (.d (.v (.bool true)))) (.t 17), none, 0⟩,
   ⟨some 19, .mv (.t 18), none, 0⟩,
   ⟨some 20, .fa 11 (.t 1), some (19, false), 0⟩,
   ⟨some 21, .ixa 3 2 (.t 20) (.c (.d (.v (.int .i64 0)))), some (19, false), 0⟩,
   ⟨some 22, .fa 1 (.t 21), some (19, false), 0⟩,
   ⟨some 23, .ld 1 false (.t 22), some (19, false), 0⟩,
   ⟨some 24, .len (.t 23), some (19, false), 0⟩,
   ⟨some 25, .bin .gtr (.t 24) (.c (.d (.v (.int .i64 40)))), some (19, false), 0⟩,
   ⟨some 26, .pick (.t 19) (.c (.d (.v (.bool true)))) (.t 25), none, 0⟩,
   ⟨some 27, .mv (.t 26), none, 0⟩,
   ⟨some 28, .fa 11 (.t 1), some (27, false), 0⟩,
   ⟨some 29, .ixa 3 2 (.t 28) (.c (.d (.v (.int .i64 1)))), some (27, false), 0⟩,
   ⟨some 30, .fa 1 (.t 29), some (27, false), 0⟩,
   ⟨some 31, .ld 1 false (.t 30), some (27, false), 0⟩,
   ⟨some 32, .len (.t 31), some (27, false), 0⟩,
   ⟨some 33, .bin .gtr (.t 32) (.c (.d (.v (.int .i64 40)))), some (27, false), 0⟩,
   ⟨some 34, .pick (.t 27) (.c (.d (.v (.bool true)))) (.t 33), none, 0⟩,
   ⟨some 35, .mv (.t 34), none, 0⟩,
   ⟨some 36, .fa 11 (.t 1), some (35, false), 0⟩,
   ⟨some 37, .ixa 3 2 (.t 36) (.c (.d (.v (.int .i64 2)))), some (35, false), 0⟩,
   ⟨some 38, .fa 1 (.t 37), some (35, false), 0⟩,
   ⟨some 39, .ld 1 false (.t 38), some (35, false), 0⟩,
   ⟨some 40, .len (.t 39), some (35, false), 0⟩,
   ⟨some 41, .bin .gtr (.t 40) (.c (.d (.v (.int .i64 40)))), some (35, false), 0⟩,
   ⟨some 42, .pick (.t 35) (.c (.d (.v (.bool true)))) (.t 41), none, 0⟩,
   ⟨some 2, .mv (.t 42), none, 0⟩]
def K46_3 : CC := .reg false [⟨some 1, .box 40 33 (.t 0), none, 0⟩,
   ⟨some 2, .mv (.c (.d (.v (.bool false)))), none, 0⟩]
/-- coatcheck/coatcheckref04.Great -/
def C46 : CF := ⟨1, [(2, none)],
 .seq K46_3 (.seq K46_2 K46_1)⟩
theorem c46 : coF Try.prog Try.f29 = some C46 := by kernel_rfl
def A46 : Ann := { keep := [0, 1, 2], live := [] }
def E46 {Ω : Type} : Env Ω := enil
theorem e46 : GoodE Try.prog E46 := GoodE.nil
end Go.Sx.Pr

/- A worker's states compared; too great a state: what the document's functions answer. -/
namespace Go.Sx.Pr
open Go Go.Sx Go.Sx.Md Go.Proofs
set_option maxRecDepth 100000
theorem n48 (x y : Wk) :
    sxFn (E48 (Ω := SV × SH)) (An A48 0) C48 [.agg (encW x), .agg (encW y)] [] (KT 0) =
    br (!Wk.line x == Wk.line y) (some (B false, [])) (br (! (Wk.kind x == Wk.kind y && (Wk.opT x == Wk.opT y && (Wk.opX x == Wk.opX y && (Wk.slab x == Wk.slab y && (Wk.use x == Wk.use y && (Wk.by_ x == Wk.by_ y && (Wk.nth x == Wk.nth y && true)))))))) (some (B false, [])) (br (!Wk.pinned x == Wk.pinned y) (some (B false, [])) (br (!Wk.E x == Wk.E y) (some (B false, [])) (br (!Wk.B x == Wk.B y) (some (B false, [])) (br (!Wk.K x == Wk.K y) (some (B false, [])) (br (!Wk.I x == Wk.I y) (some (B false, [])) (br (!Wk.C x == Wk.C y) (some (B false, [])) (br (!Wk.borrow x == Wk.borrow y) (some (B false, [])) (br (!Wk.H x == Wk.H y) (some (B false, [])) (br (!Wk.N x == Wk.N y) (some (B false, [])) (br (!Wk.V x == Wk.V y) (some (B false, [])) (br (!Wk.U x == Wk.U y) (some (B false, [])) (br (!Wk.G x == Wk.G y) (some (B false, [])) (br (!Wk.J x == Wk.J y) (some (B false, [])) (br (!Wk.T x == Wk.T y) (some (B false, [])) (br (!Wk.ret x == Wk.ret y) (some (B false, [])) (br (!Wk.give x == Wk.give y) (some (B false, [])) (br (!Wk.t0 x == Wk.t0 y) (some (B false, [])) (br (decide (List.length (Wk.l0 x) < 1000000000)) (br (!decide (Wk.l0 x = Wk.l0 y)) (some (B false, [])) (br (!Wk.t1 x == Wk.t1 y) (some (B false, [])) (br (decide (List.length (Wk.l1 x) < 1000000000)) (br (!decide (Wk.l1 x = Wk.l1 y)) (some (B false, [])) (br (!Wk.t2 x == Wk.t2 y) (some (B false, [])) (br (decide (List.length (Wk.l2 x) < 1000000000)) (br (!decide (Wk.l2 x = Wk.l2 y)) (some (B false, [])) (br (decide (List.length (Wk.rack x) < 1000000000)) (br (decide (Wk.rack x = Wk.rack y)) (br (decide (List.length (Wk.hold x) < 1000000000)) (br (decide (Wk.hold x = Wk.hold y)) (br (decide (List.length (Wk.read x) < 1000000000)) (some (B (decide (Wk.read x = Wk.read y)), [])) none) (some (B false, []))) none) (some (B false, []))) none)) none))) none))) none))))))))))))))))))) := by kernel_rfl
theorem n46 (x : Wk) :
    sxFn (E46 (Ω := SV × SH)) (An A46 0) C46 [.agg (encW x)] [] (KT 0) =
    br (decide ((↑ (List.length (Wk.rack x)) : Int) > 40)) (some (B true, [])) (br (decide ((↑ (List.length (Wk.hold x)) : Int) > 40)) (some (B true, [])) (br (decide ((↑ (List.length (Wk.read x)) : Int) > 40)) (some (B true, [])) (br (decide ((↑ (List.length (Wk.l0 x)) : Int) > 40)) (some (B true, [])) (br (decide ((↑ (List.length (Wk.l1 x)) : Int) > 40)) (some (B true, [])) (some (B (decide ((↑ (List.length (Wk.l2 x)) : Int) > 40)), [])))))) := by kernel_rfl

def lenW (x : Wk) : Bool := decide (x.rack.length < 1000000000) && (decide (x.hold.length < 1000000000) && (decide (x.read.length < 1000000000) && (decide (x.l0.length < 1000000000) && (decide (x.l1.length < 1000000000) && decide (x.l2.length < 1000000000)))))
def sameW (x y : Wk) : Bool :=
  (x.line == y.line) && ((x.kind == y.kind && (x.opT == y.opT && (x.opX == y.opX && (x.slab == y.slab && (x.use == y.use && (x.by_ == y.by_ && (x.nth == y.nth && true))))))) && ((x.pinned == y.pinned) && ((x.E == y.E) && ((x.B == y.B) && ((x.K == y.K) && ((x.I == y.I) && ((x.C == y.C) && ((x.borrow == y.borrow) && ((x.H == y.H) && ((x.N == y.N) && ((x.V == y.V) && ((x.U == y.U) && ((x.G == y.G) && ((x.J == y.J) && ((x.T == y.T) && ((x.ret == y.ret) && ((x.give == y.give) && ((x.t0 == y.t0) && (decide (x.l0 = y.l0) && ((x.t1 == y.t1) && (decide (x.l1 = y.l1) && ((x.t2 == y.t2) && (decide (x.l2 = y.l2) && (decide (x.rack = y.rack) && (decide (x.hold = y.hold) && decide (x.read = y.read))))))))))))))))))))))))))
theorem sameW_self (x : Wk) : sameW x x = true := by
  simp only [sameW, beq_self_eq_true, decide_true, Bool.and_self, Bool.and_true]
theorem brAnd {c : Bool} {X : Option (SV × SH)} {q : Bool} (h : X = some (B q, [])) : br (!c) (some (B false, [])) X = some (B (c && q), []) := by
  cases c with
  | true => rw [Bool.not_true, br_f, h, Bool.true_and]
  | false => rw [Bool.not_false, br_t, Bool.false_and]
theorem brAnd' {c : Bool} {X : Option (SV × SH)} {q : Bool} (h : X = some (B q, [])) : br c X (some (B false, [])) = some (B (c && q), []) := by
  cases c with
  | true => rw [br_t, h, Bool.true_and]
  | false => rw [br_f, Bool.false_and]
theorem brOr {c : Bool} {X : Option (SV × SH)} {q : Bool} (h : X = some (B q, [])) : br c (some (B true, [])) X = some (B (c || q), []) := by
  cases c with
  | true => rw [br_t, Bool.true_or]
  | false => rw [br_f, h, Bool.false_or]
theorem v48 {x y : Wk} (h : lenW x = true) : sxFn (E48 (Ω := SV × SH)) (An A48 0) C48 [.agg (encW x), .agg (encW y)] [] (KT 0) = some (B (sameW x y), []) := by
  simp only [lenW, Bool.and_eq_true] at h
  obtain ⟨h1, h2, h3, h4, h5, h6⟩ := h
  rw [n48]
  simp only [h1, h2, h3, h4, h5, h6, br_t]
  unfold sameW
  exact brAnd (brAnd (brAnd (brAnd (brAnd (brAnd (brAnd (brAnd (brAnd (brAnd (brAnd (brAnd (brAnd (brAnd (brAnd (brAnd (brAnd (brAnd (brAnd (brAnd (brAnd (brAnd (brAnd (brAnd (brAnd' (brAnd' (rfl))))))))))))))))))))))))))
def greatW (x : Wk) : Bool := decide ((x.rack.length : Int) > 40) || (decide ((x.hold.length : Int) > 40) || (decide ((x.read.length : Int) > 40) || (decide ((x.l0.length : Int) > 40) || (decide ((x.l1.length : Int) > 40) || decide ((x.l2.length : Int) > 40)))))
theorem v46 {x : Wk} : sxFn (E46 (Ω := SV × SH)) (An A46 0) C46 [.agg (encW x)] [] (KT 0) = some (B (greatW x), []) := by
  rw [n46]
  unfold greatW
  exact brOr (brOr (brOr (brOr (brOr rfl))))
theorem lenW_of {x : Wk} (h : greatW x = false) : lenW x = true := by
  simp only [greatW, Bool.or_eq_false_iff, decide_eq_false_iff_not] at h
  simp only [lenW, Bool.and_eq_true, decide_eq_true_eq]
  omega

/-- No locs. -/
def noLs : SH → List SV → Option (List Nat) := fun _ _ => some []
def F48 : List SV → SH → List Alt := fun a0 h0 => match a0, h0 with
  | [.agg c, .agg d], [] => bif isC ctsW c && isC ctsW d then [(lenW (decW c), B (sameW (decW c) (decW d)), [])] else []
  | _, _ => []
def F46 : List SV → SH → List Alt := fun a0 h0 => match a0, h0 with
  | [.agg c], [] => bif isC ctsW c then [(true, B (greatW (decW c)), [])] else []
  | _, _ => []
theorem bif_nil {α : Type} {b : Bool} {l : List α} {r : SV × SH} {f : List α → Option (SV × SH)} (hf : f [] = none) (h : f (bif b then l else []) = some r) : b = true ∧ f l = some r := by
  cases b with
  | true => exact ⟨rfl, h⟩
  | false => rw [cond_false, hf] at h; cases h
def S48c {Ω : Type} : Spec Ω := memSpec [some ctsW, some ctsW] noLs [] F48
theorem g48c : Good1 Try.prog 31 S48c := memGood (A := A48) Try.func31 (by kernel_rfl) c48 e48 mix (fun _ _ _ _ i hi => by cases hi) fun a0 h0 r h1 hF => by
  unfold F48 at hF
  split at hF
  · rename_i c d
    obtain ⟨hc, hF⟩ := bif_nil rfl hF
    rw [Bool.and_eq_true] at hc
    cases hl : lenW (decW c) with
    | false => rw [hl] at hF; cases hF
    | true =>
      rw [hl] at hF
      simp only [firstAlt, cond_true, Option.some.injEq, Prod.mk.injEq] at hF
      obtain ⟨rfl, rfl⟩ := hF
      have hv := v48 (y := decW d) hl
      rw [enc_decW hc.1, enc_decW hc.2] at hv
      obtain ⟨H, q3, q4⟩ := kt_of e48 hv
      exact ⟨_, _, H, LeV.refl _, RowEq.refl _, q3, q4⟩
  · cases hF
def S46c {Ω : Type} : Spec Ω := memSpec [some ctsW] noLs [] F46
theorem g46c : Good1 Try.prog 29 S46c := memGood (A := A46) Try.func29 (by kernel_rfl) c46 e46 mix (fun _ _ _ _ i hi => by cases hi) fun a0 h0 r h1 hF => by
  unfold F46 at hF
  split at hF
  · rename_i c
    obtain ⟨hc, hF⟩ := bif_nil rfl hF
    simp only [firstAlt, cond_true, Option.some.injEq, Prod.mk.injEq] at hF
    obtain ⟨rfl, rfl⟩ := hF
    have hv := v46 (x := decW c)
    rw [enc_decW hc] at hv
    obtain ⟨H, q3, q4⟩ := kt_of e46 hv
    exact ⟨_, _, H, LeV.refl _, RowEq.refl _, q3, q4⟩
  · cases hF
end Go.Sx.Pr

/- All: a copy of a memory's words. -/
namespace Go.Sx.Pr
open Go Go.Sx Go.Sx.Md Go.Proofs
set_option maxRecDepth 100000
theorem n33 {m : Mm} {t tw : TypeId} : sxFn (E33 (Ω := SV × SH)) (An A33 2) C33 [.ptr 0 0] (objs LM t tw m) (KT 2) = br (fits m.ws.length 8) (some (.own 2, [.cells t (LM.enc m), .rowi tw .u64 m.ws, .rowi 24 .u64 m.ws])) none := by kernel_rfl
def F33 : List SV → SH → List Alt := fun a0 h0 => match a0, h0 with
  | [.ptr 0 0], [.cells t c, .rowi tw .u64 ws] => bif isM c then [(fits ws.length 8, .own 2, [.cells t c, .rowi tw .u64 ws, .rowi 24 .u64 ws])] else []
  | _, _ => []
def S33c {Ω : Type} : Spec Ω := memSpecW [none] (findM 13) [] F33
theorem g33c : Good1 Try.prog 17 S33c := memGoodW (A := A33) Try.func17 (by kernel_rfl) c33 e33 mix fun a0 h0 r h1 hF => by
  unfold F33 at hF
  split at hF
  · rename_i t c tw ws
    obtain ⟨hc, hF⟩ := bif_nil rfl hF
    cases hl : fits ws.length 8 with
    | false => rw [hl] at hF; cases hF
    | true =>
      rw [hl] at hF
      simp only [firstAlt, cond_true, Option.some.injEq, Prod.mk.injEq] at hF
      obtain ⟨rfl, rfl⟩ := hF
      obtain ⟨e1, e2⟩ := lay_M c ws hc
      have hv := n33 (m := LM.dec c ws) (t := t) (tw := tw)
      rw [show objs LM t tw (LM.dec c ws) = [.cells t c, .rowi tw .u64 ws] by simp only [objs, e1, e2], e1, e2, hl, br_t] at hv
      obtain ⟨H, q3, q4⟩ := kt_of e33 hv
      refine ⟨fun i hi _ => ?_, _, _, H, LeV.refl _, RowEq.refl _, q3, q4⟩
      match i, hi with
      | 0, _ => rfl
      | 1, _ => rfl
      | i + 2, hi => exact absurd hi (by simp only [List.length_cons, List.length_nil]; omega)
  · cases hF
end Go.Sx.Pr

/- All's list as data. -/
namespace Go.Sx.Pr
open Go Go.Sx Go.Sx.Md Go.Proofs
set_option maxRecDepth 100000
def FAllD : List (List Int) → List (Bool × Nat × Nat × (Nat → Nat → Value))
  | [[a, b, c, d, e, f, g, l]] => [(chk a b c d e f g l == 0, 3, sizeN a.toNat b.toNat c.toNat d.toNat e.toNat, fun i j => .int .i64 (spot a.toNat b.toNat d.toNat e.toNat i j))]
  | _ => []
def S20d {Ω : Type} : Spec Ω := conSpecD [.g cfgK] FAllD
theorem g20d : Good1 Try.prog 65 S20d := conGoodD Try.func65 (by kernel_rfl) c20 e20 mix (A := A20) fun L sz n f hl hF => by
  obtain ⟨x, rfl, hx⟩ := lenAs_one hl
  obtain ⟨a, b, c, d, e, ff, g, i, rfl⟩ := eight hx
  simp only [FAllD, firstD] at hF
  cases h : (chk a b c d e ff g i == 0) with
  | false => rw [h] at hF; cases hF
  | true =>
    rw [h] at hF
    simp only [cond_true, Option.some.injEq, Prod.mk.injEq] at hF
    obtain ⟨rfl, rfl, rfl⟩ := hF
    refine ⟨3, _, _, _, v20 _ (by simpa using h), rfl, fun i hi j hj => qAll_spot hi hj⟩
end Go.Sx.Pr

namespace Go.Sx.Pr
open Go Go.Sx Go.Proofs
set_option maxRecDepth 100000
/-- coatcheck/coatcheckref03.Great -/
def C16 : CF := ⟨1, [(2, none)],
 .seq (.reg false [⟨some 1, .box 26 8 (.t 0), none, 0⟩,
   ⟨some 2, .mv (.c (.d (.v (.bool false)))), none, 0⟩])
 (.seq (.reg false [⟨some 3, .ld 8 true (.t 1), none, 0⟩,
   ⟨some 4, .call (.c (.fn (.func 64) [] [])) [.t 3], none, 0⟩,
   ⟨some 5, .eq .int false (.t 4) (.c (.d (.v (.int .i64 0)))), none, 0⟩,
   ⟨some 6, .mv (.t 5), none, 0⟩,
   ⟨some 7, .fa 1 (.t 1), some (6, true), 0⟩,
   ⟨some 8, .ld 1 false (.t 7), some (6, true), 0⟩,
   ⟨some 9, .fa 2 (.t 1), some (6, true), 0⟩,
   ⟨some 10, .ld 1 false (.t 9), some (6, true), 0⟩,
   ⟨some 11, .bin .mul (.t 8) (.t 10), some (6, true), 0⟩,
   ⟨some 12, .bin .gtr (.t 11) (.c (.d (.v (.int .i64 40)))), some (6, true), 0⟩,
   ⟨some 13, .mv (.t 12), some (6, true), 0⟩,
   ⟨some 14, .fa 4 (.t 1), some (13, false), 0⟩,
   ⟨some 15, .ld 1 false (.t 14), some (13, false), 0⟩,
   ⟨some 16, .bin .gtr (.t 15) (.c (.d (.v (.int .i64 16)))), some (13, false), 0⟩,
   ⟨some 17, .pick (.t 13) (.c (.d (.v (.bool true)))) (.t 16), some (6, true), 0⟩,
   ⟨some 18, .pick (.t 6) (.t 17) (.c (.d (.v (.bool false)))), none, 0⟩,
   ⟨some 2, .mv (.t 18), none, 0⟩])
 (.ret))⟩
theorem c16 : coF Try.prog Try.f18 = some C16 := by kernel_rfl
def A16 : Ann := { keep := [0, 1, 2], live := [] }
def E16 {Ω : Type} : Env Ω := econs 64 S19 (enil)
theorem e16 : GoodE Try.prog E16 := GoodE.cons g19 (GoodE.nil)
def S16 {Ω : Type} : Spec Ω := inl E16 A16 C16 false
theorem g16 : Good1 Try.prog 18 S16 := Good1.inl e16 mix Try.func18 (by kernel_rfl) c16 A16 false
def K18_1 : CC := .seq (.block 0 (.seq (.reg false [⟨some 14, .mv (.t 7), none, 0⟩,
     ⟨some 15, .eq .int true (.t 14) (.c (.d (.v (.int .i64 0)))), none, 0⟩,
     ⟨some 13, .mv (.t 15), none, 0⟩])
   (.cond 13 (.seq (.reg false [⟨some 16, .mv (.t 7), none, 0⟩,
       ⟨some 4, .mv (.c (.d (.v (.pointer none)))), none, 0⟩,
       ⟨some 5, .mv (.t 16), none, 0⟩])
     (.ret))
     (.seq (.reg false [⟨some 18, .mv (.t 1), none, 0⟩,
       ⟨some 19, .len (.t 18), none, 0⟩,
       ⟨some 20, .ld 8 true (.t 6), none, 0⟩,
       ⟨some 21, .call (.c (.fn (.func 86) [] [])) [.t 20], none, 0⟩,
       ⟨some 22, .eq .int true (.t 19) (.t 21), none, 0⟩,
       ⟨some 17, .mv (.t 22), none, 0⟩])
     (.cond 17 (.seq (.reg false [⟨some 4, .mv (.c (.d (.v (.pointer none)))), none, 0⟩,
         ⟨some 5, .mv (.c (.d (.v (.int .i64 3)))), none, 0⟩])
       (.ret))
       (.skip))))))
 (.seq (.reg true [⟨some 23, .ld 8 true (.t 6), none, 0⟩,
   ⟨some 24, .mv (.t 1), none, 0⟩,
   ⟨some 25, .call (.c (.fn (.func 63) [] [])) [.t 24], none, 2⟩,
   ⟨some 26, .bld [.d (.v (.int .i64 0)), .d (.v (.int .i64 0)), .d (.v (.int .i64 0)), .d (.v (.int .i64 0)), .d (.v (.int .i64 0)), .d (.v (.int .i64 0)), .d (.v (.int .i64 0)), .d (.v (.int .u64 0)), .d (.v (.int .i64 0)), .d (.v (.int .i64 0)), .d (.v (.int .u64 0)), .d (.v (.int .u64 0)), .d (.v (.int .u64 0)), .d (.v (.slice none 0 0))] [(0, 8, .t 23), (13, 1, .t 25)], none, 7⟩,
   ⟨some 27, .box 79 14 (.t 26), none, 15⟩,
   ⟨some 4, .mv (.t 27), none, 31⟩,
   ⟨some 5, .mv (.c (.d (.v (.int .i64 0)))), none, 63⟩])
 (.ret))
def K18_2 : CC := .reg false [⟨some 9, .ld 8 true (.t 2), none, 0⟩,
   ⟨some 10, .call (.c (.fn (.func 85) [] [])) [.t 9], none, 0⟩,
   ⟨some 8, .mv (.t 10), none, 0⟩,
   ⟨some 11, .ext 0 (.t 8), none, 0⟩,
   ⟨some 12, .ext 1 (.t 8), none, 0⟩,
   ⟨some 6, .newc 75 [.d (.v (.int .i64 0)), .d (.v (.int .i64 0)), .d (.v (.int .i64 0)), .d (.v (.int .i64 0)), .d (.v (.int .i64 0)), .d (.v (.int .i64 0)), .d (.v (.int .i64 0)), .d (.v (.int .u64 0))], none, 0⟩,
   ⟨none, .st 8 (.t 6) (.t 11), none, 0⟩,
   ⟨some 7, .mv (.t 12), none, 0⟩]
def K18_3 : CC := .reg false [⟨some 2, .box 26 8 (.t 0), none, 0⟩,
   ⟨some 4, .mv (.c (.d (.v (.pointer none)))), none, 0⟩,
   ⟨some 5, .mv (.c (.d (.v (.int .i64 0)))), none, 0⟩]
/-- coatcheck/memory.From -/
def C18 : CF := ⟨2, [(4, none), (5, none)],
 .seq K18_3 (.seq K18_2 K18_1)⟩
theorem c18 : coF Try.prog Try.f49 = some C18 := by kernel_rfl
def A18 : Ann := { keep := [0, 1, 2, 4, 5, 6, 7, 13, 17], live := [] }
def E18 {Ω : Type} : Env Ω := econs 63 S65 (econs 85 S63 (econs 86 S64 (enil)))
theorem e18 : GoodE Try.prog E18 := GoodE.cons g65 (GoodE.cons g63 (GoodE.cons g64 (GoodE.nil)))
def S18 {Ω : Type} : Spec Ω := inl E18 A18 C18 false
theorem g18 : Good1 Try.prog 49 S18 := Good1.inl e18 mix Try.func49 (by kernel_rfl) c18 A18 false
/-- coatcheck/memory.New -/
def C34 : CF := ⟨1, [(2, none), (3, none)],
 .seq (.reg false [⟨some 1, .box 26 8 (.t 0), none, 0⟩,
   ⟨some 2, .mv (.c (.d (.v (.pointer none)))), none, 0⟩,
   ⟨some 3, .mv (.c (.d (.v (.int .i64 0)))), none, 0⟩])
 (.seq (.reg true [⟨some 4, .ld 8 true (.t 1), none, 0⟩,
   ⟨some 5, .ld 8 true (.t 1), none, 0⟩,
   ⟨some 6, .call (.c (.fn (.func 50) [] [])) [.t 5], none, 2⟩,
   ⟨some 7, .call (.c (.fn (.func 49) [] [])) [.t 4, .t 6], none, 7⟩,
   ⟨some 8, .ext 0 (.t 7), none, 15⟩,
   ⟨some 9, .ext 1 (.t 7), none, 15⟩,
   ⟨some 2, .mv (.t 8), none, 63⟩,
   ⟨some 3, .mv (.t 9), none, 127⟩])
 (.ret))⟩
theorem c34 : coF Try.prog Try.f12 = some C34 := by kernel_rfl
def A34 : Ann := { keep := [0, 1, 2, 3], live := [] }
def E34 {Ω : Type} : Env Ω := econs 49 S18 (econs 50 S68 (enil))
theorem e34 : GoodE Try.prog E34 := GoodE.cons g18 (GoodE.cons g68 (GoodE.nil))
def S34 {Ω : Type} : Spec Ω := inl E34 A34 C34 false
theorem g34 : Good1 Try.prog 12 S34 := Good1.inl e34 mix Try.func12 (by kernel_rfl) c34 A34 false
/-- coatcheck/coatchecklaw06.Alike -/
def C49 : CF := ⟨2, [(4, none)],
 .seq (.reg false [⟨some 4, .mv (.c (.d (.v (.bool false)))), none, 0⟩])
 (.seq (.reg true [⟨some 5, .mv (.t 0), none, 0⟩,
   ⟨some 6, .call (.c (.fn (.func 17) [] [])) [.t 5], none, 1⟩,
   ⟨some 7, .mv (.t 1), none, 0⟩,
   ⟨some 8, .nilc (.t 7), none, 4⟩,
   ⟨some 9, .fa 8 (.t 8), none, 12⟩,
   ⟨some 10, .ld 1 false (.t 9), none, 28⟩,
   ⟨some 11, .call (.c (.fn (.func 84) [] [])) [.t 6, .t 10], none, 63⟩,
   ⟨some 12, .mv (.t 11), none, 127⟩,
   ⟨some 13, .mv (.t 0), some (12, true), 255⟩,
   ⟨some 14, .nilc (.t 13), some (12, true), 511⟩,
   ⟨some 15, .fa 8 (.t 14), some (12, true), 1023⟩,
   ⟨some 16, .ld 5 true (.t 15), some (12, true), 2047⟩,
   ⟨some 17, .mv (.t 1), some (12, true), 255⟩,
   ⟨some 18, .nilc (.t 17), some (12, true), 4351⟩,
   ⟨some 19, .fa 9 (.t 18), some (12, true), 12543⟩,
   ⟨some 20, .ld 5 true (.t 19), some (12, true), 28927⟩,
   ⟨some 21, .eq (.cons .int 0 1 false (.cons .int 1 1 false (.cons .int 2 1 false (.cons .int 3 1 false (.cons .int 4 1 false .nil))))) false (.t 16) (.t 20), some (12, true), 65535⟩,
   ⟨some 22, .pick (.t 12) (.t 21) (.c (.d (.v (.bool false)))), none, 131071⟩,
   ⟨some 4, .mv (.t 22), none, 262143⟩])
 (.ret))⟩
theorem c49 : coF Try.prog Try.f32 = some C49 := by kernel_rfl
def A49 : Ann := { keep := [0, 1, 4], live := [] }
def E49 {Ω : Type} : Env Ω := econs 84 S32 (econs 17 S33c (enil))
theorem e49 : GoodE Try.prog E49 := GoodE.cons g32 (GoodE.cons g33c (GoodE.nil))
def S49 {Ω : Type} : Spec Ω := inl E49 A49 C49 false
theorem g49 : Good1 Try.prog 32 S49 := Good1.inl e49 mix Try.func32 (by kernel_rfl) c49 A49 false
def K44_1 : CC := .seq (.reg true [⟨some 22, .mv (.t 7), none, 0⟩,
   ⟨some 23, .ld 8 true (.t 2), none, 0⟩,
   ⟨some 24, .mv (.t 1), none, 0⟩,
   ⟨some 25, .call (.c (.fn (.func 69) [] [])) [.t 24], none, 4⟩,
   ⟨some 26, .bld [.d (.v (.int .i64 0)), .d (.v (.int .i64 0)), .d (.v (.int .i64 0)), .d (.v (.int .i64 0)), .d (.v (.int .i64 0)), .d (.v (.int .i64 0)), .d (.v (.int .i64 0)), .d (.v (.int .u64 0)), .d (.v (.slice none 0 0)), .d (.v (.int .i64 0)), .d (.v (.int .i64 0)), .d (.v (.int .u64 0)), .d (.v (.int .u64 0)), .d (.v (.int .u64 0))] [(0, 8, .t 23), (8, 1, .t 25)], none, 14⟩,
   ⟨some 27, .box 103 14 (.t 26), none, 30⟩,
   ⟨some 28, .mv (.t 8), none, 0⟩,
   ⟨some 29, .eq .int false (.t 28) (.c (.d (.v (.int .i64 0)))), none, 64⟩,
   ⟨some 30, .mv (.t 29), none, 204⟩,
   ⟨some 31, .mv (.t 7), some (30, true), 460⟩,
   ⟨some 32, .eq .ptr true (.t 31) (.c (.d (.v (.pointer none)))), some (30, true), 972⟩,
   ⟨some 33, .pick (.t 30) (.t 32) (.c (.d (.v (.bool false)))), none, 1996⟩,
   ⟨some 34, .mv (.t 33), none, 4044⟩,
   ⟨some 35, .mv (.t 1), some (34, true), 8140⟩,
   ⟨some 36, .len (.t 35), some (34, true), 16332⟩,
   ⟨some 37, .ld 8 true (.t 2), some (34, true), 8140⟩,
   ⟨some 38, .call (.c (.fn (.func 65) [] [])) [.t 37], some (34, true), 40908⟩,
   ⟨some 39, .len (.t 38), some (34, true), 106444⟩,
   ⟨some 40, .eq .int false (.t 36) (.t 39), some (34, true), 262092⟩,
   ⟨some 41, .pick (.t 34) (.t 40) (.c (.d (.v (.bool false)))), none, 524236⟩,
   ⟨some 4, .mv (.t 22), none, 106445⟩,
   ⟨some 5, .mv (.t 27), none, 1155071⟩,
   ⟨some 6, .mv (.t 41), none, 4194303⟩])
 (.ret)
def K44_2 : CC := .reg false [⟨some 17, .ld 8 true (.t 2), none, 0⟩,
   ⟨some 18, .mv (.t 1), none, 0⟩,
   ⟨some 19, .call (.c (.fn (.func 49) [] [])) [.t 17, .t 18], none, 0⟩,
   ⟨some 16, .mv (.t 19), none, 0⟩,
   ⟨some 20, .ext 0 (.t 16), none, 0⟩,
   ⟨some 21, .ext 1 (.t 16), none, 0⟩,
   ⟨some 7, .mv (.t 20), none, 0⟩,
   ⟨some 8, .mv (.t 21), none, 0⟩]
def K44_3 : CC := .seq (.reg false [⟨some 9, .ld 8 true (.t 2), none, 0⟩,
   ⟨some 10, .call (.c (.fn (.func 18) [] [])) [.t 9], none, 0⟩,
   ⟨some 11, .mv (.t 10), none, 0⟩,
   ⟨some 12, .mv (.t 1), some (11, false), 0⟩,
   ⟨some 13, .len (.t 12), some (11, false), 0⟩,
   ⟨some 14, .bin .gtr (.t 13) (.c (.d (.v (.int .i64 400)))), some (11, false), 0⟩,
   ⟨some 15, .pick (.t 11) (.c (.d (.v (.bool true)))) (.t 14), none, 0⟩])
 (.cond 15 (.seq (.reg false [⟨some 4, .mv (.c (.d (.v (.pointer none)))), none, 0⟩,
     ⟨some 5, .mv (.c (.d (.v (.pointer none)))), none, 0⟩,
     ⟨some 6, .mv (.c (.d (.v (.bool false)))), none, 0⟩])
   (.ret))
   (.skip))
def K44_4 : CC := .reg false [⟨some 2, .box 26 8 (.t 0), none, 0⟩,
   ⟨some 4, .mv (.c (.d (.v (.pointer none)))), none, 0⟩,
   ⟨some 5, .mv (.c (.d (.v (.pointer none)))), none, 0⟩,
   ⟨some 6, .mv (.c (.d (.v (.bool false)))), none, 0⟩]
/-- coatcheck/coatchecklaw06.Both -/
def C44 : CF := ⟨2, [(4, none), (5, none), (6, none)],
 .seq K44_4 (.seq K44_3 (.seq K44_2 K44_1))⟩
theorem c44 : coF Try.prog Try.f27 = some C44 := by kernel_rfl
def A44 : Ann := { keep := [0, 1, 2, 4, 5, 6, 7, 8, 15], live := [], pu := [65] }
def E44 {Ω : Type} : Env Ω := econs 18 S16 (econs 49 S18 (econs 69 S17 (econs 65 S20d (enil))))
theorem e44 : GoodE Try.prog E44 := GoodE.cons g16 (GoodE.cons g18 (GoodE.cons g17 (GoodE.cons g20d (GoodE.nil))))
def S44 {Ω : Type} : Spec Ω := inl E44 A44 C44 false
theorem g44 : Good1 Try.prog 27 S44 := Good1.inl e44 mix Try.func27 (by kernel_rfl) c44 A44 false
end Go.Sx.Pr

/- Memory objects with their row's loc. -/
namespace Go.Sx.Pr
open Go Go.Sx Go.Sx.Md
def memC (c : Cf) (s : Ac) (o : Nat) : List SV := [I c.a, I c.b, I c.c, I c.d, I c.e, I c.f, I c.g, U c.l, I s.k, I s.a, U s.x, U s.y, U s.o, .own o]
def memD (c : Cf) (s : Ac) (o : Nat) : List SV := [I c.a, I c.b, I c.c, I c.d, I c.e, I c.f, I c.g, U c.l, .own o, I s.k, I s.a, U s.x, U s.y, U s.o]
end Go.Sx.Pr
