/- Pieces of the code of functions, compiled for the symbolic interpreter, each checked against the program; no conditions. -/
import Derived.Test.YtljmncdlehinnaaT2
import Derived.Test.YtljmncdlehinnaaT2
import Derived.Test.YtljmncdlehinnaaRows
import Derived.KernelRfl
import Derived.Test.YtljmncdlehinnaaR12
set_option linter.all false
set_option linter.unusedVariables false
set_option linter.unusedSimpArgs false
set_option linter.unnecessarySimpa false
namespace Go.Sx.Pr
open Go Go.Sx Go.Proofs
set_option maxRecDepth 100000
def K1001_1 : CC := .seq (.reg false [⟨some 8, .mv (.c (.d (.v (.bool true)))), none, 0⟩])
 (.ret)
def K1001_2 : CC := .reg false [⟨some 81, .mv (.t 17), none, 0⟩,
   ⟨some 82, .bin .add (.t 81) (.c (.d (.v (.int .i64 1)))), none, 0⟩,
   ⟨some 17, .mv (.t 82), none, 0⟩]
def K1001_3 : CC := .reg false [⟨some 280, .mv (.t 12), none, 0⟩,
   ⟨some 281, .mv (.t 18), none, 0⟩,
   ⟨some 282, .ld 33 true (.t 19), none, 0⟩,
   ⟨some 283, .ixs 33 (.t 280) (.t 281), none, 0⟩,
   ⟨none, .st 33 (.t 283) (.t 282), none, 0⟩]
def K1001_4 : CC := .seq (.reg false [⟨some 165, .mv (.t 14), none, 0⟩,
   ⟨some 166, .mv (.t 24), none, 0⟩,
   ⟨some 167, .mv (.t 18), none, 0⟩,
   ⟨some 168, .bin .add (.t 167) (.c (.d (.v (.int .i64 1)))), none, 0⟩,
   ⟨some 169, .ixs 1 (.t 165) (.t 166), none, 0⟩,
   ⟨none, .st 1 (.t 169) (.t 168), none, 0⟩])
 (.reg true [⟨some 170, .mv (.t 13), none, 0⟩,
   ⟨some 171, .mv (.t 18), none, 0⟩,
   ⟨some 172, .mv (.t 24), none, 0⟩,
   ⟨some 173, .fa 2 (.t 9), none, 0⟩,
   ⟨some 174, .ld 1 false (.t 173), none, 8⟩,
   ⟨some 175, .fa 0 (.t 19), none, 0⟩,
   ⟨none, .st 1 (.t 175) (.c (.d (.v (.int .i64 36)))), none, 32⟩,
   ⟨some 176, .fa 1 (.t 19), none, 100⟩,
   ⟨some 177, .fa 3 (.t 176), none, 228⟩,
   ⟨none, .st 1 (.t 177) (.t 172), none, 484⟩,
   ⟨some 178, .ixs 1 (.t 170) (.t 171), none, 1023⟩,
   ⟨none, .st 1 (.t 178) (.t 174), none, 2047⟩])
def K1001_5 : CC := .cond 164 (.seq (.reg false [⟨some 8, .mv (.c (.d (.v (.bool false)))), none, 0⟩])
   (.ret))
   (.skip)
def K1001_6 : CC := .reg true [⟨some 133, .mv (.t 24), none, 0⟩,
   ⟨some 134, .bin .lss (.t 133) (.c (.d (.v (.int .i64 0)))), none, 1⟩,
   ⟨some 135, .mv (.t 134), none, 3⟩,
   ⟨some 136, .mv (.t 24), some (135, false), 7⟩,
   ⟨some 137, .fa 1 (.t 9), some (135, false), 7⟩,
   ⟨some 138, .ld 1 false (.t 137), some (135, false), 23⟩,
   ⟨some 139, .bin .geq (.t 136) (.t 138), some (135, false), 63⟩,
   ⟨some 140, .pick (.t 135) (.c (.d (.v (.bool true)))) (.t 139), none, 127⟩,
   ⟨some 141, .mv (.t 140), none, 255⟩,
   ⟨some 142, .mv (.t 14), some (141, false), 511⟩,
   ⟨some 143, .mv (.t 24), some (141, false), 511⟩,
   ⟨some 144, .ixs 1 (.t 142) (.t 143), some (141, false), 2047⟩,
   ⟨some 145, .ld 1 false (.t 144), some (141, false), 4095⟩,
   ⟨some 146, .eq .int true (.t 145) (.c (.d (.v (.int .i64 0)))), some (141, false), 8191⟩,
   ⟨some 147, .pick (.t 141) (.c (.d (.v (.bool true)))) (.t 146), none, 16383⟩,
   ⟨some 148, .mv (.t 147), none, 32767⟩,
   ⟨some 149, .mv (.t 15), some (148, false), 65535⟩,
   ⟨some 150, .mv (.t 24), some (148, false), 65535⟩,
   ⟨some 151, .ixs 1 (.t 149) (.t 150), some (148, false), 262143⟩,
   ⟨some 152, .ld 1 false (.t 151), some (148, false), 524287⟩,
   ⟨some 153, .eq .int true (.t 152) (.c (.d (.v (.int .u64 0)))), some (148, false), 1048575⟩,
   ⟨some 154, .mv (.t 153), some (148, false), 2097151⟩,
   ⟨some 155, .mv (.t 15), some (154, true), 4194303⟩,
   ⟨some 156, .mv (.t 24), some (154, true), 4194303⟩,
   ⟨some 157, .ixs 1 (.t 155) (.t 156), some (154, true), 16777215⟩,
   ⟨some 158, .ld 1 false (.t 157), some (154, true), 33554431⟩,
   ⟨some 159, .bin .add (.t 158) (.c (.d (.v (.int .u64 2)))), some (154, true), 67108863⟩,
   ⟨some 160, .fa 9 (.t 19), some (154, true), 4194303⟩,
   ⟨some 161, .ld 1 false (.t 160), some (154, true), 138412031⟩,
   ⟨some 162, .bin .gtr (.t 159) (.t 161), some (154, true), 536870911⟩,
   ⟨some 163, .pick (.t 154) (.t 162) (.c (.d (.v (.bool false)))), some (148, false), 1073741823⟩,
   ⟨some 164, .pick (.t 148) (.c (.d (.v (.bool true)))) (.t 163), none, 2147483647⟩]
def K1001_7 : CC := .reg false [⟨some 131, .fa 28 (.t 19), none, 0⟩,
   ⟨some 132, .ld 1 false (.t 131), none, 0⟩,
   ⟨some 24, .mv (.t 132), none, 0⟩]
def K1001_8 : CC := .reg false [⟨some 182, .mv (.t 10), none, 0⟩,
   ⟨some 183, .call (.c (.fn (.func 14) [] [])) [.t 182, .c (.d (.v (.int .i64 0)))], none, 0⟩,
   ⟨some 184, .fa 0 (.t 19), none, 0⟩,
   ⟨none, .st 1 (.t 184) (.c (.d (.v (.int .i64 33)))), none, 0⟩,
   ⟨some 185, .fa 28 (.t 19), none, 0⟩,
   ⟨none, .st 1 (.t 185) (.c (.d (.v (.int .i64 0)))), none, 0⟩,
   ⟨some 186, .fa 9 (.t 19), none, 0⟩,
   ⟨none, .st 1 (.t 186) (.t 183), none, 0⟩]
def K1001_9 : CC := .reg true [⟨some 190, .mv (.t 23), none, 0⟩,
   ⟨some 191, .fa 2 (.t 9), none, 0⟩,
   ⟨some 192, .ld 1 false (.t 191), none, 2⟩,
   ⟨some 193, .bin .mul (.t 190) (.t 192), none, 7⟩,
   ⟨some 194, .mv (.t 13), none, 0⟩,
   ⟨some 195, .mv (.t 18), none, 0⟩,
   ⟨some 196, .ixs 1 (.t 194) (.t 195), none, 48⟩,
   ⟨some 197, .ld 1 false (.t 196), none, 112⟩,
   ⟨some 198, .bin .add (.t 193) (.t 197), none, 255⟩,
   ⟨some 199, .fa 0 (.t 19), none, 0⟩,
   ⟨none, .st 1 (.t 199) (.c (.d (.v (.int .i64 30)))), none, 512⟩,
   ⟨some 200, .fa 19 (.t 19), none, 2047⟩,
   ⟨none, .st 1 (.t 200) (.t 198), none, 4095⟩]
def K1001_10 : CC := .seq (.reg true [⟨some 210, .mv (.t 23), none, 0⟩,
   ⟨some 211, .fa 2 (.t 9), none, 0⟩,
   ⟨some 212, .ld 1 false (.t 211), none, 2⟩,
   ⟨some 213, .bin .mul (.t 210) (.t 212), none, 7⟩,
   ⟨some 214, .mv (.t 13), none, 0⟩,
   ⟨some 215, .mv (.t 18), none, 0⟩,
   ⟨some 216, .ixs 1 (.t 214) (.t 215), none, 48⟩,
   ⟨some 217, .ld 1 false (.t 216), none, 112⟩,
   ⟨some 218, .bin .add (.t 213) (.t 217), none, 255⟩,
   ⟨some 219, .fa 0 (.t 19), none, 0⟩,
   ⟨none, .st 1 (.t 219) (.c (.d (.v (.int .i64 30)))), none, 512⟩,
   ⟨some 220, .fa 19 (.t 19), none, 2047⟩,
   ⟨none, .st 1 (.t 220) (.t 218), none, 4095⟩])
 (.seq (.reg false [⟨some 221, .mv (.t 13), none, 0⟩,
   ⟨some 222, .mv (.t 18), none, 0⟩,
   ⟨some 223, .ixs 1 (.t 221) (.t 222), none, 0⟩,
   ⟨some 224, .ld 1 false (.t 223), none, 0⟩,
   ⟨some 225, .eq .int false (.t 224) (.c (.d (.v (.int .i64 0)))), none, 0⟩])
 (.cond 225 (.seq (.reg false [⟨some 8, .mv (.c (.d (.v (.bool false)))), none, 0⟩])
   (.ret))
   (.skip)))
def K1001_11 : CC := .reg false [⟨some 204, .mv (.t 13), none, 0⟩,
   ⟨some 205, .mv (.t 18), none, 0⟩,
   ⟨some 206, .ixs 1 (.t 204) (.t 205), none, 0⟩,
   ⟨some 207, .ld 1 false (.t 206), none, 0⟩,
   ⟨some 208, .bin .sub (.t 207) (.c (.d (.v (.int .i64 1)))), none, 0⟩,
   ⟨some 209, .ixs 1 (.t 204) (.t 205), none, 0⟩,
   ⟨none, .st 1 (.t 209) (.t 208), none, 0⟩]
def K1001_12 : CC := .seq (.reg false [⟨some 261, .mv (.t 14), none, 0⟩,
   ⟨some 262, .mv (.t 23), none, 0⟩,
   ⟨some 263, .mv (.t 13), none, 0⟩,
   ⟨some 264, .mv (.t 18), none, 0⟩,
   ⟨some 265, .mv (.t 15), none, 0⟩,
   ⟨some 266, .mv (.t 23), none, 0⟩,
   ⟨some 267, .mv (.t 12), none, 0⟩,
   ⟨some 268, .mv (.t 18), none, 0⟩,
   ⟨some 269, .ixs 33 (.t 267) (.t 268), none, 0⟩,
   ⟨some 270, .fa 25 (.t 269), none, 0⟩,
   ⟨some 271, .ld 1 false (.t 270), none, 0⟩,
   ⟨some 272, .ixs 1 (.t 261) (.t 262), none, 0⟩,
   ⟨none, .st 1 (.t 272) (.c (.d (.v (.int .i64 0)))), none, 0⟩,
   ⟨some 273, .ixs 1 (.t 263) (.t 264), none, 0⟩,
   ⟨none, .st 1 (.t 273) (.c (.d (.v (.int .i64 0)))), none, 0⟩,
   ⟨some 274, .ixs 1 (.t 265) (.t 266), none, 0⟩,
   ⟨none, .st 1 (.t 274) (.t 271), none, 0⟩])
 (.reg false [⟨some 275, .mv (.t 10), none, 0⟩,
   ⟨some 276, .call (.c (.fn (.func 14) [] [])) [.t 275, .c (.d (.v (.int .i64 0)))], none, 0⟩,
   ⟨some 277, .fa 0 (.t 19), none, 0⟩,
   ⟨none, .st 1 (.t 277) (.c (.d (.v (.int .i64 33)))), none, 0⟩,
   ⟨some 278, .fa 28 (.t 19), none, 0⟩,
   ⟨none, .st 1 (.t 278) (.c (.d (.v (.int .i64 0)))), none, 0⟩,
   ⟨some 279, .fa 9 (.t 19), none, 0⟩,
   ⟨none, .st 1 (.t 279) (.t 276), none, 0⟩])
def K1001_13 : CC := .cond 260 (.seq (.reg false [⟨some 8, .mv (.c (.d (.v (.bool false)))), none, 0⟩])
   (.ret))
   (.skip)
def K1001_14 : CC := .reg true [⟨some 229, .mv (.t 13), none, 0⟩,
   ⟨some 230, .mv (.t 18), none, 0⟩,
   ⟨some 231, .ixs 1 (.t 229) (.t 230), none, 3⟩,
   ⟨some 232, .ld 1 false (.t 231), none, 7⟩,
   ⟨some 233, .eq .int true (.t 232) (.c (.d (.v (.int .i64 1)))), none, 15⟩,
   ⟨some 234, .mv (.t 233), none, 31⟩,
   ⟨some 235, .mv (.t 23), some (234, false), 63⟩,
   ⟨some 236, .bin .lss (.t 235) (.c (.d (.v (.int .i64 0)))), some (234, false), 127⟩,
   ⟨some 237, .pick (.t 234) (.c (.d (.v (.bool true)))) (.t 236), none, 255⟩,
   ⟨some 238, .mv (.t 237), none, 511⟩,
   ⟨some 239, .mv (.t 23), some (238, false), 1023⟩,
   ⟨some 240, .fa 1 (.t 9), some (238, false), 1023⟩,
   ⟨some 241, .ld 1 false (.t 240), some (238, false), 3071⟩,
   ⟨some 242, .bin .geq (.t 239) (.t 241), some (238, false), 8191⟩,
   ⟨some 243, .pick (.t 238) (.c (.d (.v (.bool true)))) (.t 242), none, 16383⟩,
   ⟨some 244, .mv (.t 243), none, 32767⟩,
   ⟨some 245, .ld 8 true (.t 9), some (244, false), 65535⟩,
   ⟨some 246, .mv (.t 10), some (244, false), 65535⟩,
   ⟨some 247, .call (.c (.fn (.func 17) [] [])) [.t 246], some (244, false), 196607⟩,
   ⟨some 248, .mv (.t 23), some (244, false), 65535⟩,
   ⟨some 249, .call (.c (.fn (.func 16) [] [])) [.t 245, .t 247, .t 248], some (244, false), 1048575⟩,
   ⟨some 250, .eq .int true (.t 249) (.c (.d (.v (.int .i64 3)))), some (244, false), 2097151⟩,
   ⟨some 251, .pick (.t 244) (.c (.d (.v (.bool true)))) (.t 250), none, 4194303⟩,
   ⟨some 252, .mv (.t 251), none, 8388607⟩,
   ⟨some 253, .mv (.t 14), some (252, false), 16777215⟩,
   ⟨some 254, .mv (.t 23), some (252, false), 16777215⟩,
   ⟨some 255, .ixs 1 (.t 253) (.t 254), some (252, false), 67108863⟩,
   ⟨some 256, .ld 1 false (.t 255), some (252, false), 134217727⟩,
   ⟨some 257, .mv (.t 18), some (252, false), 16777215⟩,
   ⟨some 258, .bin .add (.t 257) (.c (.d (.v (.int .i64 1)))), some (252, false), 285212671⟩,
   ⟨some 259, .eq .int true (.t 256) (.t 258), some (252, false), 1073741823⟩,
   ⟨some 260, .pick (.t 252) (.c (.d (.v (.bool true)))) (.t 259), none, 2147483647⟩]
def K1001_15 : CC := .seq (.reg false [⟨some 8, .mv (.c (.d (.v (.bool false)))), none, 0⟩])
 (.ret)
def K1001_16 : CC := .reg false [⟨some 227, .mv (.t 22), none, 0⟩,
   ⟨some 228, .eq .int false (.t 227) (.c (.d (.v (.int .i64 32)))), none, 0⟩,
   ⟨some 226, .mv (.t 228), none, 0⟩]
def K1001_17 : CC := .reg false [⟨some 202, .mv (.t 22), none, 0⟩,
   ⟨some 203, .eq .int false (.t 202) (.c (.d (.v (.int .i64 30)))), none, 0⟩,
   ⟨some 201, .mv (.t 203), none, 0⟩]
def K1001_18 : CC := .reg false [⟨some 188, .mv (.t 22), none, 0⟩,
   ⟨some 189, .eq .int false (.t 188) (.c (.d (.v (.int .i64 37)))), none, 0⟩,
   ⟨some 187, .mv (.t 189), none, 0⟩]
def K1001_19 : CC := .reg false [⟨some 180, .mv (.t 22), none, 0⟩,
   ⟨some 181, .eq .int false (.t 180) (.c (.d (.v (.int .i64 33)))), none, 0⟩,
   ⟨some 179, .mv (.t 181), none, 0⟩]
def K1001_20 : CC := .reg false [⟨some 129, .mv (.t 22), none, 0⟩,
   ⟨some 130, .eq .int false (.t 129) (.c (.d (.v (.int .i64 34)))), none, 0⟩,
   ⟨some 128, .mv (.t 130), none, 0⟩]
def K1001_21 : CC := .reg false [⟨some 126, .mv (.t 20), none, 0⟩,
   ⟨some 127, .eq .int false (.t 126) (.c (.d (.v (.int .i64 0)))), none, 0⟩,
   ⟨some 125, .mv (.t 127), none, 0⟩]
def K1001_22 : CC := .reg false [⟨some 119, .mv (.t 12), none, 0⟩,
   ⟨some 120, .mv (.t 18), none, 0⟩,
   ⟨some 121, .ixs 33 (.t 119) (.t 120), none, 0⟩,
   ⟨some 122, .fa 1 (.t 121), none, 0⟩,
   ⟨some 123, .fa 3 (.t 122), none, 0⟩,
   ⟨some 124, .ld 1 false (.t 123), none, 0⟩,
   ⟨some 23, .mv (.t 124), none, 0⟩]
def K1001_23 : CC := .reg false [⟨some 114, .mv (.t 12), none, 0⟩,
   ⟨some 115, .mv (.t 18), none, 0⟩,
   ⟨some 116, .ixs 33 (.t 114) (.t 115), none, 0⟩,
   ⟨some 117, .fa 0 (.t 116), none, 0⟩,
   ⟨some 118, .ld 1 false (.t 117), none, 0⟩,
   ⟨some 22, .mv (.t 118), none, 0⟩]
def K1001_24 : CC := .seq (.reg false [⟨some 112, .mv (.t 21), none, 0⟩,
   ⟨some 113, .un .not (.t 112), none, 0⟩])
 (.cond 113 (.seq (.reg false [⟨some 8, .mv (.c (.d (.v (.bool false)))), none, 0⟩])
   (.ret))
   (.skip))
def K1001_25 : CC := .reg false [⟨some 103, .mv (.t 10), none, 0⟩,
   ⟨some 104, .mv (.t 12), none, 0⟩,
   ⟨some 105, .mv (.t 18), none, 0⟩,
   ⟨some 106, .ixs 33 (.t 104) (.t 105), none, 0⟩,
   ⟨some 107, .ld 33 true (.t 106), none, 0⟩,
   ⟨some 108, .call (.c (.fn (.func 15) [] [])) [.t 103, .t 107], none, 0⟩,
   ⟨some 102, .mv (.t 108), none, 0⟩,
   ⟨some 109, .ext 0 (.t 102), none, 0⟩,
   ⟨some 110, .ext 1 (.t 102), none, 0⟩,
   ⟨some 111, .ext 2 (.t 102), none, 0⟩,
   ⟨some 19, .newc 40 [.d (.v (.int .i64 0)), .d (.v (.int .i64 0)), .d (.v (.int .u64 0)), .d (.v (.int .u64 0)), .d (.v (.int .i64 0)), .d (.v (.bool false)), .d (.v (.int .i64 0)), .d (.v (.int .i64 0)), .d (.v (.bool false)), .d (.v (.int .u64 0)), .d (.v (.slice none 0 0)), .d (.v (.int .u64 0)), .d (.v (.slice none 0 0)), .d (.v (.int .u64 0)), .d (.v (.slice none 0 0)), .d (.v (.int .u64 0)), .d (.v (.slice none 0 0)), .d (.v (.slice none 0 0)), .d (.v (.int .i64 0)), .d (.v (.int .i64 0)), .d (.v (.int .i64 0)), .d (.v (.int .i64 0)), .d (.v (.int .i64 0)), .d (.v (.int .u64 0)), .d (.v (.int .u64 0)), .d (.v (.int .u64 0)), .d (.v (.int .u64 0)), .d (.v (.int .u64 0)), .d (.v (.int .i64 0)), .d (.v (.slice none 0 0)), .d (.v (.int .u64 0)), .d (.v (.int .i64 0)), .d (.v (.bool false))], none, 0⟩,
   ⟨none, .st 33 (.t 19) (.t 109), none, 0⟩,
   ⟨some 20, .mv (.t 110), none, 0⟩,
   ⟨some 21, .mv (.t 111), none, 0⟩]
def K1001_26 : CC := .seq (.reg false [⟨some 91, .mv (.t 3), none, 0⟩,
   ⟨some 92, .mv (.t 17), none, 0⟩,
   ⟨some 93, .ixs 1 (.t 91) (.t 92), none, 0⟩,
   ⟨some 94, .ld 1 false (.t 93), none, 0⟩,
   ⟨some 95, .conv .i64 (.t 94), none, 0⟩,
   ⟨some 96, .bin .gtr (.t 95) (.c (.d (.v (.int .i64 200)))), none, 0⟩])
 (.cond 96 (.reg false [⟨some 97, .mv (.t 10), none, 0⟩,
     ⟨some 98, .mv (.t 10), none, 0⟩,
     ⟨some 99, .call (.c (.fn (.func 14) [] [])) [.t 98, .c (.d (.v (.int .i64 0)))], none, 0⟩,
     ⟨some 100, .bin .add (.t 99) (.c (.d (.v (.int .u64 1)))), none, 0⟩,
     ⟨some 101, .call (.c (.fn (.func 13) [] [])) [.t 97, .c (.d (.v (.int .i64 0))), .t 100], none, 0⟩])
   (.skip))
def K1001_27 : CC := .reg true [⟨some 83, .mv (.t 3), none, 0⟩,
   ⟨some 84, .mv (.t 17), none, 0⟩,
   ⟨some 85, .ixs 1 (.t 83) (.t 84), none, 3⟩,
   ⟨some 86, .ld 1 false (.t 85), none, 7⟩,
   ⟨some 87, .conv .i64 (.t 86), none, 15⟩,
   ⟨some 88, .fa 0 (.t 9), none, 0⟩,
   ⟨some 89, .ld 1 false (.t 88), none, 32⟩,
   ⟨some 90, .bin .rem (.t 87) (.t 89), none, 127⟩,
   ⟨some 18, .mv (.t 90), none, 255⟩]
def K1001_28 : CC := .seq (.reg false [⟨some 77, .mv (.t 17), none, 0⟩,
   ⟨some 78, .mv (.t 3), none, 0⟩,
   ⟨some 79, .len (.t 78), none, 0⟩,
   ⟨some 80, .bin .lss (.t 77) (.t 79), none, 0⟩])
 (.cond 80 (.skip)
   (.exit 2))
def L1001_29 : CC := .seq K1001_28 (.seq (.block 3 (.seq K1001_27 (.seq K1001_26 (.seq K1001_25 (.seq K1001_24 (.seq K1001_23 (.seq K1001_22 (.seq (.block 4 (.seq K1001_21 (.cond 125 .skip (.seq K1001_20 (.cond 128 (.seq K1001_7 (.seq (.seq K1001_6 K1001_5) K1001_4)) (.seq K1001_19 (.cond 179 K1001_8 (.seq K1001_18 (.cond 187 K1001_9 (.seq K1001_17 (.cond 201 (.seq K1001_11 K1001_10) (.seq K1001_16 (.cond 226 (.seq (.seq K1001_14 K1001_13) K1001_12) K1001_15))))))))))))) K1001_3)))))))) K1001_2)
def K1001_30 : CC := .reg false [⟨some 17, .mv (.c (.d (.v (.int .i64 0)))), none, 0⟩]
def L1001_31 : CC := .seq (.seq (.reg false [⟨some 66, .mv (.t 16), none, 0⟩,
   ⟨some 67, .mv (.t 12), none, 0⟩,
   ⟨some 68, .len (.t 67), none, 0⟩,
   ⟨some 69, .bin .lss (.t 66) (.t 68), none, 0⟩])
 (.cond 69 (.skip)
   (.exit 0)))
 (.seq (.block 1 (.reg false [⟨some 72, .mv (.t 12), none, 0⟩,
     ⟨some 73, .mv (.t 16), none, 0⟩,
     ⟨some 74, .bld [.d (.v (.int .i64 0)), .d (.v (.int .u64 0)), .d (.v (.int .u64 0)), .d (.v (.int .i64 0)), .d (.v (.bool false)), .d (.v (.int .i64 0)), .d (.v (.int .i64 0))] [(3, 1, .c (.d (.v (.int .i64 (-1)))))], none, 0⟩,
     ⟨some 75, .bld [.d (.v (.int .i64 0)), .d (.v (.int .i64 0)), .d (.v (.int .u64 0)), .d (.v (.int .u64 0)), .d (.v (.int .i64 0)), .d (.v (.bool false)), .d (.v (.int .i64 0)), .d (.v (.int .i64 0)), .d (.v (.bool false)), .d (.v (.int .u64 0)), .d (.v (.slice none 0 0)), .d (.v (.int .u64 0)), .d (.v (.slice none 0 0)), .d (.v (.int .u64 0)), .d (.v (.slice none 0 0)), .d (.v (.int .u64 0)), .d (.v (.slice none 0 0)), .d (.v (.slice none 0 0)), .d (.v (.int .i64 0)), .d (.v (.int .i64 0)), .d (.v (.int .i64 0)), .d (.v (.int .i64 0)), .d (.v (.int .i64 0)), .d (.v (.int .u64 0)), .d (.v (.int .u64 0)), .d (.v (.int .u64 0)), .d (.v (.int .u64 0)), .d (.v (.int .u64 0)), .d (.v (.int .i64 0)), .d (.v (.slice none 0 0)), .d (.v (.int .u64 0)), .d (.v (.int .i64 0)), .d (.v (.bool false))] [(0, 1, .c (.d (.v (.int .i64 33)))), (9, 1, .c (.d (.v (.int .u64 2)))), (1, 7, .t 74)], none, 0⟩,
     ⟨some 76, .ixs 33 (.t 72) (.t 73), none, 0⟩,
     ⟨none, .st 33 (.t 76) (.t 75), none, 0⟩]))
 (.reg false [⟨some 70, .mv (.t 16), none, 0⟩,
   ⟨some 71, .bin .add (.t 70) (.c (.d (.v (.int .i64 1)))), none, 0⟩,
   ⟨some 16, .mv (.t 71), none, 0⟩]))
def K1001_32 : CC := .reg false [⟨some 16, .mv (.c (.d (.v (.int .i64 0)))), none, 0⟩]
def K1001_33 : CC := .reg false [⟨some 63, .fa 1 (.t 9), none, 0⟩,
   ⟨some 64, .ld 1 false (.t 63), none, 0⟩,
   ⟨some 65, .mks 24 1 8 (some .u64) [.d (.v (.int .u64 0))] (.t 64), none, 0⟩,
   ⟨some 15, .mv (.t 65), none, 0⟩]
def K1001_34 : CC := .reg false [⟨some 60, .fa 1 (.t 9), none, 0⟩,
   ⟨some 61, .ld 1 false (.t 60), none, 0⟩,
   ⟨some 62, .mks 3 1 8 (some .i64) [.d (.v (.int .i64 0))] (.t 61), none, 0⟩,
   ⟨some 14, .mv (.t 62), none, 0⟩]
def K1001_35 : CC := .reg false [⟨some 57, .fa 0 (.t 9), none, 0⟩,
   ⟨some 58, .ld 1 false (.t 57), none, 0⟩,
   ⟨some 59, .mks 3 1 8 (some .i64) [.d (.v (.int .i64 0))] (.t 58), none, 0⟩,
   ⟨some 13, .mv (.t 59), none, 0⟩]
def K1001_36 : CC := .reg false [⟨some 54, .fa 0 (.t 9), none, 0⟩,
   ⟨some 55, .ld 1 false (.t 54), none, 0⟩,
   ⟨some 56, .mks 40 33 360 none [.d (.v (.int .i64 0)), .d (.v (.int .i64 0)), .d (.v (.int .u64 0)), .d (.v (.int .u64 0)), .d (.v (.int .i64 0)), .d (.v (.bool false)), .d (.v (.int .i64 0)), .d (.v (.int .i64 0)), .d (.v (.bool false)), .d (.v (.int .u64 0)), .d (.ints .i64 []), .d (.v (.int .u64 0)), .d (.ints .i64 []), .d (.v (.int .u64 0)), .d (.ints .i64 []), .d (.v (.int .u64 0)), .d (.ints .i64 []), .d (.ints .i64 []), .d (.v (.int .i64 0)), .d (.v (.int .i64 0)), .d (.v (.int .i64 0)), .d (.v (.int .i64 0)), .d (.v (.int .i64 0)), .d (.v (.int .u64 0)), .d (.v (.int .u64 0)), .d (.v (.int .u64 0)), .d (.v (.int .u64 0)), .d (.v (.int .u64 0)), .d (.v (.int .i64 0)), .d (.ints .u64 []), .d (.v (.int .u64 0)), .d (.v (.int .i64 0)), .d (.v (.bool false))] (.t 55), none, 0⟩,
   ⟨some 12, .mv (.t 56), none, 0⟩]
def K1001_37 : CC := .seq (.reg false [⟨some 48, .mv (.t 11), none, 0⟩,
   ⟨some 49, .eq .int true (.t 48) (.c (.d (.v (.int .i64 0)))), none, 0⟩,
   ⟨some 50, .mv (.t 49), none, 0⟩,
   ⟨some 51, .mv (.t 10), some (50, false), 0⟩,
   ⟨some 52, .eq .ptr false (.t 51) (.c (.d (.v (.pointer none)))), some (50, false), 0⟩,
   ⟨some 53, .pick (.t 50) (.c (.d (.v (.bool true)))) (.t 52), none, 0⟩])
 (.cond 53 (.seq (.reg false [⟨some 8, .mv (.c (.d (.v (.bool false)))), none, 0⟩])
   (.ret))
   (.skip))
def K1001_38 : CC := .reg false [⟨some 44, .ld 8 true (.t 9), none, 0⟩,
   ⟨some 45, .call (.c (.fn (.func 12) [] [])) [.t 44], none, 0⟩,
   ⟨some 43, .mv (.t 45), none, 0⟩,
   ⟨some 46, .ext 0 (.t 43), none, 0⟩,
   ⟨some 47, .ext 1 (.t 43), none, 0⟩,
   ⟨some 10, .mv (.t 46), none, 0⟩,
   ⟨some 11, .mv (.t 47), none, 0⟩]
def K1001_39 : CC := .seq (.reg false [⟨some 40, .mv (.t 3), none, 0⟩,
   ⟨some 41, .len (.t 40), none, 0⟩,
   ⟨some 42, .bin .gtr (.t 41) (.c (.d (.v (.int .i64 800)))), none, 0⟩])
 (.cond 42 (.seq (.reg false [⟨some 8, .mv (.c (.d (.v (.bool true)))), none, 0⟩])
   (.ret))
   (.skip))
def K1001_40 : CC := .reg false [⟨some 27, .mv (.t 0), none, 0⟩,
   ⟨some 28, .conv .i64 (.t 27), none, 0⟩,
   ⟨some 29, .bin .rem (.t 28) (.c (.d (.v (.int .i64 8)))), none, 0⟩,
   ⟨some 30, .bin .add (.c (.d (.v (.int .i64 1)))) (.t 29), none, 0⟩,
   ⟨some 31, .mv (.t 1), none, 0⟩,
   ⟨some 32, .conv .i64 (.t 31), none, 0⟩,
   ⟨some 33, .bin .rem (.t 32) (.c (.d (.v (.int .i64 3)))), none, 0⟩,
   ⟨some 34, .bin .add (.c (.d (.v (.int .i64 1)))) (.t 33), none, 0⟩,
   ⟨some 35, .mv (.t 2), none, 0⟩,
   ⟨some 36, .conv .i64 (.t 35), none, 0⟩,
   ⟨some 37, .bin .rem (.t 36) (.c (.d (.v (.int .i64 4)))), none, 0⟩,
   ⟨some 38, .bin .add (.c (.d (.v (.int .i64 1)))) (.t 37), none, 0⟩,
   ⟨some 39, .bld [.d (.v (.int .i64 0)), .d (.v (.int .i64 0)), .d (.v (.int .i64 0)), .d (.v (.int .i64 0)), .d (.v (.int .i64 0)), .d (.v (.int .i64 0)), .d (.v (.int .i64 0)), .d (.v (.int .u64 0))] [(0, 1, .t 30), (1, 1, .t 34), (2, 1, .t 38), (3, 1, .c (.d (.v (.int .i64 1)))), (4, 1, .c (.d (.v (.int .i64 1)))), (6, 1, .c (.d (.v (.int .i64 1)))), (7, 1, .c (.d (.v (.int .u64 1))))], none, 0⟩,
   ⟨some 9, .newc 26 [.d (.v (.int .i64 0)), .d (.v (.int .i64 0)), .d (.v (.int .i64 0)), .d (.v (.int .i64 0)), .d (.v (.int .i64 0)), .d (.v (.int .i64 0)), .d (.v (.int .i64 0)), .d (.v (.int .u64 0))], none, 0⟩,
   ⟨none, .st 8 (.t 9) (.t 39), none, 0⟩]
def K1001_41 : CC := .seq (.reg false [⟨some 25, .call (.c (.fn (.func 11) [] [])) [], none, 0⟩,
   ⟨some 26, .un .not (.t 25), none, 0⟩])
 (.cond 26 (.seq (.reg false [⟨some 8, .mv (.c (.d (.v (.bool false)))), none, 0⟩])
   (.ret))
   (.skip))
def K1001_42 : CC := .reg false [⟨some 8, .mv (.c (.d (.v (.bool false)))), none, 0⟩]
def PW1 : CC := .seq K1001_21 (.cond 125 .skip (.seq K1001_20 (.cond 128 (.seq K1001_7 (.seq (.seq K1001_6 K1001_5) K1001_4)) (.seq K1001_19 (.cond 179 K1001_8 (.seq K1001_18 (.cond 187 K1001_9 (.seq K1001_17 (.cond 201 (.seq K1001_11 K1001_10) (.seq K1001_16 (.cond 226 (.seq (.seq K1001_14 K1001_13) K1001_12) K1001_15)))))))))))
/-- coatcheck/coatchecklaw08.SlabClaims -/
def C1001 : CF := ⟨4, [(8, none)],
 .seq K1001_42 (.seq K1001_41 (.seq K1001_40 (.seq K1001_39 (.seq K1001_38 (.seq K1001_37 (.seq K1001_36 (.seq K1001_35 (.seq K1001_34 (.seq K1001_33 (.seq (.seq K1001_32 (.block 0 (.loop L1001_31))) (.seq (.seq K1001_30 (.block 2 (.loop L1001_29))) K1001_1)))))))))))⟩
theorem c1001 : coF Try.prog Try.f3 = some C1001 := by kernel_rfl
def A1001 : Ann := { keep := [0, 1, 2, 3, 8, 9, 10, 11, 12, 13, 14, 15, 16, 17, 18, 19, 20, 21, 22, 23, 24, 26, 42, 53, 69, 80, 96, 113, 125, 128, 164, 179, 187, 201, 225, 226, 260], live := [(0, [3, 9, 10, 12, 13, 14, 15, 16]), (2, [3, 9, 10, 12, 13, 14, 15, 17])] }
def E1001 {Ω : Type} : Env Ω := econs 11 S60 (econs 12 S34c (econs 13 S23m (econs 14 S30m (econs 15 S61m (econs 16 S92c (econs 17 S33c (enil)))))))
theorem e1001 : GoodE Try.prog E1001 := GoodE.cons g60 (GoodE.cons g34c (GoodE.cons g23m (GoodE.cons g30m (GoodE.cons g61m (GoodE.cons g92c (GoodE.cons g33c (GoodE.nil)))))))
def Z1001_29 {Ω : Type} (it : Itr Ω) (K : SV → SH → Option Ω) : SE → SS → Option Ω := kblk 2 (kseq it E1001 A1001 K1001_1 0 (kfn C1001 K))
def Z1001_31 {Ω : Type} (it : Itr Ω) (K : SV → SH → Option Ω) : SE → SS → Option Ω := kblk 0 (kseq it E1001 A1001 (.seq (.seq K1001_30 (.block 2 (.loop L1001_29))) K1001_1) 0 (kfn C1001 K))
end Go.Sx.Pr

/- Rows of workers' states and of bools, as functions of their places. -/
namespace Go.Sx.Pr
open Go Go.Sx Go.Sx.Md
def rowW (a : Nat → Wk) : Nat → Nat → DV := fun i j => lkD ((encW (a i)).map dv) j
def wk0 : Wk := ⟨0, 0, 0, 0, 0, false, 0, 0, false, 0, [], 0, [], 0, [], 0, [], [], 0, 0, 0, 0, 0, 0, 0, 0, 0, 0, 0, [], 0, 0, false⟩
end Go.Sx.Pr
