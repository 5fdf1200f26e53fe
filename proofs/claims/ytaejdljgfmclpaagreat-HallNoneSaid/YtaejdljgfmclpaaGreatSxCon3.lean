/- Pieces of the code of functions, compiled for the symbolic interpreter, each checked against the program; no conditions. -/
import Derived.Test.YtaejdljgfmclpaaGreatR12c
import Derived.Test.YtaejdljgfmclpaaGreatRows
import Derived.KernelRfl
import Derived.Test.YtaejdljgfmclpaaGreatR6
import Derived.Test.YtaejdljgfmclpaaGreatR6
import Derived.Test.YtaejdljgfmclpaaGreatM4
set_option linter.all false
set_option linter.unusedVariables false
set_option linter.unusedSimpArgs false
set_option linter.unnecessarySimpa false
namespace Go.Sx.Pr
open Go Go.Sx Go.Proofs
set_option maxRecDepth 100000
/-- coatcheck/slab.Step$1 -/
def C93 : CF := ⟨3, [],
 .seq (.reg false [⟨some 4, .fa 0 (.t 1), none, 0⟩,
   ⟨none, .st 1 (.t 4) (.c (.d (.v (.int .i64 0)))), none, 0⟩,
   ⟨none, .st 1 (.t 2) (.c (.d (.v (.int .i64 2)))), none, 0⟩])
 (.seq (.reg false [⟨some 5, .mv (.t 0), none, 0⟩])
 (.cond 5 (.reg false [⟨none, .st 1 (.t 2) (.c (.d (.v (.int .i64 1)))), none, 0⟩])
   (.skip)))⟩
theorem c93 : coF Tryz.prog Tryz.f123 = some C93 := by kernel_rfl
def A93 : Ann := { keep := [0, 1, 2, 5], live := [] }
def E93 {Ω : Type} : Env Ω := enil
theorem e93 : GoodE Tryz.prog E93 := GoodE.nil
def S93 {Ω : Type} : Spec Ω := inl E93 A93 C93 false
theorem g93 : Good1 Tryz.prog 123 S93 := Good1.inl e93 mix Tryz.func123 (by kernel_rfl) c93 A93 false
/-- coatcheck/slab.draining -/
def C99 : CF := ⟨1, [(2, none)],
 .seq (.reg false [⟨some 2, .mv (.c (.d (.v (.bool false)))), none, 0⟩])
 (.seq (.reg false [⟨some 7, .mv (.t 0), none, 0⟩,
   ⟨some 8, .call (.c (.fn (.func 124) [] [])) [.t 7], none, 0⟩,
   ⟨some 6, .mv (.t 8), none, 0⟩,
   ⟨some 9, .ext 0 (.t 6), none, 0⟩,
   ⟨some 10, .ext 1 (.t 6), none, 0⟩,
   ⟨some 11, .ext 2 (.t 6), none, 0⟩,
   ⟨some 3, .mv (.t 9), none, 0⟩,
   ⟨some 4, .mv (.t 10), none, 0⟩,
   ⟨some 5, .mv (.t 11), none, 0⟩])
 (.seq (.reg false [⟨some 12, .mv (.t 3), none, 0⟩,
   ⟨some 13, .eq .int false (.t 12) (.c (.d (.v (.int .i64 2)))), none, 0⟩,
   ⟨some 2, .mv (.t 13), none, 0⟩])
 (.ret)))⟩
theorem c99 : coF Tryz.prog Tryz.f130 = some C99 := by kernel_rfl
def A99 : Ann := { keep := [0, 2, 3], live := [] }
def E99 {Ω : Type} : Env Ω := econs 124 S94c (enil)
theorem e99 : GoodE Tryz.prog E99 := GoodE.cons g94c (GoodE.nil)
def S99 {Ω : Type} : Spec Ω := inl E99 A99 C99 false
theorem g99 : Good1 Tryz.prog 130 S99 := Good1.inl e99 mix Tryz.func130 (by kernel_rfl) c99 A99 false
def K61_1 : CC := .seq (.reg true [⟨some 222, .ld 33 true (.t 3), none, 0⟩,
   ⟨some 223, .ld 1 false (.t 7), none, 0⟩,
   ⟨none, .st 33 (.t 4) (.t 222), none, 1⟩,
   ⟨some 5, .mv (.t 223), none, 7⟩,
   ⟨some 6, .mv (.c (.d (.v (.bool true)))), none, 15⟩])
 (.ret)
def K61_2 : CC := .seq (.seq (.reg false [⟨some 87, .mv (.t 10), none, 0⟩,
   ⟨some 88, .mv (.t 0), none, 0⟩,
   ⟨some 89, .nilc (.t 88), none, 0⟩,
   ⟨some 90, .fa 0 (.t 89), none, 0⟩,
   ⟨some 91, .fa 0 (.t 90), none, 0⟩,
   ⟨some 92, .fa 2 (.t 91), none, 0⟩,
   ⟨some 93, .ld 1 false (.t 92), none, 0⟩,
   ⟨some 94, .eq .int false (.t 87) (.t 93), none, 0⟩])
 (.cond 94 (.seq (.reg false [⟨some 95, .fa 0 (.t 3), none, 0⟩,
     ⟨none, .st 1 (.t 95) (.c (.d (.v (.int .i64 31)))), none, 0⟩])
   (.exit 0))
   (.skip)))
 (.seq (.reg false [⟨some 96, .fa 19 (.t 3), none, 0⟩,
   ⟨none, .st 1 (.t 96) (.c (.d (.v (.int .i64 0)))), none, 0⟩])
 (.reg false [⟨some 97, .mv (.t 8), none, 0⟩,
   ⟨some 98, .call (.t 97) [.c (.d (.v (.bool true)))], none, 0⟩]))
def K61_3 : CC := .reg true [⟨some 67, .mv (.t 0), none, 0⟩,
   ⟨some 68, .mv (.t 0), none, 0⟩,
   ⟨some 69, .nilc (.t 68), none, 2⟩,
   ⟨some 70, .fa 0 (.t 69), none, 6⟩,
   ⟨some 71, .ld 8 true (.t 70), none, 14⟩,
   ⟨some 72, .mv (.t 0), none, 0⟩,
   ⟨some 73, .nilc (.t 72), none, 32⟩,
   ⟨some 74, .fa 0 (.t 73), none, 96⟩,
   ⟨some 75, .ld 8 true (.t 74), none, 224⟩,
   ⟨some 76, .fa 19 (.t 3), none, 0⟩,
   ⟨some 77, .ld 1 false (.t 76), none, 512⟩,
   ⟨some 78, .bin .sub (.t 77) (.c (.d (.v (.int .i64 1)))), none, 1536⟩,
   ⟨some 79, .call (.c (.fn (.func 127) [] [])) [.t 75, .t 78], none, 4064⟩,
   ⟨some 80, .call (.c (.fn (.func 126) [] [])) [.t 71, .t 79], none, 8190⟩,
   ⟨some 81, .call (.c (.fn (.func 125) [] [])) [.t 67, .t 80, .c (.d (.v (.int .u64 16)))], none, 16383⟩,
   ⟨some 82, .bin .add (.t 81) (.c (.d (.v (.int .u64 16)))), none, 32767⟩,
   ⟨some 83, .call (.c (.fn (.func 124) [] [])) [.t 82], none, 65535⟩,
   ⟨some 66, .mv (.t 83), none, 131071⟩,
   ⟨some 84, .ext 0 (.t 66), none, 262143⟩,
   ⟨some 85, .ext 1 (.t 66), none, 262143⟩,
   ⟨some 86, .ext 2 (.t 66), none, 262143⟩,
   ⟨some 9, .mv (.t 84), none, 524287⟩,
   ⟨some 10, .mv (.t 85), none, 3145727⟩,
   ⟨some 11, .mv (.t 86), none, 8388607⟩]
def K61_4 : CC := .seq (.reg false [⟨some 101, .mv (.t 0), none, 0⟩,
   ⟨some 102, .call (.c (.fn (.func 80) [] [])) [.t 101, .c (.d (.v (.int .i64 0)))], none, 0⟩,
   ⟨some 103, .fa 25 (.t 3), none, 0⟩,
   ⟨none, .st 1 (.t 103) (.t 102), none, 0⟩])
 (.reg false [⟨some 104, .fa 0 (.t 3), none, 0⟩,
   ⟨none, .st 1 (.t 104) (.c (.d (.v (.int .i64 32)))), none, 0⟩])
def K61_5 : CC := .seq (.reg true [⟨some 107, .mv (.t 0), none, 0⟩,
   ⟨some 108, .mv (.t 0), none, 0⟩,
   ⟨some 109, .nilc (.t 108), none, 2⟩,
   ⟨some 110, .fa 0 (.t 109), none, 6⟩,
   ⟨some 111, .ld 8 true (.t 110), none, 14⟩,
   ⟨some 112, .mv (.t 0), none, 0⟩,
   ⟨some 113, .nilc (.t 112), none, 32⟩,
   ⟨some 114, .fa 0 (.t 113), none, 96⟩,
   ⟨some 115, .ld 8 true (.t 114), none, 224⟩,
   ⟨some 116, .fa 19 (.t 3), none, 0⟩,
   ⟨some 117, .ld 1 false (.t 116), none, 512⟩,
   ⟨some 118, .bin .sub (.t 117) (.c (.d (.v (.int .i64 1)))), none, 1536⟩,
   ⟨some 119, .call (.c (.fn (.func 127) [] [])) [.t 115, .t 118], none, 4064⟩,
   ⟨some 120, .call (.c (.fn (.func 126) [] [])) [.t 111, .t 119], none, 8190⟩,
   ⟨some 121, .fa 25 (.t 3), none, 0⟩,
   ⟨some 122, .ld 1 false (.t 121), none, 16384⟩,
   ⟨some 123, .call (.c (.fn (.func 128) [] [])) [.c (.d (.v (.int .i64 3))), .c (.d (.v (.int .i64 0))), .t 122], none, 65534⟩,
   ⟨some 124, .call (.c (.fn (.func 81) [] [])) [.t 107, .t 120, .t 123], none, 131071⟩])
 (.seq (.reg false [⟨some 125, .fa 19 (.t 3), none, 0⟩,
   ⟨none, .st 1 (.t 125) (.c (.d (.v (.int .i64 0)))), none, 0⟩])
 (.reg false [⟨some 126, .mv (.t 8), none, 0⟩,
   ⟨some 127, .call (.t 126) [.c (.d (.v (.bool true)))], none, 0⟩]))
def K61_6 : CC := .seq (.seq (.reg false [⟨some 140, .fa 25 (.t 3), none, 0⟩,
   ⟨some 141, .ld 1 false (.t 140), none, 0⟩,
   ⟨some 142, .fa 9 (.t 3), none, 0⟩,
   ⟨some 143, .ld 1 false (.t 142), none, 0⟩,
   ⟨some 144, .call (.c (.fn (.func 129) [] [])) [.t 141, .t 143], none, 0⟩])
 (.cond 144 (.seq (.reg false [⟨some 145, .fa 0 (.t 3), none, 0⟩,
     ⟨none, .st 1 (.t 145) (.c (.d (.v (.int .i64 34)))), none, 0⟩])
   (.exit 0))
   (.skip)))
 (.seq (.seq (.reg true [⟨some 146, .fa 28 (.t 3), none, 0⟩,
   ⟨some 147, .ld 1 false (.t 146), none, 1⟩,
   ⟨some 148, .mv (.t 0), none, 0⟩,
   ⟨some 149, .nilc (.t 148), none, 4⟩,
   ⟨some 150, .fa 0 (.t 149), none, 12⟩,
   ⟨some 151, .fa 0 (.t 150), none, 28⟩,
   ⟨some 152, .fa 1 (.t 151), none, 60⟩,
   ⟨some 153, .ld 1 false (.t 152), none, 124⟩,
   ⟨some 154, .bin .sub (.t 153) (.c (.d (.v (.int .i64 1)))), none, 252⟩,
   ⟨some 155, .bin .geq (.t 147) (.t 154), none, 511⟩])
 (.cond 155 (.reg false [⟨some 156, .mv (.t 8), none, 0⟩,
     ⟨some 157, .call (.t 156) [.c (.d (.v (.bool false)))], none, 0⟩])
   (.skip)))
 (.reg false [⟨some 158, .fa 28 (.t 3), none, 0⟩,
   ⟨some 159, .ld 1 false (.t 158), none, 0⟩,
   ⟨some 160, .bin .add (.t 159) (.c (.d (.v (.int .i64 1)))), none, 0⟩,
   ⟨some 161, .fa 28 (.t 3), none, 0⟩,
   ⟨none, .st 1 (.t 161) (.t 160), none, 0⟩]))
def K61_7 : CC := .reg true [⟨some 130, .mv (.t 0), none, 0⟩,
   ⟨some 131, .mv (.t 0), none, 0⟩,
   ⟨some 132, .nilc (.t 131), none, 2⟩,
   ⟨some 133, .fa 0 (.t 132), none, 6⟩,
   ⟨some 134, .ld 8 true (.t 133), none, 14⟩,
   ⟨some 135, .fa 28 (.t 3), none, 0⟩,
   ⟨some 136, .ld 1 false (.t 135), none, 32⟩,
   ⟨some 137, .call (.c (.fn (.func 126) [] [])) [.t 134, .t 136], none, 126⟩,
   ⟨some 138, .call (.c (.fn (.func 80) [] [])) [.t 130, .t 137], none, 255⟩,
   ⟨some 139, .fa 25 (.t 3), none, 511⟩,
   ⟨none, .st 1 (.t 139) (.t 138), none, 1023⟩]
def K61_8 : CC := .seq (.reg true [⟨some 164, .mv (.t 0), none, 0⟩,
   ⟨some 165, .mv (.t 0), none, 0⟩,
   ⟨some 166, .nilc (.t 165), none, 2⟩,
   ⟨some 167, .fa 0 (.t 166), none, 6⟩,
   ⟨some 168, .ld 8 true (.t 167), none, 14⟩,
   ⟨some 169, .fa 28 (.t 3), none, 0⟩,
   ⟨some 170, .ld 1 false (.t 169), none, 32⟩,
   ⟨some 171, .call (.c (.fn (.func 126) [] [])) [.t 168, .t 170], none, 126⟩,
   ⟨some 172, .fa 25 (.t 3), none, 0⟩,
   ⟨some 173, .ld 1 false (.t 172), none, 256⟩,
   ⟨some 174, .call (.c (.fn (.func 128) [] [])) [.c (.d (.v (.int .i64 1))), .c (.d (.v (.int .i64 0))), .c (.d (.v (.int .u64 0)))], none, 254⟩,
   ⟨some 175, .call (.c (.fn (.func 120) [] [])) [.t 164, .t 171, .t 173, .t 174], none, 2047⟩])
 (.cond 175 (.reg false [⟨some 176, .mv (.t 8), none, 0⟩,
     ⟨some 177, .call (.t 176) [.c (.d (.v (.bool true)))], none, 0⟩])
   (.reg false [⟨some 178, .fa 0 (.t 3), none, 0⟩,
     ⟨none, .st 1 (.t 178) (.c (.d (.v (.int .i64 33)))), none, 0⟩]))
def K61_9 : CC := .seq (.reg false [⟨some 193, .fa 25 (.t 3), none, 0⟩,
   ⟨some 194, .ld 1 false (.t 193), none, 0⟩,
   ⟨some 195, .call (.c (.fn (.func 124) [] [])) [.t 194], none, 0⟩,
   ⟨some 192, .mv (.t 195), none, 0⟩,
   ⟨some 196, .ext 0 (.t 192), none, 0⟩,
   ⟨some 197, .ext 1 (.t 192), none, 0⟩,
   ⟨some 198, .ext 2 (.t 192), none, 0⟩,
   ⟨some 12, .mv (.t 196), none, 0⟩,
   ⟨some 13, .mv (.t 197), none, 0⟩,
   ⟨some 14, .mv (.t 198), none, 0⟩])
 (.seq (.reg false [⟨some 199, .mv (.t 12), none, 0⟩,
   ⟨some 200, .eq .int true (.t 199) (.c (.d (.v (.int .i64 1)))), none, 0⟩])
 (.cond 200 (.reg false [⟨some 201, .mv (.t 8), none, 0⟩,
     ⟨some 202, .call (.t 201) [.c (.d (.v (.bool false)))], none, 0⟩])
   (.reg false [⟨some 203, .fa 0 (.t 3), none, 0⟩,
     ⟨none, .st 1 (.t 203) (.c (.d (.v (.int .i64 37)))), none, 0⟩])))
def K61_10 : CC := .reg true [⟨some 181, .mv (.t 0), none, 0⟩,
   ⟨some 182, .mv (.t 0), none, 0⟩,
   ⟨some 183, .nilc (.t 182), none, 2⟩,
   ⟨some 184, .fa 0 (.t 183), none, 6⟩,
   ⟨some 185, .ld 8 true (.t 184), none, 14⟩,
   ⟨some 186, .fa 1 (.t 3), none, 0⟩,
   ⟨some 187, .fa 3 (.t 186), none, 32⟩,
   ⟨some 188, .ld 1 false (.t 187), none, 96⟩,
   ⟨some 189, .call (.c (.fn (.func 126) [] [])) [.t 185, .t 188], none, 254⟩,
   ⟨some 190, .call (.c (.fn (.func 80) [] [])) [.t 181, .t 189], none, 511⟩,
   ⟨some 191, .fa 25 (.t 3), none, 1023⟩,
   ⟨none, .st 1 (.t 191) (.t 190), none, 2047⟩]
def K61_11 : CC := .seq (.reg true [⟨some 206, .mv (.t 0), none, 0⟩,
   ⟨some 207, .mv (.t 0), none, 0⟩,
   ⟨some 208, .nilc (.t 207), none, 2⟩,
   ⟨some 209, .fa 0 (.t 208), none, 6⟩,
   ⟨some 210, .ld 8 true (.t 209), none, 14⟩,
   ⟨some 211, .fa 1 (.t 3), none, 0⟩,
   ⟨some 212, .fa 3 (.t 211), none, 32⟩,
   ⟨some 213, .ld 1 false (.t 212), none, 96⟩,
   ⟨some 214, .call (.c (.fn (.func 126) [] [])) [.t 210, .t 213], none, 254⟩,
   ⟨some 215, .fa 25 (.t 3), none, 0⟩,
   ⟨some 216, .ld 1 false (.t 215), none, 512⟩,
   ⟨some 217, .call (.c (.fn (.func 128) [] [])) [.c (.d (.v (.int .i64 2))), .c (.d (.v (.int .i64 0))), .c (.d (.v (.int .u64 0)))], none, 510⟩,
   ⟨some 218, .call (.c (.fn (.func 120) [] [])) [.t 206, .t 214, .t 216, .t 217], none, 4095⟩])
 (.cond 218 (.reg false [⟨some 219, .mv (.t 8), none, 0⟩,
     ⟨some 220, .call (.t 219) [.c (.d (.v (.bool true)))], none, 0⟩])
   (.reg false [⟨some 221, .fa 0 (.t 3), none, 0⟩,
     ⟨none, .st 1 (.t 221) (.c (.d (.v (.int .i64 36)))), none, 0⟩]))
def K61_12 : CC := .seq (.seq (.reg false [⟨some 41, .fa 0 (.t 3), none, 0⟩,
   ⟨some 42, .ld 1 false (.t 41), none, 0⟩,
   ⟨some 43, .eq .int false (.t 42) (.c (.d (.v (.int .i64 35)))), none, 0⟩])
 (.cond 43 (.reg false [⟨some 44, .fa 18 (.t 3), none, 0⟩,
     ⟨some 45, .ld 1 false (.t 44), none, 0⟩,
     ⟨some 15, .mv (.t 45), none, 0⟩])
   (.skip)))
 (.reg true [⟨some 46, .mv (.t 8), none, 0⟩,
   ⟨some 47, .mv (.t 0), none, 0⟩,
   ⟨some 48, .mv (.t 0), none, 0⟩,
   ⟨some 49, .nilc (.t 48), none, 4⟩,
   ⟨some 50, .fa 0 (.t 49), none, 12⟩,
   ⟨some 51, .ld 8 true (.t 50), none, 28⟩,
   ⟨some 52, .mv (.t 0), none, 0⟩,
   ⟨some 53, .nilc (.t 52), none, 64⟩,
   ⟨some 54, .fa 0 (.t 53), none, 192⟩,
   ⟨some 55, .ld 8 true (.t 54), none, 448⟩,
   ⟨some 56, .mv (.t 15), none, 0⟩,
   ⟨some 57, .bin .sub (.t 56) (.c (.d (.v (.int .i64 1)))), none, 1024⟩,
   ⟨some 58, .call (.c (.fn (.func 127) [] [])) [.t 55, .t 57], none, 4032⟩,
   ⟨some 59, .call (.c (.fn (.func 126) [] [])) [.t 51, .t 58], none, 8188⟩,
   ⟨some 60, .call (.c (.fn (.func 80) [] [])) [.t 47, .t 59], none, 16382⟩,
   ⟨some 61, .call (.c (.fn (.func 130) [] [])) [.t 60], none, 32766⟩,
   ⟨some 62, .un .not (.t 61), none, 65534⟩,
   ⟨some 63, .call (.t 46) [.t 62], none, 131071⟩])
def K61_13 : CC := .reg false [⟨some 39, .fa 19 (.t 3), none, 0⟩,
   ⟨some 40, .ld 1 false (.t 39), none, 0⟩,
   ⟨some 15, .mv (.t 40), none, 0⟩]
def K61_14 : CC := .reg false [⟨some 205, .eq .int false (.t 38) (.c (.d (.v (.int .i64 37)))), none, 0⟩,
   ⟨some 204, .mv (.t 205), none, 0⟩]
def K61_15 : CC := .reg false [⟨some 180, .eq .int false (.t 38) (.c (.d (.v (.int .i64 36)))), none, 0⟩,
   ⟨some 179, .mv (.t 180), none, 0⟩]
def K61_16 : CC := .reg false [⟨some 163, .eq .int false (.t 38) (.c (.d (.v (.int .i64 34)))), none, 0⟩,
   ⟨some 162, .mv (.t 163), none, 0⟩]
def K61_17 : CC := .reg false [⟨some 129, .eq .int false (.t 38) (.c (.d (.v (.int .i64 33)))), none, 0⟩,
   ⟨some 128, .mv (.t 129), none, 0⟩]
def K61_18 : CC := .reg false [⟨some 106, .eq .int false (.t 38) (.c (.d (.v (.int .i64 32)))), none, 0⟩,
   ⟨some 105, .mv (.t 106), none, 0⟩]
def K61_19 : CC := .reg false [⟨some 100, .eq .int false (.t 38) (.c (.d (.v (.int .i64 31)))), none, 0⟩,
   ⟨some 99, .mv (.t 100), none, 0⟩]
def K61_20 : CC := .reg false [⟨some 65, .eq .int false (.t 38) (.c (.d (.v (.int .i64 30)))), none, 0⟩,
   ⟨some 64, .mv (.t 65), none, 0⟩]
def K61_21 : CC := .reg false [⟨some 37, .fa 0 (.t 3), none, 0⟩,
   ⟨some 38, .ld 1 false (.t 37), none, 0⟩]
def K61_22 : CC := .reg false [⟨some 36, .mkf (.func 123) [] [.t 3, .t 7], none, 0⟩,
   ⟨some 8, .mv (.t 36), none, 0⟩]
def K61_23 : CC := .reg false [⟨some 7, .newc 3 [.d (.v (.int .i64 0))], none, 0⟩,
   ⟨none, .st 1 (.t 7) (.c (.d (.v (.int .i64 0)))), none, 0⟩]
def K61_24 : CC := .reg false [⟨some 34, .mv (.t 0), none, 0⟩,
   ⟨some 35, .call (.c (.fn (.func 77) [] [])) [.t 34], none, 0⟩]
def K61_25 : CC := .seq (.reg false [⟨some 16, .mv (.t 0), none, 0⟩,
   ⟨some 17, .eq .ptr false (.t 16) (.c (.d (.v (.pointer none)))), none, 0⟩,
   ⟨some 18, .mv (.t 17), none, 0⟩,
   ⟨some 19, .fa 0 (.t 3), some (18, false), 0⟩,
   ⟨some 20, .ld 1 false (.t 19), some (18, false), 0⟩,
   ⟨some 21, .bin .lss (.t 20) (.c (.d (.v (.int .i64 30)))), some (18, false), 0⟩,
   ⟨some 22, .pick (.t 18) (.c (.d (.v (.bool true)))) (.t 21), none, 0⟩,
   ⟨some 23, .mv (.t 22), none, 0⟩,
   ⟨some 24, .fa 0 (.t 3), some (23, false), 0⟩,
   ⟨some 25, .ld 1 false (.t 24), some (23, false), 0⟩,
   ⟨some 26, .bin .gtr (.t 25) (.c (.d (.v (.int .i64 39)))), some (23, false), 0⟩,
   ⟨some 27, .pick (.t 23) (.c (.d (.v (.bool true)))) (.t 26), none, 0⟩,
   ⟨some 28, .mv (.t 27), none, 0⟩,
   ⟨some 29, .fa 0 (.t 3), some (28, false), 0⟩,
   ⟨some 30, .ld 1 false (.t 29), some (28, false), 0⟩,
   ⟨some 31, .eq .int false (.t 30) (.c (.d (.v (.int .i64 38)))), some (28, false), 0⟩,
   ⟨some 32, .pick (.t 28) (.c (.d (.v (.bool true)))) (.t 31), none, 0⟩])
 (.cond 32 (.seq (.reg false [⟨some 33, .ld 33 true (.t 3), none, 0⟩,
     ⟨none, .st 33 (.t 4) (.t 33), none, 0⟩,
     ⟨some 5, .mv (.c (.d (.v (.int .i64 0)))), none, 0⟩,
     ⟨some 6, .mv (.c (.d (.v (.bool false)))), none, 0⟩])
   (.ret))
   (.skip))
def K61_26 : CC := .reg false [⟨some 3, .box 56 33 (.t 1), none, 0⟩,
   ⟨some 4, .newc 56 [.d (.v (.int .i64 0)), .d (.v (.int .i64 0)), .d (.v (.int .u64 0)), .d (.v (.int .u64 0)), .d (.v (.int .i64 0)), .d (.v (.bool false)), .d (.v (.int .i64 0)), .d (.v (.int .i64 0)), .d (.v (.bool false)), .d (.v (.int .u64 0)), .d (.v (.slice none 0 0)), .d (.v (.int .u64 0)), .d (.v (.slice none 0 0)), .d (.v (.int .u64 0)), .d (.v (.slice none 0 0)), .d (.v (.int .u64 0)), .d (.v (.slice none 0 0)), .d (.v (.slice none 0 0)), .d (.v (.int .i64 0)), .d (.v (.int .i64 0)), .d (.v (.int .i64 0)), .d (.v (.int .i64 0)), .d (.v (.int .i64 0)), .d (.v (.int .u64 0)), .d (.v (.int .u64 0)), .d (.v (.int .u64 0)), .d (.v (.int .u64 0)), .d (.v (.int .u64 0)), .d (.v (.int .i64 0)), .d (.v (.slice none 0 0)), .d (.v (.int .u64 0)), .d (.v (.int .i64 0)), .d (.v (.bool false))], none, 0⟩,
   ⟨some 5, .mv (.c (.d (.v (.int .i64 0)))), none, 0⟩,
   ⟨some 6, .mv (.c (.d (.v (.bool false)))), none, 0⟩]
/-- coatcheck/slab.Step -/
def C61 : CF := ⟨2, [(4, some (33, true)), (5, none), (6, none)],
 .seq K61_26 (.seq K61_25 (.seq K61_24 (.seq K61_23 (.seq K61_22 (.seq (.seq K61_21 (.block 0 (.seq K61_20 (.cond 64 (.seq K61_3 K61_2) (.seq K61_19 (.cond 99 K61_4 (.seq K61_18 (.cond 105 K61_5 (.seq K61_17 (.cond 128 (.seq K61_7 K61_6) (.seq K61_16 (.cond 162 K61_8 (.seq K61_15 (.cond 179 (.seq K61_10 K61_9) (.seq K61_14 (.cond 204 K61_11 (.seq K61_13 K61_12))))))))))))))))) K61_1)))))⟩
theorem c61 : coF Tryz.prog Tryz.f90 = some C61 := by kernel_rfl
def A61 : Ann := { keep := [0, 1, 3, 4, 5, 6, 7, 8, 10, 12, 15, 32, 38, 43, 64, 94, 99, 105, 128, 144, 155, 162, 175, 179, 200, 204, 218], live := [] }
def E61 {Ω : Type} : Env Ω := econs 81 S23m (econs 129 S98c (econs 77 S29m (econs 80 S21m (econs 120 S25m (econs 123 S93 (econs 124 S94c (econs 125 S27m (econs 126 S95 (econs 127 S96c (econs 128 S97c (econs 130 S99 (enil))))))))))))
theorem e61 : GoodE Tryz.prog E61 := GoodE.cons g23m (GoodE.cons g98c (GoodE.cons g29m (GoodE.cons g21m (GoodE.cons g25m (GoodE.cons g93 (GoodE.cons g94c (GoodE.cons g27m (GoodE.cons g95 (GoodE.cons g96c (GoodE.cons g97c (GoodE.cons g99 (GoodE.nil))))))))))))
end Go.Sx.Pr

/- The steps of three layers, run as they stand. -/
namespace Go.Sx.Pr
open Go Go.Sx Go.Proofs
set_option maxRecDepth 100000
def S45i {Ω : Type} : Spec Ω := inl E45 A45 C45 false
theorem g45i : Good1 Tryz.prog 133 S45i := Good1.inl e45 mix Tryz.func133 (by kernel_rfl) c45 A45 false
def S61i {Ω : Type} : Spec Ω := inl E61 A61 C61 false
theorem g61i : Good1 Tryz.prog 90 S61i := Good1.inl e61 mix Tryz.func90 (by kernel_rfl) c61 A61 false
def S54i {Ω : Type} : Spec Ω := inl E54 A54 C54 false
theorem g54i : Good1 Tryz.prog 85 S54i := Good1.inl e54 mix Tryz.func85 (by kernel_rfl) c54 A54 false
end Go.Sx.Pr

/- The steps of one layer, program and document, against the pure model. -/
namespace Go.Sx.Pr
open Go Go.Sx Go.Sx.Md Go.Proofs
set_option maxRecDepth 100000
end Go.Sx.Pr

namespace Go.Sx.Pr
open Go Go.Sx Go.Proofs
set_option maxRecDepth 100000
/-- coatcheck/pack.Unentry -/
def C1054 : CF := ⟨1, [(2, none), (3, none), (4, none)],
 .seq (.reg false [⟨some 2, .mv (.c (.d (.v (.int .u64 0)))), none, 0⟩,
   ⟨some 3, .mv (.c (.d (.v (.int .i64 0)))), none, 0⟩,
   ⟨some 4, .mv (.c (.d (.v (.int .i64 0)))), none, 0⟩])
 (.seq (.reg false [⟨some 5, .mv (.t 0), none, 0⟩,
   ⟨some 6, .bin .shr (.t 5) (.c (.d (.v (.int .u64 20)))), none, 0⟩,
   ⟨some 7, .mv (.t 0), none, 0⟩,
   ⟨some 8, .bin .shr (.t 7) (.c (.d (.v (.int .u64 4)))), none, 0⟩,
   ⟨some 9, .conv .u16 (.t 8), none, 0⟩,
   ⟨some 10, .conv .i64 (.t 9), none, 0⟩,
   ⟨some 11, .bin .sub (.t 10) (.c (.d (.v (.int .i64 1)))), none, 0⟩,
   ⟨some 12, .mv (.t 0), none, 0⟩,
   ⟨some 13, .conv .u8 (.t 12), none, 0⟩,
   ⟨some 14, .bin .shl (.t 13) (.c (.d (.v (.int .u64 4)))), none, 0⟩,
   ⟨some 15, .bin .shr (.t 14) (.c (.d (.v (.int .u64 4)))), none, 0⟩,
   ⟨some 16, .conv .i64 (.t 15), none, 0⟩,
   ⟨some 2, .mv (.t 6), none, 0⟩,
   ⟨some 3, .mv (.t 11), none, 0⟩,
   ⟨some 4, .mv (.t 16), none, 0⟩])
 (.ret))⟩
theorem c1054 : coF Tryz.prog Tryz.f141 = some C1054 := by kernel_rfl
def A1054 : Ann := { keep := [0, 2, 3, 4], live := [] }
def E1054 {Ω : Type} : Env Ω := enil
theorem e1054 : GoodE Tryz.prog E1054 := GoodE.nil
/-- coatcheck/pack.Ticket -/
def C1070 : CF := ⟨2, [(4, none)],
 .seq (.reg false [⟨some 4, .mv (.c (.d (.v (.int .u64 0)))), none, 0⟩])
 (.seq (.reg false [⟨some 5, .mv (.t 1), none, 0⟩,
   ⟨some 6, .bin .shl (.t 5) (.c (.d (.v (.int .u64 16)))), none, 0⟩,
   ⟨some 7, .mv (.t 0), none, 0⟩,
   ⟨some 8, .bin .add (.t 7) (.c (.d (.v (.int .i64 1)))), none, 0⟩,
   ⟨some 9, .conv .u16 (.t 8), none, 0⟩,
   ⟨some 10, .conv .u64 (.t 9), none, 0⟩,
   ⟨some 11, .bin .or (.t 6) (.t 10), none, 0⟩,
   ⟨some 4, .mv (.t 11), none, 0⟩])
 (.ret))⟩
theorem c1070 : coF Tryz.prog Tryz.f142 = some C1070 := by kernel_rfl
def A1070 : Ann := { keep := [0, 1, 4], live := [] }
def E1070 {Ω : Type} : Env Ω := enil
theorem e1070 : GoodE Tryz.prog E1070 := GoodE.nil
/-- coatcheck/pack.Unticket -/
def C1068 : CF := ⟨1, [(2, none), (3, none)],
 .seq (.reg false [⟨some 2, .mv (.c (.d (.v (.int .i64 0)))), none, 0⟩,
   ⟨some 3, .mv (.c (.d (.v (.int .u64 0)))), none, 0⟩])
 (.seq (.reg false [⟨some 4, .mv (.t 0), none, 0⟩,
   ⟨some 5, .conv .u16 (.t 4), none, 0⟩,
   ⟨some 6, .conv .i64 (.t 5), none, 0⟩,
   ⟨some 7, .bin .sub (.t 6) (.c (.d (.v (.int .i64 1)))), none, 0⟩,
   ⟨some 8, .mv (.t 0), none, 0⟩,
   ⟨some 9, .bin .shr (.t 8) (.c (.d (.v (.int .u64 16)))), none, 0⟩,
   ⟨some 2, .mv (.t 7), none, 0⟩,
   ⟨some 3, .mv (.t 9), none, 0⟩])
 (.ret))⟩
theorem c1068 : coF Tryz.prog Tryz.f108 = some C1068 := by kernel_rfl
def A1068 : Ann := { keep := [0, 2, 3], live := [] }
def E1068 {Ω : Type} : Env Ω := enil
theorem e1068 : GoodE Tryz.prog E1068 := GoodE.nil
end Go.Sx.Pr

/- Packing of entries and tickets: what both layers' functions answer. -/
namespace Go.Sx.Pr
open Go Go.Sx Go.Proofs
set_option maxRecDepth 100000
theorem n1054 {Ω : Type} (K : SV → SH → Option Ω) (w : Int) :
    sxFn E1054 A1054 C1054 [U w] [] K =
    K (.tup [U (shr .u64 w 20), I (IntKind.wrap .i64 (IntKind.wrap .i64 (IntKind.wrap .u16 (shr .u64 w 4)) - 1)), I (IntKind.wrap .i64 (shr .u8 (shl .u8 (IntKind.wrap .u8 w) 4) 4))]) [] := by kernel_rfl
theorem n1070 {Ω : Type} (K : SV → SH → Option Ω) (e g : Int) :
    sxFn E1070 A1070 C1070 [I e, U g] [] K =
    K (U (bor .u64 (shl .u64 g 16) (IntKind.wrap .u64 (IntKind.wrap .u16 (IntKind.wrap .i64 (e + 1)))))) [] := by kernel_rfl
theorem n1068 {Ω : Type} (K : SV → SH → Option Ω) (w : Int) :
    sxFn E1068 A1068 C1068 [U w] [] K =
    K (.tup [I (IntKind.wrap .i64 (IntKind.wrap .i64 (IntKind.wrap .u16 w) - 1)), U (shr .u64 w 16)]) [] := by kernel_rfl
theorem v1054 {w : Int} (hw : 0 ≤ w ∧ w ≤ 18446744073709551615) : sxFn E1054 A1054 C1054 [U w] [] KS = some (.tup [U (w / 1048576), I (w / 16 % 65536 - 1), I (w % 16)], []) := by
  rw [n1054]
  rw [sh20]
  rw [sh4]
  rw [low4]
  rw [show IntKind.wrap .i64 (IntKind.wrap .i64 (IntKind.wrap .u16 (w / 16)) - 1) = w / 16 % 65536 - 1 by simp only [IntKind.wrap_u64, IntKind.wrap_i64, IntKind.wrap_u32, IntKind.wrap_u16, pHead, pEntry, pAnn, pSlab, pTicket, cond_true, cond_false]; omega]
  rw [show IntKind.wrap .i64 (w % 16) = w % 16 by simp only [IntKind.wrap_u64, IntKind.wrap_i64, IntKind.wrap_u32, IntKind.wrap_u16, pHead, pEntry, pAnn, pSlab, pTicket, cond_true, cond_false]; omega]
def FP1054 : List (List Int) → Option (Bool × SV × SH)
  | [[w]] => some (uB w, .tup [U (w / 1048576), I (w / 16 % 65536 - 1), I (w % 16)], [])
  | _ => none
def S1054c {Ω : Type} : Spec Ω := conSpec [.i .u64] FP1054
theorem g1054c : Good1 Tryz.prog 141 S1054c := conGood Tryz.func141 (by kernel_rfl) c1054 e1054 mix (A := A1054) fun L r hr hl hF => by
  obtain ⟨q0, l0, rfl, z0, hl1⟩ := lenAs_cons hl
  obtain ⟨w, rfl⟩ := one_of' z0
  have hz := lenAs_nil hl1
  subst hz
  simp only [FP1054, Option.some.injEq, Prod.mk.injEq, Bool.and_eq_true, uB_iff] at hF
  obtain ⟨hu, rfl, rfl⟩ := hF
  exact ⟨⟨trivial, trivial, trivial, trivial⟩, trivial, _, trim_none rfl _, v1054 hu⟩
theorem v1070 {e g : Int} (hg : 0 ≤ g ∧ g ≤ 18446744073709551615) : sxFn E1070 A1070 C1070 [I e, U g] [] KS = some (U (pTicket e g), []) := by
  rw [n1070]
  rw [bTicket]
def FP1070 : List (List Int) → Option (Bool × SV × SH)
  | [[e], [g]] => some (uB g, U (pTicket e g), [])
  | _ => none
def S1070c {Ω : Type} : Spec Ω := conSpec [.i .i64, .i .u64] FP1070
theorem g1070c : Good1 Tryz.prog 142 S1070c := conGood Tryz.func142 (by kernel_rfl) c1070 e1070 mix (A := A1070) fun L r hr hl hF => by
  obtain ⟨q0, l0, rfl, z0, hl1⟩ := lenAs_cons hl
  obtain ⟨e, rfl⟩ := one_of' z0
  obtain ⟨q1, l1, rfl, z1, hl2⟩ := lenAs_cons hl1
  obtain ⟨g, rfl⟩ := one_of' z1
  have hz := lenAs_nil hl2
  subst hz
  simp only [FP1070, Option.some.injEq, Prod.mk.injEq, Bool.and_eq_true, uB_iff] at hF
  obtain ⟨hu, rfl, rfl⟩ := hF
  exact ⟨trivial, trivial, _, trim_none rfl _, v1070 hu⟩
theorem v1068 {w : Int} (hw : 0 ≤ w ∧ w ≤ 18446744073709551615) : sxFn E1068 A1068 C1068 [U w] [] KS = some (.tup [I (w % 65536 - 1), U (w / 65536)], []) := by
  rw [n1068]
  rw [sh16]
  rw [show IntKind.wrap .i64 (IntKind.wrap .i64 (IntKind.wrap .u16 w) - 1) = w % 65536 - 1 by simp only [IntKind.wrap_u64, IntKind.wrap_i64, IntKind.wrap_u32, IntKind.wrap_u16, pHead, pEntry, pAnn, pSlab, pTicket, cond_true, cond_false]; omega]
def FP1068 : List (List Int) → Option (Bool × SV × SH)
  | [[w]] => some (uB w, .tup [I (w % 65536 - 1), U (w / 65536)], [])
  | _ => none
def S1068c {Ω : Type} : Spec Ω := conSpec [.i .u64] FP1068
theorem g1068c : Good1 Tryz.prog 108 S1068c := conGood Tryz.func108 (by kernel_rfl) c1068 e1068 mix (A := A1068) fun L r hr hl hF => by
  obtain ⟨q0, l0, rfl, z0, hl1⟩ := lenAs_cons hl
  obtain ⟨w, rfl⟩ := one_of' z0
  have hz := lenAs_nil hl1
  subst hz
  simp only [FP1068, Option.some.injEq, Prod.mk.injEq, Bool.and_eq_true, uB_iff] at hF
  obtain ⟨hu, rfl, rfl⟩ := hF
  exact ⟨⟨trivial, trivial, trivial⟩, trivial, _, trim_none rfl _, v1068 hu⟩
end Go.Sx.Pr

namespace Go.Sx.Pr
open Go Go.Sx Go.Proofs
set_option maxRecDepth 100000
def K1067_1 : CC := .seq (.block 0 (.seq (.reg false [⟨some 21, .mv (.t 8), none, 0⟩,
     ⟨some 22, .eq .int false (.t 21) (.c (.d (.v (.int .i64 1)))), none, 0⟩,
     ⟨some 23, .mv (.t 22), none, 0⟩,
     ⟨some 24, .mv (.t 7), some (23, true), 0⟩,
     ⟨some 25, .pick (.t 23) (.t 24) (.c (.d (.v (.bool false)))), none, 0⟩,
     ⟨some 20, .mv (.t 25), none, 0⟩])
   (.cond 20 (.reg false [⟨some 26, .fa 20 (.t 3), none, 0⟩,
       ⟨none, .st 1 (.t 26) (.c (.d (.v (.int .i64 0)))), none, 0⟩])
     (.seq (.reg false [⟨some 28, .mv (.t 8), none, 0⟩,
       ⟨some 29, .eq .int false (.t 28) (.c (.d (.v (.int .i64 1)))), none, 0⟩,
       ⟨some 27, .mv (.t 29), none, 0⟩])
     (.cond 27 (.seq (.reg false [⟨some 30, .fa 23 (.t 3), none, 0⟩,
         ⟨some 31, .ld 1 false (.t 30), none, 0⟩,
         ⟨some 32, .conv .i64 (.t 31), none, 0⟩,
         ⟨some 33, .fa 20 (.t 3), none, 0⟩,
         ⟨none, .st 1 (.t 33) (.t 32), none, 0⟩,
         ⟨some 34, .fa 0 (.t 3), none, 0⟩,
         ⟨none, .st 1 (.t 34) (.c (.d (.v (.int .i64 40)))), none, 0⟩])
       (.reg false [⟨some 8, .mv (.c (.d (.v (.int .i64 0)))), none, 0⟩]))
       (.skip))))))
 (.seq (.reg false [⟨some 35, .ld 33 true (.t 3), none, 0⟩,
   ⟨some 36, .mv (.t 8), none, 0⟩,
   ⟨none, .st 33 (.t 4) (.t 35), none, 0⟩,
   ⟨some 5, .mv (.t 36), none, 0⟩,
   ⟨some 6, .mv (.c (.d (.v (.bool true)))), none, 0⟩])
 (.ret))
def K1067_2 : CC := .reg false [⟨some 14, .mv (.t 0), none, 0⟩,
   ⟨some 15, .ld 33 true (.t 3), none, 0⟩,
   ⟨some 16, .call (.c (.fn (.func 133) [] [])) [.t 14, .t 15], none, 0⟩,
   ⟨some 13, .mv (.t 16), none, 0⟩,
   ⟨some 17, .ext 0 (.t 13), none, 0⟩,
   ⟨some 18, .ext 1 (.t 13), none, 0⟩,
   ⟨some 19, .ext 2 (.t 13), none, 0⟩,
   ⟨none, .st 33 (.t 3) (.t 17), none, 0⟩,
   ⟨some 8, .mv (.t 18), none, 0⟩,
   ⟨some 9, .mv (.t 19), none, 0⟩]
def K1067_3 : CC := .reg false [⟨some 10, .fa 0 (.t 3), none, 0⟩,
   ⟨some 11, .ld 1 false (.t 10), none, 0⟩,
   ⟨some 12, .bin .gtr (.t 11) (.c (.d (.v (.int .i64 22)))), none, 0⟩,
   ⟨some 7, .mv (.t 12), none, 0⟩]
def K1067_4 : CC := .reg false [⟨some 3, .box 56 33 (.t 1), none, 0⟩,
   ⟨some 4, .newc 56 [.d (.v (.int .i64 0)), .d (.v (.int .i64 0)), .d (.v (.int .u64 0)), .d (.v (.int .u64 0)), .d (.v (.int .i64 0)), .d (.v (.bool false)), .d (.v (.int .i64 0)), .d (.v (.int .i64 0)), .d (.v (.bool false)), .d (.v (.int .u64 0)), .d (.v (.slice none 0 0)), .d (.v (.int .u64 0)), .d (.v (.slice none 0 0)), .d (.v (.int .u64 0)), .d (.v (.slice none 0 0)), .d (.v (.int .u64 0)), .d (.v (.slice none 0 0)), .d (.v (.slice none 0 0)), .d (.v (.int .i64 0)), .d (.v (.int .i64 0)), .d (.v (.int .i64 0)), .d (.v (.int .i64 0)), .d (.v (.int .i64 0)), .d (.v (.int .u64 0)), .d (.v (.int .u64 0)), .d (.v (.int .u64 0)), .d (.v (.int .u64 0)), .d (.v (.int .u64 0)), .d (.v (.int .i64 0)), .d (.v (.slice none 0 0)), .d (.v (.int .u64 0)), .d (.v (.int .i64 0)), .d (.v (.bool false))], none, 0⟩,
   ⟨some 5, .mv (.c (.d (.v (.int .i64 0)))), none, 0⟩,
   ⟨some 6, .mv (.c (.d (.v (.bool false)))), none, 0⟩]
/-- coatcheck/entry.pushpop -/
def C1067 : CF := ⟨2, [(4, some (33, true)), (5, none), (6, none)],
 .seq K1067_4 (.seq K1067_3 (.seq K1067_2 K1067_1))⟩
theorem c1067 : coF Tryz.prog Tryz.f139 = some C1067 := by kernel_rfl
def A1067 : Ann := { keep := [0, 1, 3, 4, 5, 6, 7, 8, 20, 27], live := [] }
def E1067 {Ω : Type} : Env Ω := econs 133 S45i (enil)
theorem e1067 : GoodE Tryz.prog E1067 := GoodE.cons g45i (GoodE.nil)
def S1067 {Ω : Type} : Spec Ω := inl E1067 A1067 C1067 false
theorem g1067 : Good1 Tryz.prog 139 S1067 := Good1.inl e1067 mix Tryz.func139 (by kernel_rfl) c1067 A1067 false
/-- coatcheck/entry.Step$1 -/
def C1069 : CF := ⟨3, [],
 .reg false [⟨some 4, .mv (.t 0), none, 0⟩,
   ⟨some 5, .fa 0 (.t 1), none, 0⟩,
   ⟨none, .st 1 (.t 5) (.c (.d (.v (.int .i64 0)))), none, 0⟩,
   ⟨none, .st 1 (.t 2) (.t 4), none, 0⟩]⟩
theorem c1069 : coF Tryz.prog Tryz.f140 = some C1069 := by kernel_rfl
def A1069 : Ann := { keep := [0, 1, 2], live := [] }
def E1069 {Ω : Type} : Env Ω := enil
theorem e1069 : GoodE Tryz.prog E1069 := GoodE.nil
def S1069 {Ω : Type} : Spec Ω := inl E1069 A1069 C1069 false
theorem g1069 : Good1 Tryz.prog 140 S1069 := Good1.inl e1069 mix Tryz.func140 (by kernel_rfl) c1069 A1069 false
/-- coatcheck/entry.live -/
def C1071 : CF := ⟨2, [(4, none), (5, none)],
 .seq (.reg false [⟨some 4, .mv (.c (.d (.v (.int .i64 0)))), none, 0⟩,
   ⟨some 5, .mv (.c (.d (.v (.bool false)))), none, 0⟩])
 (.seq (.reg false [⟨some 10, .mv (.t 0), none, 0⟩,
   ⟨some 11, .call (.c (.fn (.func 141) [] [])) [.t 10], none, 0⟩,
   ⟨some 9, .mv (.t 11), none, 0⟩,
   ⟨some 12, .ext 0 (.t 9), none, 0⟩,
   ⟨some 13, .ext 1 (.t 9), none, 0⟩,
   ⟨some 14, .ext 2 (.t 9), none, 0⟩,
   ⟨some 6, .mv (.t 12), none, 0⟩,
   ⟨some 7, .mv (.t 13), none, 0⟩,
   ⟨some 8, .mv (.t 14), none, 0⟩])
 (.seq (.reg false [⟨some 15, .mv (.t 7), none, 0⟩,
   ⟨some 16, .mv (.t 8), none, 0⟩,
   ⟨some 17, .eq .int false (.t 16) (.c (.d (.v (.int .i64 1)))), none, 0⟩,
   ⟨some 18, .mv (.t 17), none, 0⟩,
   ⟨some 19, .mv (.t 6), some (18, true), 0⟩,
   ⟨some 20, .mv (.t 1), some (18, true), 0⟩,
   ⟨some 21, .eq .int false (.t 19) (.t 20), some (18, true), 0⟩,
   ⟨some 22, .pick (.t 18) (.t 21) (.c (.d (.v (.bool false)))), none, 0⟩,
   ⟨some 4, .mv (.t 15), none, 0⟩,
   ⟨some 5, .mv (.t 22), none, 0⟩])
 (.ret)))⟩
theorem c1071 : coF Tryz.prog Tryz.f143 = some C1071 := by kernel_rfl
def A1071 : Ann := { keep := [0, 1, 4, 5, 6, 7, 8], live := [] }
def E1071 {Ω : Type} : Env Ω := econs 141 S1054c (enil)
theorem e1071 : GoodE Tryz.prog E1071 := GoodE.cons g1054c (GoodE.nil)
def S1071 {Ω : Type} : Spec Ω := inl E1071 A1071 C1071 false
theorem g1071 : Good1 Tryz.prog 143 S1071 := Good1.inl e1071 mix Tryz.func143 (by kernel_rfl) c1071 A1071 false
def K1029_1 : CC := .seq (.reg true [⟨some 180, .ld 33 true (.t 3), none, 0⟩,
   ⟨some 181, .ld 1 false (.t 10), none, 0⟩,
   ⟨none, .st 33 (.t 4) (.t 180), none, 1⟩,
   ⟨some 5, .mv (.t 181), none, 7⟩,
   ⟨some 6, .mv (.c (.d (.v (.bool true)))), none, 15⟩])
 (.ret)
def K1029_2 : CC := .seq (.seq (.reg false [⟨some 179, .ld 33 true (.t 3), none, 0⟩,
   ⟨none, .st 33 (.t 4) (.t 179), none, 0⟩,
   ⟨some 5, .mv (.c (.d (.v (.int .i64 0)))), none, 0⟩,
   ⟨some 6, .mv (.c (.d (.v (.bool false)))), none, 0⟩])
 (.ret))
 (.exit 0)
def K1029_3 : CC := .seq (.seq (.reg true [⟨some 165, .mv (.t 0), none, 0⟩,
   ⟨some 166, .mv (.t 9), none, 0⟩,
   ⟨some 167, .fa 25 (.t 3), none, 0⟩,
   ⟨some 168, .ld 1 false (.t 167), none, 4⟩,
   ⟨some 169, .mv (.t 8), none, 0⟩,
   ⟨some 170, .fa 18 (.t 3), none, 0⟩,
   ⟨some 171, .ld 1 false (.t 170), none, 32⟩,
   ⟨some 172, .bin .sub (.t 171) (.c (.d (.v (.int .i64 1)))), none, 96⟩,
   ⟨some 173, .call (.c (.fn (.func 70) [] [])) [.t 169, .t 172, .c (.d (.v (.int .i64 1)))], none, 240⟩,
   ⟨some 174, .call (.c (.fn (.func 120) [] [])) [.t 165, .t 166, .t 168, .t 173], none, 511⟩])
 (.cond 174 (.seq (.reg false [⟨some 175, .fa 18 (.t 3), none, 0⟩,
     ⟨none, .st 1 (.t 175) (.c (.d (.v (.int .i64 0)))), none, 0⟩])
   (.reg false [⟨some 176, .mv (.t 11), none, 0⟩,
     ⟨some 177, .call (.t 176) [.c (.d (.v (.int .i64 1)))], none, 0⟩]))
   (.reg false [⟨some 178, .fa 0 (.t 3), none, 0⟩,
     ⟨none, .st 1 (.t 178) (.c (.d (.v (.int .i64 44)))), none, 0⟩])))
 (.exit 0)
def K1029_4 : CC := .exit 0
def K1029_5 : CC := .seq (.seq (.reg false [⟨some 144, .mv (.t 8), none, 0⟩,
   ⟨some 145, .mv (.t 0), none, 0⟩,
   ⟨some 146, .nilc (.t 145), none, 0⟩,
   ⟨some 147, .fa 0 (.t 146), none, 0⟩,
   ⟨some 148, .fa 0 (.t 147), none, 0⟩,
   ⟨some 149, .fa 7 (.t 148), none, 0⟩,
   ⟨some 150, .ld 1 false (.t 149), none, 0⟩,
   ⟨some 151, .bin .geq (.t 144) (.t 150), none, 0⟩])
 (.cond 151 (.reg false [⟨some 152, .mv (.t 8), none, 0⟩,
     ⟨some 153, .call (.c (.fn (.func 70) [] [])) [.t 152, .c (.d (.v (.int .i64 (-1)))), .c (.d (.v (.int .i64 2)))], none, 0⟩,
     ⟨some 16, .mv (.t 153), none, 0⟩,
     ⟨some 17, .mv (.c (.d (.v (.int .i64 0)))), none, 0⟩])
   (.skip)))
 (.seq (.reg false [⟨some 154, .mv (.t 0), none, 0⟩,
   ⟨some 155, .mv (.t 9), none, 0⟩,
   ⟨some 156, .fa 25 (.t 3), none, 0⟩,
   ⟨some 157, .ld 1 false (.t 156), none, 0⟩,
   ⟨some 158, .mv (.t 16), none, 0⟩,
   ⟨some 159, .call (.c (.fn (.func 120) [] [])) [.t 154, .t 155, .t 157, .t 158], none, 0⟩])
 (.cond 159 (.seq (.reg false [⟨some 160, .mv (.t 17), none, 0⟩,
     ⟨some 161, .fa 20 (.t 3), none, 0⟩,
     ⟨none, .st 1 (.t 161) (.t 160), none, 0⟩])
   (.reg false [⟨some 162, .mv (.t 11), none, 0⟩,
     ⟨some 163, .call (.t 162) [.c (.d (.v (.int .i64 1)))], none, 0⟩]))
   (.reg false [⟨some 164, .fa 0 (.t 3), none, 0⟩,
     ⟨none, .st 1 (.t 164) (.c (.d (.v (.int .i64 42)))), none, 0⟩])))
def K1029_6 : CC := .reg false [⟨some 139, .mv (.t 8), none, 0⟩,
   ⟨some 140, .bin .add (.t 139) (.c (.d (.v (.int .u64 1)))), none, 0⟩,
   ⟨some 141, .call (.c (.fn (.func 70) [] [])) [.t 140, .c (.d (.v (.int .i64 (-1)))), .c (.d (.v (.int .i64 0)))], none, 0⟩,
   ⟨some 142, .mv (.t 7), none, 0⟩,
   ⟨some 143, .bin .add (.t 142) (.c (.d (.v (.int .i64 1)))), none, 0⟩,
   ⟨some 16, .mv (.t 141), none, 0⟩,
   ⟨some 17, .mv (.t 143), none, 0⟩]
def K1029_7 : CC := .seq (.seq (.reg false [⟨some 122, .mv (.t 0), none, 0⟩,
   ⟨some 123, .mv (.t 9), none, 0⟩,
   ⟨some 124, .call (.c (.fn (.func 80) [] [])) [.t 122, .t 123], none, 0⟩,
   ⟨some 13, .mv (.t 124), none, 0⟩])
 (.seq (.reg false [⟨some 125, .mv (.t 11), none, 0⟩,
   ⟨some 126, .call (.t 125) [.c (.d (.v (.int .i64 2)))], none, 0⟩])
 (.seq (.reg false [⟨some 128, .mv (.t 13), none, 0⟩,
   ⟨some 129, .mv (.t 8), none, 0⟩,
   ⟨some 130, .call (.c (.fn (.func 143) [] [])) [.t 128, .t 129], none, 0⟩,
   ⟨some 127, .mv (.t 130), none, 0⟩,
   ⟨some 131, .ext 0 (.t 127), none, 0⟩,
   ⟨some 132, .ext 1 (.t 127), none, 0⟩,
   ⟨some 14, .mv (.t 131), none, 0⟩,
   ⟨some 15, .mv (.t 132), none, 0⟩])
 (.seq (.reg false [⟨some 133, .mv (.t 15), none, 0⟩])
 (.cond 133 (.reg false [⟨some 134, .mv (.t 13), none, 0⟩,
     ⟨some 135, .mv (.t 14), none, 0⟩,
     ⟨some 136, .bin .add (.t 135) (.c (.d (.v (.int .i64 1)))), none, 0⟩,
     ⟨some 137, .fa 25 (.t 3), none, 0⟩,
     ⟨none, .st 1 (.t 137) (.t 134), none, 0⟩,
     ⟨some 138, .fa 21 (.t 3), none, 0⟩,
     ⟨none, .st 1 (.t 138) (.t 136), none, 0⟩,
     ⟨none, .st 1 (.t 10) (.c (.d (.v (.int .i64 1)))), none, 0⟩])
   (.skip))))))
 (.exit 0)
def K1029_8 : CC := .exit 0
def K1029_9 : CC := .seq (.reg false [⟨some 111, .fa 20 (.t 3), none, 0⟩,
   ⟨some 112, .ld 1 false (.t 111), none, 0⟩,
   ⟨some 113, .bin .sub (.t 112) (.c (.d (.v (.int .i64 1)))), none, 0⟩,
   ⟨some 114, .fa 27 (.t 3), none, 0⟩,
   ⟨some 115, .ld 1 false (.t 114), none, 0⟩,
   ⟨some 116, .call (.c (.fn (.func 142) [] [])) [.t 113, .t 115], none, 0⟩,
   ⟨some 117, .fa 30 (.t 3), none, 0⟩,
   ⟨none, .st 1 (.t 117) (.t 116), none, 0⟩])
 (.seq (.reg false [⟨some 118, .fa 20 (.t 3), none, 0⟩,
   ⟨none, .st 1 (.t 118) (.c (.d (.v (.int .i64 0)))), none, 0⟩,
   ⟨some 119, .fa 18 (.t 3), none, 0⟩,
   ⟨none, .st 1 (.t 119) (.c (.d (.v (.int .i64 0)))), none, 0⟩])
 (.reg false [⟨some 120, .mv (.t 11), none, 0⟩,
   ⟨some 121, .call (.t 120) [.c (.d (.v (.int .i64 1)))], none, 0⟩]))
def K1029_10 : CC := .reg true [⟨some 95, .mv (.t 0), none, 0⟩,
   ⟨some 96, .mv (.t 0), none, 0⟩,
   ⟨some 97, .nilc (.t 96), none, 2⟩,
   ⟨some 98, .fa 0 (.t 97), none, 6⟩,
   ⟨some 99, .ld 8 true (.t 98), none, 14⟩,
   ⟨some 100, .fa 20 (.t 3), none, 0⟩,
   ⟨some 101, .ld 1 false (.t 100), none, 32⟩,
   ⟨some 102, .bin .sub (.t 101) (.c (.d (.v (.int .i64 1)))), none, 96⟩,
   ⟨some 103, .call (.c (.fn (.func 71) [] [])) [.t 99, .t 102], none, 254⟩,
   ⟨some 104, .fa 27 (.t 3), none, 0⟩,
   ⟨some 105, .ld 1 false (.t 104), none, 512⟩,
   ⟨some 106, .fa 18 (.t 3), none, 0⟩,
   ⟨some 107, .ld 1 false (.t 106), none, 2048⟩,
   ⟨some 108, .bin .sub (.t 107) (.c (.d (.v (.int .i64 1)))), none, 6144⟩,
   ⟨some 109, .call (.c (.fn (.func 70) [] [])) [.t 105, .t 108, .c (.d (.v (.int .i64 1)))], none, 16382⟩,
   ⟨some 110, .call (.c (.fn (.func 81) [] [])) [.t 95, .t 103, .t 109], none, 32767⟩]
def K1029_11 : CC := .seq (.seq (.reg true [⟨some 79, .mv (.t 0), none, 0⟩,
   ⟨some 80, .mv (.t 0), none, 0⟩,
   ⟨some 81, .nilc (.t 80), none, 2⟩,
   ⟨some 82, .fa 0 (.t 81), none, 6⟩,
   ⟨some 83, .ld 8 true (.t 82), none, 14⟩,
   ⟨some 84, .fa 20 (.t 3), none, 0⟩,
   ⟨some 85, .ld 1 false (.t 84), none, 32⟩,
   ⟨some 86, .bin .sub (.t 85) (.c (.d (.v (.int .i64 1)))), none, 96⟩,
   ⟨some 87, .call (.c (.fn (.func 71) [] [])) [.t 83, .t 86], none, 254⟩,
   ⟨some 88, .call (.c (.fn (.func 80) [] [])) [.t 79, .t 87], none, 511⟩,
   ⟨some 89, .call (.c (.fn (.func 141) [] [])) [.t 88], none, 1023⟩,
   ⟨some 78, .mv (.t 89), none, 2047⟩,
   ⟨some 90, .ext 0 (.t 78), none, 4095⟩,
   ⟨some 91, .ext 1 (.t 78), none, 4095⟩,
   ⟨some 92, .ext 2 (.t 78), none, 4095⟩,
   ⟨some 93, .fa 27 (.t 3), none, 8191⟩,
   ⟨none, .st 1 (.t 93) (.t 90), none, 40959⟩])
 (.reg false [⟨some 94, .fa 0 (.t 3), none, 0⟩,
   ⟨none, .st 1 (.t 94) (.c (.d (.v (.int .i64 41)))), none, 0⟩]))
 (.exit 0)
def K1029_12 : CC := .block 1 (.seq (.seq (.seq (.reg false [⟨some 64, .eq .int false (.t 62) (.c (.d (.v (.int .i64 40)))), none, 0⟩,
     ⟨some 63, .mv (.t 64), none, 0⟩])
   (.cond 63 (.exit 1)
     (.skip)))
   (.seq (.seq (.reg false [⟨some 66, .eq .int false (.t 62) (.c (.d (.v (.int .i64 41)))), none, 0⟩,
     ⟨some 65, .mv (.t 66), none, 0⟩])
   (.cond 65 (.exit 2)
     (.skip)))
   (.seq (.seq (.reg false [⟨some 68, .eq .int false (.t 62) (.c (.d (.v (.int .i64 42)))), none, 0⟩,
     ⟨some 67, .mv (.t 68), none, 0⟩])
   (.cond 67 (.exit 3)
     (.skip)))
   (.seq (.seq (.reg false [⟨some 70, .eq .int false (.t 62) (.c (.d (.v (.int .i64 44)))), none, 0⟩,
     ⟨some 69, .mv (.t 70), none, 0⟩])
   (.cond 69 (.exit 4)
     (.skip)))
   (.seq (.seq (.seq (.reg false [⟨some 72, .eq .int false (.t 62) (.c (.d (.v (.int .i64 46)))), none, 0⟩,
     ⟨some 71, .mv (.t 72), none, 0⟩])
   (.cond 71 (.skip)
     (.reg false [⟨some 73, .eq .int false (.t 62) (.c (.d (.v (.int .i64 60)))), none, 0⟩,
       ⟨some 71, .mv (.t 73), none, 0⟩])))
   (.cond 71 (.exit 5)
     (.skip)))
   (.seq (.seq (.reg false [⟨some 75, .eq .int false (.t 62) (.c (.d (.v (.int .i64 43)))), none, 0⟩,
     ⟨some 74, .mv (.t 75), none, 0⟩])
   (.cond 74 (.exit 6)
     (.skip)))
   (.seq (.reg false [⟨some 77, .eq .int false (.t 62) (.c (.d (.v (.int .i64 45)))), none, 0⟩,
     ⟨some 76, .mv (.t 77), none, 0⟩])
   (.cond 76 (.exit 7)
     (.skip)))))))))
   (.exit 8))
def K1029_13 : CC := .reg false [⟨some 62, .mv (.t 12), none, 0⟩]
def K1029_14 : CC := .seq (.reg false [⟨some 50, .mv (.t 12), none, 0⟩,
   ⟨some 51, .bin .geq (.t 50) (.c (.d (.v (.int .i64 40)))), none, 0⟩,
   ⟨some 52, .mv (.t 51), none, 0⟩,
   ⟨some 53, .mv (.t 12), some (52, true), 0⟩,
   ⟨some 54, .bin .leq (.t 53) (.c (.d (.v (.int .i64 46)))), some (52, true), 0⟩,
   ⟨some 55, .pick (.t 52) (.t 54) (.c (.d (.v (.bool false)))), none, 0⟩,
   ⟨some 56, .mv (.t 55), none, 0⟩,
   ⟨some 57, .mv (.t 12), some (56, false), 0⟩,
   ⟨some 58, .eq .int false (.t 57) (.c (.d (.v (.int .i64 60)))), some (56, false), 0⟩,
   ⟨some 59, .pick (.t 56) (.c (.d (.v (.bool true)))) (.t 58), none, 0⟩])
 (.cond 59 (.reg false [⟨some 60, .mv (.t 0), none, 0⟩,
     ⟨some 61, .call (.c (.fn (.func 77) [] [])) [.t 60], none, 0⟩])
   (.skip))
def K1029_15 : CC := .reg false [⟨some 48, .fa 0 (.t 3), none, 0⟩,
   ⟨some 49, .ld 1 false (.t 48), none, 0⟩,
   ⟨some 12, .mv (.t 49), none, 0⟩]
def K1029_16 : CC := .reg false [⟨some 47, .mkf (.func 140) [] [.t 3, .t 10], none, 0⟩,
   ⟨some 11, .mv (.t 47), none, 0⟩]
def K1029_17 : CC := .reg false [⟨some 10, .newc 3 [.d (.v (.int .i64 0))], none, 0⟩,
   ⟨none, .st 1 (.t 10) (.c (.d (.v (.int .i64 0)))), none, 0⟩]
def K1029_18 : CC := .reg false [⟨some 41, .mv (.t 0), none, 0⟩,
   ⟨some 42, .nilc (.t 41), none, 0⟩,
   ⟨some 43, .fa 0 (.t 42), none, 0⟩,
   ⟨some 44, .ld 8 true (.t 43), none, 0⟩,
   ⟨some 45, .mv (.t 7), none, 0⟩,
   ⟨some 46, .call (.c (.fn (.func 71) [] [])) [.t 44, .t 45], none, 0⟩,
   ⟨some 9, .mv (.t 46), none, 0⟩]
def K1029_19 : CC := .reg false [⟨some 36, .fa 30 (.t 3), none, 0⟩,
   ⟨some 37, .ld 1 false (.t 36), none, 0⟩,
   ⟨some 38, .call (.c (.fn (.func 108) [] [])) [.t 37], none, 0⟩,
   ⟨some 35, .mv (.t 38), none, 0⟩,
   ⟨some 39, .ext 0 (.t 35), none, 0⟩,
   ⟨some 40, .ext 1 (.t 35), none, 0⟩,
   ⟨some 7, .mv (.t 39), none, 0⟩,
   ⟨some 8, .mv (.t 40), none, 0⟩]
def K1029_20 : CC := .seq (.reg false [⟨some 21, .fa 0 (.t 3), none, 0⟩,
   ⟨some 22, .ld 1 false (.t 21), none, 0⟩,
   ⟨some 23, .bin .geq (.t 22) (.c (.d (.v (.int .i64 20)))), none, 0⟩,
   ⟨some 24, .mv (.t 23), none, 0⟩,
   ⟨some 25, .fa 0 (.t 3), some (24, true), 0⟩,
   ⟨some 26, .ld 1 false (.t 25), some (24, true), 0⟩,
   ⟨some 27, .bin .leq (.t 26) (.c (.d (.v (.int .i64 25)))), some (24, true), 0⟩,
   ⟨some 28, .pick (.t 24) (.t 27) (.c (.d (.v (.bool false)))), none, 0⟩])
 (.cond 28 (.seq (.reg false [⟨some 29, .mv (.t 0), none, 0⟩,
     ⟨some 30, .ld 33 true (.t 3), none, 0⟩,
     ⟨some 31, .call (.c (.fn (.func 139) [] [])) [.t 29, .t 30], none, 0⟩,
     ⟨some 32, .ext 0 (.t 31), none, 0⟩,
     ⟨some 33, .ext 1 (.t 31), none, 0⟩,
     ⟨some 34, .ext 2 (.t 31), none, 0⟩,
     ⟨none, .st 33 (.t 4) (.t 32), none, 0⟩,
     ⟨some 5, .mv (.t 33), none, 0⟩,
     ⟨some 6, .mv (.t 34), none, 0⟩])
   (.ret))
   (.skip))
def K1029_21 : CC := .seq (.reg false [⟨some 18, .mv (.t 0), none, 0⟩,
   ⟨some 19, .eq .ptr false (.t 18) (.c (.d (.v (.pointer none)))), none, 0⟩])
 (.cond 19 (.seq (.reg false [⟨some 20, .ld 33 true (.t 3), none, 0⟩,
     ⟨none, .st 33 (.t 4) (.t 20), none, 0⟩,
     ⟨some 5, .mv (.c (.d (.v (.int .i64 0)))), none, 0⟩,
     ⟨some 6, .mv (.c (.d (.v (.bool false)))), none, 0⟩])
   (.ret))
   (.skip))
def K1029_22 : CC := .reg false [⟨some 3, .box 56 33 (.t 1), none, 0⟩,
   ⟨some 4, .newc 56 [.d (.v (.int .i64 0)), .d (.v (.int .i64 0)), .d (.v (.int .u64 0)), .d (.v (.int .u64 0)), .d (.v (.int .i64 0)), .d (.v (.bool false)), .d (.v (.int .i64 0)), .d (.v (.int .i64 0)), .d (.v (.bool false)), .d (.v (.int .u64 0)), .d (.v (.slice none 0 0)), .d (.v (.int .u64 0)), .d (.v (.slice none 0 0)), .d (.v (.int .u64 0)), .d (.v (.slice none 0 0)), .d (.v (.int .u64 0)), .d (.v (.slice none 0 0)), .d (.v (.slice none 0 0)), .d (.v (.int .i64 0)), .d (.v (.int .i64 0)), .d (.v (.int .i64 0)), .d (.v (.int .i64 0)), .d (.v (.int .i64 0)), .d (.v (.int .u64 0)), .d (.v (.int .u64 0)), .d (.v (.int .u64 0)), .d (.v (.int .u64 0)), .d (.v (.int .u64 0)), .d (.v (.int .i64 0)), .d (.v (.slice none 0 0)), .d (.v (.int .u64 0)), .d (.v (.int .i64 0)), .d (.v (.bool false))], none, 0⟩,
   ⟨some 5, .mv (.c (.d (.v (.int .i64 0)))), none, 0⟩,
   ⟨some 6, .mv (.c (.d (.v (.bool false)))), none, 0⟩]
/-- coatcheck/entry.Step -/
def C1029 : CF := ⟨2, [(4, some (33, true)), (5, none), (6, none)],
 .seq K1029_22 (.seq K1029_21 (.seq K1029_20 (.seq K1029_19 (.seq K1029_18 (.seq K1029_17 (.seq K1029_16 (.seq K1029_15 (.seq K1029_14 (.seq (.seq K1029_13 (.block 0 (.seq (.block 8 (.seq (.block 7 (.seq (.block 6 (.seq (.block 5 (.block 4 (.block 3 (.seq (.block 2 (.seq K1029_12 K1029_11)) (.seq (.seq K1029_10 K1029_9) K1029_8))))) K1029_7)) (.seq (.seq K1029_6 K1029_5) K1029_4))) K1029_3)) K1029_2))) K1029_1)))))))))⟩
theorem c1029 : coF Tryz.prog Tryz.f98 = some C1029 := by kernel_rfl
def A1029 : Ann := { keep := [0, 1, 3, 4, 5, 6, 7, 8, 9, 10, 11, 12, 13, 14, 15, 16, 17, 19, 28, 59, 62, 63, 65, 67, 69, 71, 74, 76, 133, 151, 159, 174], live := [], kc := [71] }
def E1029 {Ω : Type} : Env Ω := econs 81 S23m (econs 71 S111c (econs 77 S29m (econs 80 S21m (econs 120 S25m (econs 141 S1054c (econs 139 S1067 (econs 108 S1068c (econs 140 S1069 (econs 70 S110c (econs 142 S1070c (econs 143 S1071 (enil))))))))))))
theorem e1029 : GoodE Tryz.prog E1029 := GoodE.cons g23m (GoodE.cons g111c (GoodE.cons g29m (GoodE.cons g21m (GoodE.cons g25m (GoodE.cons g1054c (GoodE.cons g1067 (GoodE.cons g1068c (GoodE.cons g1069 (GoodE.cons g110c (GoodE.cons g1070c (GoodE.cons g1071 (GoodE.nil))))))))))))
end Go.Sx.Pr

/- The steps of a slab, run as they stand. -/
namespace Go.Sx.Pr
open Go Go.Sx Go.Proofs
set_option maxRecDepth 100000
def S1029i {Ω : Type} : Spec Ω := inl E1029 A1029 C1029 false
theorem g1029i : Good1 Tryz.prog 98 S1029i := Good1.inl e1029 mix Tryz.func98 (by kernel_rfl) c1029 A1029 false
end Go.Sx.Pr

/- Contracts whose answer is a new row that nobody writes any more: data. -/
namespace Go.Sx

def firstD : List (Bool × Nat × Nat × (Nat → Nat → Value)) → Option (Nat × Nat × (Nat → Nat → Value))
  | [] => none
  | (g, x) :: rest => bif g then some x else firstD rest

end Go.Sx
