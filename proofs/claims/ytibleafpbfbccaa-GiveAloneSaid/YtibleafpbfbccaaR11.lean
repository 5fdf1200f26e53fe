/- Pieces of the code of functions, compiled for the symbolic interpreter, each checked against the program; no conditions. -/
import Derived.Test.YtibleafpbfbccaaR9
import Derived.Test.YtibleafpbfbccaaRows
import Derived.KernelRfl
set_option linter.all false
set_option linter.unusedVariables false
set_option linter.unusedSimpArgs false
set_option linter.unnecessarySimpa false
namespace Go.Sx.Pr
open Go Go.Sx Go.Proofs
set_option maxRecDepth 100000
/-- coatcheck/stack.sideOf -/
def C76 : CF := ⟨2, [(4, some (3, true))],
 .seq (.reg false [⟨some 3, .box 43 33 (.t 1), none, 0⟩,
   ⟨some 4, .newc 95 [.d (.v (.int .i64 0)), .d (.v (.nilFunc)), .d (.v (.int .i64 0))], none, 0⟩])
 (.seq (.seq (.reg false [⟨some 5, .fa 0 (.t 3), none, 0⟩,
   ⟨some 6, .ld 1 false (.t 5), none, 0⟩,
   ⟨some 7, .bin .lss (.t 6) (.c (.d (.v (.int .i64 20)))), none, 0⟩])
 (.cond 7 (.seq (.reg true [⟨some 8, .mv (.t 0), none, 0⟩,
     ⟨some 9, .nilc (.t 8), none, 1⟩,
     ⟨some 10, .fa 0 (.t 9), none, 3⟩,
     ⟨some 11, .ld 8 true (.t 10), none, 7⟩,
     ⟨some 12, .mkf (.func 56) [.t 11] [], none, 15⟩,
     ⟨some 13, .fa 19 (.t 3), none, 0⟩,
     ⟨some 14, .ld 1 false (.t 13), none, 32⟩,
     ⟨some 15, .bin .sub (.t 14) (.c (.d (.v (.int .i64 1)))), none, 96⟩,
     ⟨some 16, .bld [.d (.v (.int .i64 0)), .d (.v (.nilFunc)), .d (.v (.int .i64 0))] [(0, 1, .c (.d (.v (.int .i64 1)))), (1, 1, .t 12), (2, 1, .t 15)], none, 255⟩,
     ⟨none, .st 3 (.t 4) (.t 16), none, 511⟩])
   (.ret))
   (.skip)))
 (.seq (.reg true [⟨some 17, .mv (.t 0), none, 0⟩,
   ⟨some 18, .nilc (.t 17), none, 1⟩,
   ⟨some 19, .fa 0 (.t 18), none, 3⟩,
   ⟨some 20, .ld 8 true (.t 19), none, 7⟩,
   ⟨some 21, .mkf (.func 52) [.t 20] [], none, 15⟩,
   ⟨some 22, .fa 20 (.t 3), none, 0⟩,
   ⟨some 23, .ld 1 false (.t 22), none, 32⟩,
   ⟨some 24, .bin .sub (.t 23) (.c (.d (.v (.int .i64 1)))), none, 96⟩,
   ⟨some 25, .bld [.d (.v (.int .i64 0)), .d (.v (.nilFunc)), .d (.v (.int .i64 0))] [(0, 1, .c (.d (.v (.int .i64 2)))), (1, 1, .t 21), (2, 1, .t 24)], none, 255⟩,
   ⟨none, .st 3 (.t 4) (.t 25), none, 511⟩])
 (.ret)))⟩
theorem c76 : coF Try.prog Try.f45 = some C76 := by kernel_rfl
def A76 : Ann := { keep := [0, 1, 3, 4, 7], live := [] }
def E76 {Ω : Type} : Env Ω := econs 56 S117 (econs 52 S112c (enil))
theorem e76 : GoodE Try.prog E76 := GoodE.cons g117 (GoodE.cons g112c (GoodE.nil))
def S76 {Ω : Type} : Spec Ω := inl E76 A76 C76 false
theorem g76 : Good1 Try.prog 45 S76 := Good1.inl e76 mix Try.func45 (by kernel_rfl) c76 A76 false
/-- coatcheck/stack.Step$1 -/
def C77 : CF := ⟨2, [(3, some (33, true)), (4, none), (5, none)],
 .seq (.reg false [⟨some 3, .newc 43 [.d (.v (.int .i64 0)), .d (.v (.int .i64 0)), .d (.v (.int .u64 0)), .d (.v (.int .u64 0)), .d (.v (.int .i64 0)), .d (.v (.bool false)), .d (.v (.int .i64 0)), .d (.v (.int .i64 0)), .d (.v (.bool false)), .d (.v (.int .u64 0)), .d (.v (.slice none 0 0)), .d (.v (.int .u64 0)), .d (.v (.slice none 0 0)), .d (.v (.int .u64 0)), .d (.v (.slice none 0 0)), .d (.v (.int .u64 0)), .d (.v (.slice none 0 0)), .d (.v (.slice none 0 0)), .d (.v (.int .i64 0)), .d (.v (.int .i64 0)), .d (.v (.int .i64 0)), .d (.v (.int .i64 0)), .d (.v (.int .i64 0)), .d (.v (.int .u64 0)), .d (.v (.int .u64 0)), .d (.v (.int .u64 0)), .d (.v (.int .u64 0)), .d (.v (.int .u64 0)), .d (.v (.int .i64 0)), .d (.v (.slice none 0 0)), .d (.v (.int .u64 0)), .d (.v (.int .i64 0)), .d (.v (.bool false))], none, 0⟩,
   ⟨some 4, .mv (.c (.d (.v (.int .i64 0)))), none, 0⟩,
   ⟨some 5, .mv (.c (.d (.v (.bool false)))), none, 0⟩])
 (.seq (.reg false [⟨some 6, .fa 0 (.t 1), none, 0⟩,
   ⟨none, .st 1 (.t 6) (.c (.d (.v (.int .i64 0)))), none, 0⟩])
 (.seq (.reg false [⟨some 7, .ld 33 true (.t 1), none, 0⟩,
   ⟨some 8, .mv (.t 0), none, 0⟩,
   ⟨none, .st 33 (.t 3) (.t 7), none, 0⟩,
   ⟨some 4, .mv (.t 8), none, 0⟩,
   ⟨some 5, .mv (.c (.d (.v (.bool true)))), none, 0⟩])
 (.ret)))⟩
theorem c77 : coF Try.prog Try.f46 = some C77 := by kernel_rfl
def A77 : Ann := { keep := [0, 1, 3, 4, 5], live := [] }
def E77 {Ω : Type} : Env Ω := enil
theorem e77 : GoodE Try.prog E77 := GoodE.nil
def S77 {Ω : Type} : Spec Ω := inl E77 A77 C77 false
theorem g77 : Good1 Try.prog 46 S77 := Good1.inl e77 mix Try.func46 (by kernel_rfl) c77 A77 false
/-- coatcheck/stack.low -/
def C78 : CF := ⟨1, [(2, none)],
 .seq (.reg false [⟨some 2, .mv (.c (.d (.v (.int .u64 0)))), none, 0⟩])
 (.seq (.reg false [⟨some 3, .mv (.t 0), none, 0⟩,
   ⟨some 4, .conv .u32 (.t 3), none, 0⟩,
   ⟨some 5, .conv .u64 (.t 4), none, 0⟩,
   ⟨some 2, .mv (.t 5), none, 0⟩])
 (.ret))⟩
theorem c78 : coF Try.prog Try.f47 = some C78 := by kernel_rfl
def A78 : Ann := { keep := [0, 2], live := [] }
def E78 {Ω : Type} : Env Ω := enil
theorem e78 : GoodE Try.prog E78 := GoodE.nil
def S78 {Ω : Type} : Spec Ω := inl E78 A78 C78 false
theorem g78 : Good1 Try.prog 47 S78 := Good1.inl e78 mix Try.func47 (by kernel_rfl) c78 A78 false
/-- coatcheck/stack.above -/
def C79 : CF := ⟨2, [(4, none)],
 .seq (.reg false [⟨some 4, .mv (.c (.d (.v (.int .u64 0)))), none, 0⟩])
 (.seq (.reg false [⟨some 8, .mv (.t 0), none, 0⟩,
   ⟨some 9, .call (.c (.fn (.func 57) [] [])) [.t 8], none, 0⟩,
   ⟨some 7, .mv (.t 9), none, 0⟩,
   ⟨some 10, .ext 0 (.t 7), none, 0⟩,
   ⟨some 11, .ext 1 (.t 7), none, 0⟩,
   ⟨some 5, .mv (.t 10), none, 0⟩,
   ⟨some 6, .mv (.t 11), none, 0⟩])
 (.seq (.reg false [⟨some 12, .mv (.t 1), none, 0⟩,
   ⟨some 13, .mv (.t 6), none, 0⟩,
   ⟨some 14, .bin .add (.t 13) (.c (.d (.v (.int .u64 1)))), none, 0⟩,
   ⟨some 15, .call (.c (.fn (.func 49) [] [])) [.t 12, .t 14], none, 0⟩,
   ⟨some 4, .mv (.t 15), none, 0⟩])
 (.ret)))⟩
theorem c79 : coF Try.prog Try.f48 = some C79 := by kernel_rfl
def A79 : Ann := { keep := [0, 1, 4, 6], live := [] }
def E79 {Ω : Type} : Env Ω := econs 57 S118c (econs 49 S109c (enil))
theorem e79 : GoodE Try.prog E79 := GoodE.cons g118c (GoodE.cons g109c (GoodE.nil))
def S79 {Ω : Type} : Spec Ω := inl E79 A79 C79 false
theorem g79 : Good1 Try.prog 48 S79 := Good1.inl e79 mix Try.func48 (by kernel_rfl) c79 A79 false
def K45_1 : CC := .seq (.reg false [⟨some 157, .ld 33 true (.t 3), none, 0⟩,
   ⟨none, .st 33 (.t 4) (.t 157), none, 0⟩,
   ⟨some 5, .mv (.c (.d (.v (.int .i64 0)))), none, 0⟩,
   ⟨some 6, .mv (.c (.d (.v (.bool true)))), none, 0⟩])
 (.ret)
def K45_2 : CC := .seq (.reg false [⟨some 54, .fa 25 (.t 3), none, 0⟩,
   ⟨some 55, .ld 1 false (.t 54), none, 0⟩,
   ⟨some 56, .call (.c (.fn (.func 47) [] [])) [.t 55], none, 0⟩,
   ⟨some 57, .fa 23 (.t 3), none, 0⟩,
   ⟨none, .st 1 (.t 57) (.t 56), none, 0⟩])
 (.seq (.seq (.reg false [⟨some 58, .fa 23 (.t 3), none, 0⟩,
   ⟨some 59, .ld 1 false (.t 58), none, 0⟩,
   ⟨some 60, .eq .int false (.t 59) (.c (.d (.v (.int .u64 0)))), none, 0⟩])
 (.cond 60 (.seq (.reg false [⟨some 61, .mv (.t 8), none, 0⟩,
     ⟨some 62, .call (.t 61) [.c (.d (.v (.int .i64 2)))], none, 0⟩,
     ⟨some 63, .ext 0 (.t 62), none, 0⟩,
     ⟨some 64, .ext 1 (.t 62), none, 0⟩,
     ⟨some 65, .ext 2 (.t 62), none, 0⟩,
     ⟨none, .st 33 (.t 4) (.t 63), none, 0⟩,
     ⟨some 5, .mv (.t 64), none, 0⟩,
     ⟨some 6, .mv (.t 65), none, 0⟩])
   (.ret))
   (.skip)))
 (.reg false [⟨some 66, .fa 0 (.t 3), none, 0⟩,
   ⟨some 67, .ld 1 false (.t 66), none, 0⟩,
   ⟨some 68, .bin .add (.t 67) (.c (.d (.v (.int .i64 1)))), none, 0⟩,
   ⟨some 69, .fa 0 (.t 3), none, 0⟩,
   ⟨none, .st 1 (.t 69) (.t 68), none, 0⟩]))
def K45_3 : CC := .reg false [⟨some 49, .mv (.t 0), none, 0⟩,
   ⟨some 50, .fa 0 (.t 7), none, 0⟩,
   ⟨some 51, .ld 1 false (.t 50), none, 0⟩,
   ⟨some 52, .call (.c (.fn (.func 40) [] [])) [.t 49, .t 51], none, 0⟩,
   ⟨some 53, .fa 25 (.t 3), none, 0⟩,
   ⟨none, .st 1 (.t 53) (.t 52), none, 0⟩]
def K45_4 : CC := .seq (.reg false [⟨some 72, .mv (.t 0), none, 0⟩,
   ⟨some 73, .fa 1 (.t 7), none, 0⟩,
   ⟨some 74, .ld 1 false (.t 73), none, 0⟩,
   ⟨some 75, .fa 23 (.t 3), none, 0⟩,
   ⟨some 76, .ld 1 false (.t 75), none, 0⟩,
   ⟨some 77, .conv .i64 (.t 76), none, 0⟩,
   ⟨some 78, .bin .sub (.t 77) (.c (.d (.v (.int .i64 1)))), none, 0⟩,
   ⟨some 79, .call (.t 74) [.t 78], none, 0⟩,
   ⟨some 80, .call (.c (.fn (.func 40) [] [])) [.t 72, .t 79], none, 0⟩,
   ⟨some 81, .fa 24 (.t 3), none, 0⟩,
   ⟨none, .st 1 (.t 81) (.t 80), none, 0⟩])
 (.reg false [⟨some 82, .fa 0 (.t 3), none, 0⟩,
   ⟨some 83, .ld 1 false (.t 82), none, 0⟩,
   ⟨some 84, .bin .add (.t 83) (.c (.d (.v (.int .i64 1)))), none, 0⟩,
   ⟨some 85, .fa 0 (.t 3), none, 0⟩,
   ⟨none, .st 1 (.t 85) (.t 84), none, 0⟩])
def K45_5 : CC := .seq (.seq (.reg true [⟨some 88, .mv (.t 0), none, 0⟩,
   ⟨some 89, .fa 0 (.t 7), none, 0⟩,
   ⟨some 90, .ld 1 false (.t 89), none, 2⟩,
   ⟨some 91, .fa 25 (.t 3), none, 0⟩,
   ⟨some 92, .ld 1 false (.t 91), none, 8⟩,
   ⟨some 93, .fa 25 (.t 3), none, 0⟩,
   ⟨some 94, .ld 1 false (.t 93), none, 32⟩,
   ⟨some 95, .fa 24 (.t 3), none, 0⟩,
   ⟨some 96, .ld 1 false (.t 95), none, 128⟩,
   ⟨some 97, .call (.c (.fn (.func 47) [] [])) [.t 96], none, 384⟩,
   ⟨some 98, .conv .i64 (.t 97), none, 896⟩,
   ⟨some 99, .bin .sub (.t 98) (.c (.d (.v (.int .i64 1)))), none, 1920⟩,
   ⟨some 100, .call (.c (.fn (.func 48) [] [])) [.t 94, .t 99], none, 4064⟩,
   ⟨some 101, .call (.c (.fn (.func 43) [] [])) [.t 88, .t 90, .t 92, .t 100], none, 8191⟩])
 (.cond 101 (.seq (.reg false [⟨some 102, .mv (.t 8), none, 0⟩,
     ⟨some 103, .call (.t 102) [.c (.d (.v (.int .i64 1)))], none, 0⟩,
     ⟨some 104, .ext 0 (.t 103), none, 0⟩,
     ⟨some 105, .ext 1 (.t 103), none, 0⟩,
     ⟨some 106, .ext 2 (.t 103), none, 0⟩,
     ⟨none, .st 33 (.t 4) (.t 104), none, 0⟩,
     ⟨some 5, .mv (.t 105), none, 0⟩,
     ⟨some 6, .mv (.t 106), none, 0⟩])
   (.ret))
   (.skip)))
 (.reg false [⟨some 107, .mv (.t 9), none, 0⟩,
   ⟨some 108, .fa 0 (.t 3), none, 0⟩,
   ⟨none, .st 1 (.t 108) (.t 107), none, 0⟩])
def K45_6 : CC := .seq (.reg false [⟨some 111, .mv (.t 0), none, 0⟩,
   ⟨some 112, .fa 0 (.t 7), none, 0⟩,
   ⟨some 113, .ld 1 false (.t 112), none, 0⟩,
   ⟨some 114, .call (.c (.fn (.func 40) [] [])) [.t 111, .t 113], none, 0⟩,
   ⟨some 115, .fa 25 (.t 3), none, 0⟩,
   ⟨none, .st 1 (.t 115) (.t 114), none, 0⟩])
 (.reg false [⟨some 116, .fa 0 (.t 3), none, 0⟩,
   ⟨some 117, .ld 1 false (.t 116), none, 0⟩,
   ⟨some 118, .bin .add (.t 117) (.c (.d (.v (.int .i64 1)))), none, 0⟩,
   ⟨some 119, .fa 0 (.t 3), none, 0⟩,
   ⟨none, .st 1 (.t 119) (.t 118), none, 0⟩])
def K45_7 : CC := .seq (.reg true [⟨some 122, .mv (.t 0), none, 0⟩,
   ⟨some 123, .fa 1 (.t 7), none, 0⟩,
   ⟨some 124, .ld 1 false (.t 123), none, 2⟩,
   ⟨some 125, .fa 2 (.t 7), none, 0⟩,
   ⟨some 126, .ld 1 false (.t 125), none, 8⟩,
   ⟨some 127, .call (.t 124) [.t 126], none, 30⟩,
   ⟨some 128, .fa 25 (.t 3), none, 0⟩,
   ⟨some 129, .ld 1 false (.t 128), none, 64⟩,
   ⟨some 130, .call (.c (.fn (.func 47) [] [])) [.t 129], none, 254⟩,
   ⟨some 131, .call (.c (.fn (.func 14) [] [])) [.t 122, .t 127, .t 130], none, 511⟩])
 (.reg false [⟨some 132, .fa 0 (.t 3), none, 0⟩,
   ⟨some 133, .ld 1 false (.t 132), none, 0⟩,
   ⟨some 134, .bin .add (.t 133) (.c (.d (.v (.int .i64 1)))), none, 0⟩,
   ⟨some 135, .fa 0 (.t 3), none, 0⟩,
   ⟨none, .st 1 (.t 135) (.t 134), none, 0⟩])
def K45_8 : CC := .seq (.reg false [⟨some 137, .eq .int false (.t 46) (.c (.d (.v (.int .i64 5)))), none, 0⟩,
   ⟨some 136, .mv (.t 137), none, 0⟩])
 (.cond 136 (.seq (.seq (.reg true [⟨some 138, .mv (.t 0), none, 0⟩,
     ⟨some 139, .fa 0 (.t 7), none, 0⟩,
     ⟨some 140, .ld 1 false (.t 139), none, 2⟩,
     ⟨some 141, .fa 25 (.t 3), none, 0⟩,
     ⟨some 142, .ld 1 false (.t 141), none, 8⟩,
     ⟨some 143, .fa 25 (.t 3), none, 0⟩,
     ⟨some 144, .ld 1 false (.t 143), none, 32⟩,
     ⟨some 145, .fa 2 (.t 7), none, 0⟩,
     ⟨some 146, .ld 1 false (.t 145), none, 128⟩,
     ⟨some 147, .call (.c (.fn (.func 48) [] [])) [.t 144, .t 146], none, 480⟩,
     ⟨some 148, .call (.c (.fn (.func 43) [] [])) [.t 138, .t 140, .t 142, .t 147], none, 1023⟩])
   (.cond 148 (.seq (.reg false [⟨some 149, .mv (.t 8), none, 0⟩,
       ⟨some 150, .call (.t 149) [.c (.d (.v (.int .i64 1)))], none, 0⟩,
       ⟨some 151, .ext 0 (.t 150), none, 0⟩,
       ⟨some 152, .ext 1 (.t 150), none, 0⟩,
       ⟨some 153, .ext 2 (.t 150), none, 0⟩,
       ⟨none, .st 33 (.t 4) (.t 151), none, 0⟩,
       ⟨some 5, .mv (.t 152), none, 0⟩,
       ⟨some 6, .mv (.t 153), none, 0⟩])
     (.ret))
     (.skip)))
   (.reg false [⟨some 154, .mv (.t 9), none, 0⟩,
     ⟨some 155, .bin .add (.t 154) (.c (.d (.v (.int .i64 3)))), none, 0⟩,
     ⟨some 156, .fa 0 (.t 3), none, 0⟩,
     ⟨none, .st 1 (.t 156) (.t 155), none, 0⟩]))
   (.skip))
def K45_9 : CC := .reg false [⟨some 121, .eq .int false (.t 46) (.c (.d (.v (.int .i64 4)))), none, 0⟩,
   ⟨some 120, .mv (.t 121), none, 0⟩]
def K45_10 : CC := .reg false [⟨some 110, .eq .int false (.t 46) (.c (.d (.v (.int .i64 3)))), none, 0⟩,
   ⟨some 109, .mv (.t 110), none, 0⟩]
def K45_11 : CC := .reg false [⟨some 87, .eq .int false (.t 46) (.c (.d (.v (.int .i64 2)))), none, 0⟩,
   ⟨some 86, .mv (.t 87), none, 0⟩]
def K45_12 : CC := .reg false [⟨some 71, .eq .int false (.t 46) (.c (.d (.v (.int .i64 1)))), none, 0⟩,
   ⟨some 70, .mv (.t 71), none, 0⟩]
def K45_13 : CC := .reg false [⟨some 48, .eq .int false (.t 46) (.c (.d (.v (.int .i64 0)))), none, 0⟩,
   ⟨some 47, .mv (.t 48), none, 0⟩]
def K45_14 : CC := .reg false [⟨some 43, .fa 0 (.t 3), none, 0⟩,
   ⟨some 44, .ld 1 false (.t 43), none, 0⟩,
   ⟨some 45, .mv (.t 9), none, 0⟩,
   ⟨some 46, .bin .sub (.t 44) (.t 45), none, 0⟩]
def K45_15 : CC := .reg false [⟨some 39, .fa 0 (.t 3), none, 0⟩,
   ⟨some 40, .ld 1 false (.t 39), none, 0⟩,
   ⟨some 41, .bin .quo (.t 40) (.c (.d (.v (.int .i64 10)))), none, 0⟩,
   ⟨some 42, .bin .mul (.t 41) (.c (.d (.v (.int .i64 10)))), none, 0⟩,
   ⟨some 9, .mv (.t 42), none, 0⟩]
def K45_16 : CC := .reg false [⟨some 38, .mkf (.func 46) [] [.t 3], none, 0⟩,
   ⟨some 8, .mv (.t 38), none, 0⟩]
def K45_17 : CC := .reg false [⟨some 35, .mv (.t 0), none, 0⟩,
   ⟨some 36, .ld 33 true (.t 3), none, 0⟩,
   ⟨some 37, .call (.c (.fn (.func 45) [] [])) [.t 35, .t 36], none, 0⟩,
   ⟨some 7, .newc 95 [.d (.v (.int .i64 0)), .d (.v (.nilFunc)), .d (.v (.int .i64 0))], none, 0⟩,
   ⟨none, .st 3 (.t 7) (.t 37), none, 0⟩]
def K45_18 : CC := .reg false [⟨some 33, .mv (.t 0), none, 0⟩,
   ⟨some 34, .call (.c (.fn (.func 35) [] [])) [.t 33], none, 0⟩]
def K45_19 : CC := .cond 31 (.seq (.reg false [⟨some 32, .ld 33 true (.t 3), none, 0⟩,
     ⟨none, .st 33 (.t 4) (.t 32), none, 0⟩,
     ⟨some 5, .mv (.c (.d (.v (.int .i64 0)))), none, 0⟩,
     ⟨some 6, .mv (.c (.d (.v (.bool false)))), none, 0⟩])
   (.ret))
   (.skip)
def K45_20 : CC := .reg false [⟨some 10, .mv (.t 0), none, 0⟩,
   ⟨some 11, .eq .ptr false (.t 10) (.c (.d (.v (.pointer none)))), none, 0⟩,
   ⟨some 12, .mv (.t 11), none, 0⟩,
   ⟨some 13, .fa 0 (.t 3), some (12, false), 0⟩,
   ⟨some 14, .ld 1 false (.t 13), some (12, false), 0⟩,
   ⟨some 15, .bin .lss (.t 14) (.c (.d (.v (.int .i64 10)))), some (12, false), 0⟩,
   ⟨some 16, .pick (.t 12) (.c (.d (.v (.bool true)))) (.t 15), none, 0⟩,
   ⟨some 17, .mv (.t 16), none, 0⟩,
   ⟨some 18, .fa 0 (.t 3), some (17, false), 0⟩,
   ⟨some 19, .ld 1 false (.t 18), some (17, false), 0⟩,
   ⟨some 20, .bin .gtr (.t 19) (.c (.d (.v (.int .i64 25)))), some (17, false), 0⟩,
   ⟨some 21, .pick (.t 17) (.c (.d (.v (.bool true)))) (.t 20), none, 0⟩,
   ⟨some 22, .mv (.t 21), none, 0⟩,
   ⟨some 23, .fa 0 (.t 3), some (22, false), 0⟩,
   ⟨some 24, .ld 1 false (.t 23), some (22, false), 0⟩,
   ⟨some 25, .bin .gtr (.t 24) (.c (.d (.v (.int .i64 15)))), some (22, false), 0⟩,
   ⟨some 26, .mv (.t 25), some (22, false), 0⟩,
   ⟨some 27, .fa 0 (.t 3), some (26, true), 0⟩,
   ⟨some 28, .ld 1 false (.t 27), some (26, true), 0⟩,
   ⟨some 29, .bin .lss (.t 28) (.c (.d (.v (.int .i64 20)))), some (26, true), 0⟩,
   ⟨some 30, .pick (.t 26) (.t 29) (.c (.d (.v (.bool false)))), some (22, false), 0⟩,
   ⟨some 31, .pick (.t 22) (.c (.d (.v (.bool true)))) (.t 30), none, 0⟩]
def K45_21 : CC := .reg false [⟨some 3, .box 43 33 (.t 1), none, 0⟩,
   ⟨some 4, .newc 43 [.d (.v (.int .i64 0)), .d (.v (.int .i64 0)), .d (.v (.int .u64 0)), .d (.v (.int .u64 0)), .d (.v (.int .i64 0)), .d (.v (.bool false)), .d (.v (.int .i64 0)), .d (.v (.int .i64 0)), .d (.v (.bool false)), .d (.v (.int .u64 0)), .d (.v (.slice none 0 0)), .d (.v (.int .u64 0)), .d (.v (.slice none 0 0)), .d (.v (.int .u64 0)), .d (.v (.slice none 0 0)), .d (.v (.int .u64 0)), .d (.v (.slice none 0 0)), .d (.v (.slice none 0 0)), .d (.v (.int .i64 0)), .d (.v (.int .i64 0)), .d (.v (.int .i64 0)), .d (.v (.int .i64 0)), .d (.v (.int .i64 0)), .d (.v (.int .u64 0)), .d (.v (.int .u64 0)), .d (.v (.int .u64 0)), .d (.v (.int .u64 0)), .d (.v (.int .u64 0)), .d (.v (.int .i64 0)), .d (.v (.slice none 0 0)), .d (.v (.int .u64 0)), .d (.v (.int .i64 0)), .d (.v (.bool false))], none, 0⟩,
   ⟨some 5, .mv (.c (.d (.v (.int .i64 0)))), none, 0⟩,
   ⟨some 6, .mv (.c (.d (.v (.bool false)))), none, 0⟩]
/-- coatcheck/stack.Step -/
def C45 : CF := ⟨2, [(4, some (33, true)), (5, none), (6, none)],
 .seq K45_21 (.seq (.seq K45_20 K45_19) (.seq K45_18 (.seq K45_17 (.seq K45_16 (.seq K45_15 (.seq (.seq K45_14 (.block 0 (.seq K45_13 (.cond 47 (.seq K45_3 K45_2) (.seq K45_12 (.cond 70 K45_4 (.seq K45_11 (.cond 86 K45_5 (.seq K45_10 (.cond 109 K45_6 (.seq K45_9 (.cond 120 K45_7 K45_8)))))))))))) K45_1))))))⟩
theorem c45 : coF Try.prog Try.f25 = some C45 := by kernel_rfl
def A45 : Ann := { keep := [0, 1, 3, 4, 5, 6, 7, 8, 9, 31, 46, 47, 60, 70, 86, 101, 109, 120, 136, 148], live := [] }
def E45 {Ω : Type} : Env Ω := econs 14 S23m (econs 35 S29m (econs 45 S76 (econs 46 S77 (econs 40 S21m (econs 47 S78 (econs 43 S25m (econs 48 S79 (econs 56 S117 (econs 52 S112c (enil))))))))))
theorem e45 : GoodE Try.prog E45 := GoodE.cons g23m (GoodE.cons g29m (GoodE.cons g76 (GoodE.cons g77 (GoodE.cons g21m (GoodE.cons g78 (GoodE.cons g25m (GoodE.cons g79 (GoodE.cons g117 (GoodE.cons g112c (GoodE.nil))))))))))
end Go.Sx.Pr

/- The steps of one layer, program and document, against the pure model. -/
namespace Go.Sx.Pr
open Go Go.Sx Go.Sx.Md Go.Proofs
set_option maxRecDepth 100000
theorem nSP_any (m : Mm) (x : Wk) (t tw : Nat) (q : Int) :
    sxFn (E45 (Ω := SV × SH)) (An A45 2) C45 [.ptr 0 0, .agg (I q :: encT x)] (objs LM t tw m) (KT 2) =
    br (decide (q < 10)) (some (.tup [.agg (encW { x with line := q }), I 0, B false], (objs LM t tw m))) (br (decide (q > 25)) (some (.tup [.agg (encW { x with line := q }), I 0, B false], (objs LM t tw m))) (br (decide (q > 15)) (br (decide (q < 20)) (some (.tup [.agg (encW { x with line := q }), I 0, B false], (objs LM t tw m))) (br (decide (q < 20)) (br (w64' (q - IntKind.wrap .i64 (w64' (Int.tdiv q 10) * 10)) == 0) (br (wU (IntKind.wrap .u32 (mLoadV (mClear (m)) 1)) == 0) (some (.tup [.agg (encW { x with line := 0, H := wU (IntKind.wrap .u32 (mLoadV (mClear (m)) 1)), V := mLoadV (mClear (m)) 1 }), I 2, B true], (objs LM t tw (mLoad (mClear (m)) 1)))) (some (.tup [.agg (encW { x with line := IntKind.wrap .i64 (q + 1), H := wU (IntKind.wrap .u32 (mLoadV (mClear (m)) 1)), V := mLoadV (mClear (m)) 1 }), I 0, B true], (objs LM t tw (mLoad (mClear (m)) 1))))) (br (w64' (q - IntKind.wrap .i64 (w64' (Int.tdiv q 10) * 10)) == 1) (some (.tup [.agg (encW { x with line := IntKind.wrap .i64 (q + 1), N := mLoadV (mClear (m)) (adr (Mm.c m) 5 (w64' (w64' (Wk.H x) - 1))) }), I 0, B true], (objs LM t tw (mLoad (mClear (m)) (adr (Mm.c m) 5 (w64' (w64' (Wk.H x) - 1))))))) (br (w64' (q - IntKind.wrap .i64 (w64' (Int.tdiv q 10) * 10)) == 2) (br (uB (Wk.V x)) (br (uB (wU (Wk.V x / 4294967296 + 1))) (br (mCasB (mClear (m)) 1 (Wk.V x)) (some (.tup [.agg (encW { x with line := 0 }), I 1, B true], (objs LM t tw (mCas (mClear (m)) 1 (Wk.V x) (pHead (w64' (w64' (wU (IntKind.wrap .u32 (Wk.N x))) - 1)) (wU (Wk.V x / 4294967296 + 1))))))) (some (.tup [.agg (encW { x with line := IntKind.wrap .i64 (w64' (Int.tdiv q 10) * 10) }), I 0, B true], (objs LM t tw (mCas (mClear (m)) 1 (Wk.V x) (pHead (w64' (w64' (wU (IntKind.wrap .u32 (Wk.N x))) - 1)) (wU (Wk.V x / 4294967296 + 1)))))))) none) none) (br (w64' (q - IntKind.wrap .i64 (w64' (Int.tdiv q 10) * 10)) == 3) (some (.tup [.agg (encW { x with line := IntKind.wrap .i64 (q + 1), V := mLoadV (mClear (m)) 1 }), I 0, B true], (objs LM t tw (mLoad (mClear (m)) 1)))) (br (w64' (q - IntKind.wrap .i64 (w64' (Int.tdiv q 10) * 10)) == 4) (some (.tup [.agg (encW { x with line := IntKind.wrap .i64 (q + 1) }), I 0, B true], (objs LM t tw (mStore (mClear (m)) (adr (Mm.c m) 5 (w64' (Wk.K x - 1))) (wU (IntKind.wrap .u32 (Wk.V x))))))) (br (w64' (q - IntKind.wrap .i64 (w64' (Int.tdiv q 10) * 10)) == 5) (br (uB (Wk.V x)) (br (uB (wU (Wk.V x / 4294967296 + 1))) (br (mCasB (mClear (m)) 1 (Wk.V x)) (some (.tup [.agg (encW { x with line := 0 }), I 1, B true], (objs LM t tw (mCas (mClear (m)) 1 (Wk.V x) (pHead (w64' (Wk.K x - 1)) (wU (Wk.V x / 4294967296 + 1))))))) (some (.tup [.agg (encW { x with line := IntKind.wrap .i64 (w64' (w64' (Int.tdiv q 10) * 10) + 3) }), I 0, B true], (objs LM t tw (mCas (mClear (m)) 1 (Wk.V x) (pHead (w64' (Wk.K x - 1)) (wU (Wk.V x / 4294967296 + 1)))))))) none) none) (some (.tup [.agg (encW { x with line := q }), I 0, B true], (objs LM t tw (mClear (m))))))))))) (br (w64' (q - IntKind.wrap .i64 (w64' (Int.tdiv q 10) * 10)) == 0) (br (wU (IntKind.wrap .u32 (mLoadV (mClear (m)) 2)) == 0) (some (.tup [.agg (encW { x with line := 0, H := wU (IntKind.wrap .u32 (mLoadV (mClear (m)) 2)), V := mLoadV (mClear (m)) 2 }), I 2, B true], (objs LM t tw (mLoad (mClear (m)) 2)))) (some (.tup [.agg (encW { x with line := IntKind.wrap .i64 (q + 1), H := wU (IntKind.wrap .u32 (mLoadV (mClear (m)) 2)), V := mLoadV (mClear (m)) 2 }), I 0, B true], (objs LM t tw (mLoad (mClear (m)) 2))))) (br (w64' (q - IntKind.wrap .i64 (w64' (Int.tdiv q 10) * 10)) == 1) (some (.tup [.agg (encW { x with line := IntKind.wrap .i64 (q + 1), N := mLoadV (mClear (m)) (adr (Mm.c m) 4 (w64' (w64' (Wk.H x) - 1))) }), I 0, B true], (objs LM t tw (mLoad (mClear (m)) (adr (Mm.c m) 4 (w64' (w64' (Wk.H x) - 1))))))) (br (w64' (q - IntKind.wrap .i64 (w64' (Int.tdiv q 10) * 10)) == 2) (br (uB (Wk.V x)) (br (uB (wU (Wk.V x / 4294967296 + 1))) (br (mCasB (mClear (m)) 2 (Wk.V x)) (some (.tup [.agg (encW { x with line := 0 }), I 1, B true], (objs LM t tw (mCas (mClear (m)) 2 (Wk.V x) (pHead (w64' (w64' (wU (IntKind.wrap .u32 (Wk.N x))) - 1)) (wU (Wk.V x / 4294967296 + 1))))))) (some (.tup [.agg (encW { x with line := IntKind.wrap .i64 (w64' (Int.tdiv q 10) * 10) }), I 0, B true], (objs LM t tw (mCas (mClear (m)) 2 (Wk.V x) (pHead (w64' (w64' (wU (IntKind.wrap .u32 (Wk.N x))) - 1)) (wU (Wk.V x / 4294967296 + 1)))))))) none) none) (br (w64' (q - IntKind.wrap .i64 (w64' (Int.tdiv q 10) * 10)) == 3) (some (.tup [.agg (encW { x with line := IntKind.wrap .i64 (q + 1), V := mLoadV (mClear (m)) 2 }), I 0, B true], (objs LM t tw (mLoad (mClear (m)) 2)))) (br (w64' (q - IntKind.wrap .i64 (w64' (Int.tdiv q 10) * 10)) == 4) (some (.tup [.agg (encW { x with line := IntKind.wrap .i64 (q + 1) }), I 0, B true], (objs LM t tw (mStore (mClear (m)) (adr (Mm.c m) 4 (w64' (Wk.I x - 1))) (wU (IntKind.wrap .u32 (Wk.V x))))))) (br (w64' (q - IntKind.wrap .i64 (w64' (Int.tdiv q 10) * 10)) == 5) (br (uB (Wk.V x)) (br (uB (wU (Wk.V x / 4294967296 + 1))) (br (mCasB (mClear (m)) 2 (Wk.V x)) (some (.tup [.agg (encW { x with line := 0 }), I 1, B true], (objs LM t tw (mCas (mClear (m)) 2 (Wk.V x) (pHead (w64' (Wk.I x - 1)) (wU (Wk.V x / 4294967296 + 1))))))) (some (.tup [.agg (encW { x with line := IntKind.wrap .i64 (w64' (w64' (Int.tdiv q 10) * 10) + 3) }), I 0, B true], (objs LM t tw (mCas (mClear (m)) 2 (Wk.V x) (pHead (w64' (Wk.I x - 1)) (wU (Wk.V x / 4294967296 + 1)))))))) none) none) (some (.tup [.agg (encW { x with line := q }), I 0, B true], (objs LM t tw (mClear (m))))))))))))) (br (decide (q < 20)) (br (w64' (q - IntKind.wrap .i64 (w64' (Int.tdiv q 10) * 10)) == 0) (br (wU (IntKind.wrap .u32 (mLoadV (mClear (m)) 1)) == 0) (some (.tup [.agg (encW { x with line := 0, H := wU (IntKind.wrap .u32 (mLoadV (mClear (m)) 1)), V := mLoadV (mClear (m)) 1 }), I 2, B true], (objs LM t tw (mLoad (mClear (m)) 1)))) (some (.tup [.agg (encW { x with line := IntKind.wrap .i64 (q + 1), H := wU (IntKind.wrap .u32 (mLoadV (mClear (m)) 1)), V := mLoadV (mClear (m)) 1 }), I 0, B true], (objs LM t tw (mLoad (mClear (m)) 1))))) (br (w64' (q - IntKind.wrap .i64 (w64' (Int.tdiv q 10) * 10)) == 1) (some (.tup [.agg (encW { x with line := IntKind.wrap .i64 (q + 1), N := mLoadV (mClear (m)) (adr (Mm.c m) 5 (w64' (w64' (Wk.H x) - 1))) }), I 0, B true], (objs LM t tw (mLoad (mClear (m)) (adr (Mm.c m) 5 (w64' (w64' (Wk.H x) - 1))))))) (br (w64' (q - IntKind.wrap .i64 (w64' (Int.tdiv q 10) * 10)) == 2) (br (uB (Wk.V x)) (br (uB (wU (Wk.V x / 4294967296 + 1))) (br (mCasB (mClear (m)) 1 (Wk.V x)) (some (.tup [.agg (encW { x with line := 0 }), I 1, B true], (objs LM t tw (mCas (mClear (m)) 1 (Wk.V x) (pHead (w64' (w64' (wU (IntKind.wrap .u32 (Wk.N x))) - 1)) (wU (Wk.V x / 4294967296 + 1))))))) (some (.tup [.agg (encW { x with line := IntKind.wrap .i64 (w64' (Int.tdiv q 10) * 10) }), I 0, B true], (objs LM t tw (mCas (mClear (m)) 1 (Wk.V x) (pHead (w64' (w64' (wU (IntKind.wrap .u32 (Wk.N x))) - 1)) (wU (Wk.V x / 4294967296 + 1)))))))) none) none) (br (w64' (q - IntKind.wrap .i64 (w64' (Int.tdiv q 10) * 10)) == 3) (some (.tup [.agg (encW { x with line := IntKind.wrap .i64 (q + 1), V := mLoadV (mClear (m)) 1 }), I 0, B true], (objs LM t tw (mLoad (mClear (m)) 1)))) (br (w64' (q - IntKind.wrap .i64 (w64' (Int.tdiv q 10) * 10)) == 4) (some (.tup [.agg (encW { x with line := IntKind.wrap .i64 (q + 1) }), I 0, B true], (objs LM t tw (mStore (mClear (m)) (adr (Mm.c m) 5 (w64' (Wk.K x - 1))) (wU (IntKind.wrap .u32 (Wk.V x))))))) (br (w64' (q - IntKind.wrap .i64 (w64' (Int.tdiv q 10) * 10)) == 5) (br (uB (Wk.V x)) (br (uB (wU (Wk.V x / 4294967296 + 1))) (br (mCasB (mClear (m)) 1 (Wk.V x)) (some (.tup [.agg (encW { x with line := 0 }), I 1, B true], (objs LM t tw (mCas (mClear (m)) 1 (Wk.V x) (pHead (w64' (Wk.K x - 1)) (wU (Wk.V x / 4294967296 + 1))))))) (some (.tup [.agg (encW { x with line := IntKind.wrap .i64 (w64' (w64' (Int.tdiv q 10) * 10) + 3) }), I 0, B true], (objs LM t tw (mCas (mClear (m)) 1 (Wk.V x) (pHead (w64' (Wk.K x - 1)) (wU (Wk.V x / 4294967296 + 1)))))))) none) none) (some (.tup [.agg (encW { x with line := q }), I 0, B true], (objs LM t tw (mClear (m))))))))))) (br (w64' (q - IntKind.wrap .i64 (w64' (Int.tdiv q 10) * 10)) == 0) (br (wU (IntKind.wrap .u32 (mLoadV (mClear (m)) 2)) == 0) (some (.tup [.agg (encW { x with line := 0, H := wU (IntKind.wrap .u32 (mLoadV (mClear (m)) 2)), V := mLoadV (mClear (m)) 2 }), I 2, B true], (objs LM t tw (mLoad (mClear (m)) 2)))) (some (.tup [.agg (encW { x with line := IntKind.wrap .i64 (q + 1), H := wU (IntKind.wrap .u32 (mLoadV (mClear (m)) 2)), V := mLoadV (mClear (m)) 2 }), I 0, B true], (objs LM t tw (mLoad (mClear (m)) 2))))) (br (w64' (q - IntKind.wrap .i64 (w64' (Int.tdiv q 10) * 10)) == 1) (some (.tup [.agg (encW { x with line := IntKind.wrap .i64 (q + 1), N := mLoadV (mClear (m)) (adr (Mm.c m) 4 (w64' (w64' (Wk.H x) - 1))) }), I 0, B true], (objs LM t tw (mLoad (mClear (m)) (adr (Mm.c m) 4 (w64' (w64' (Wk.H x) - 1))))))) (br (w64' (q - IntKind.wrap .i64 (w64' (Int.tdiv q 10) * 10)) == 2) (br (uB (Wk.V x)) (br (uB (wU (Wk.V x / 4294967296 + 1))) (br (mCasB (mClear (m)) 2 (Wk.V x)) (some (.tup [.agg (encW { x with line := 0 }), I 1, B true], (objs LM t tw (mCas (mClear (m)) 2 (Wk.V x) (pHead (w64' (w64' (wU (IntKind.wrap .u32 (Wk.N x))) - 1)) (wU (Wk.V x / 4294967296 + 1))))))) (some (.tup [.agg (encW { x with line := IntKind.wrap .i64 (w64' (Int.tdiv q 10) * 10) }), I 0, B true], (objs LM t tw (mCas (mClear (m)) 2 (Wk.V x) (pHead (w64' (w64' (wU (IntKind.wrap .u32 (Wk.N x))) - 1)) (wU (Wk.V x / 4294967296 + 1)))))))) none) none) (br (w64' (q - IntKind.wrap .i64 (w64' (Int.tdiv q 10) * 10)) == 3) (some (.tup [.agg (encW { x with line := IntKind.wrap .i64 (q + 1), V := mLoadV (mClear (m)) 2 }), I 0, B true], (objs LM t tw (mLoad (mClear (m)) 2)))) (br (w64' (q - IntKind.wrap .i64 (w64' (Int.tdiv q 10) * 10)) == 4) (some (.tup [.agg (encW { x with line := IntKind.wrap .i64 (q + 1) }), I 0, B true], (objs LM t tw (mStore (mClear (m)) (adr (Mm.c m) 4 (w64' (Wk.I x - 1))) (wU (IntKind.wrap .u32 (Wk.V x))))))) (br (w64' (q - IntKind.wrap .i64 (w64' (Int.tdiv q 10) * 10)) == 5) (br (uB (Wk.V x)) (br (uB (wU (Wk.V x / 4294967296 + 1))) (br (mCasB (mClear (m)) 2 (Wk.V x)) (some (.tup [.agg (encW { x with line := 0 }), I 1, B true], (objs LM t tw (mCas (mClear (m)) 2 (Wk.V x) (pHead (w64' (Wk.I x - 1)) (wU (Wk.V x / 4294967296 + 1))))))) (some (.tup [.agg (encW { x with line := IntKind.wrap .i64 (w64' (w64' (Int.tdiv q 10) * 10) + 3) }), I 0, B true], (objs LM t tw (mCas (mClear (m)) 2 (Wk.V x) (pHead (w64' (Wk.I x - 1)) (wU (Wk.V x / 4294967296 + 1)))))))) none) none) (some (.tup [.agg (encW { x with line := q }), I 0, B true], (objs LM t tw (mClear (m)))))))))))))) := by kernel_rfl
theorem nSP_10 (m : Mm) (x : Wk) (t tw : Nat) :
    sxFn (E45 (Ω := SV × SH)) (An A45 2) C45 [.ptr 0 0, .agg (I 10 :: encT x)] (objs LM t tw m) (KT 2) =
    br (wU (IntKind.wrap .u32 (mLoadV (mClear (m)) 1)) == 0) (some (.tup [.agg (encW { x with line := 0, H := wU (IntKind.wrap .u32 (mLoadV (mClear (m)) 1)), V := mLoadV (mClear (m)) 1 }), I 2, B true], (objs LM t tw (mLoad (mClear (m)) 1)))) (some (.tup [.agg (encW { x with line := 11, H := wU (IntKind.wrap .u32 (mLoadV (mClear (m)) 1)), V := mLoadV (mClear (m)) 1 }), I 0, B true], (objs LM t tw (mLoad (mClear (m)) 1)))) := by kernel_rfl
theorem nSP_14 (m : Mm) (x : Wk) (t tw : Nat) :
    sxFn (E45 (Ω := SV × SH)) (An A45 2) C45 [.ptr 0 0, .agg (I 14 :: encT x)] (objs LM t tw m) (KT 2) =
    some (.tup [.agg (encW { x with line := 15 }), I 0, B true], (objs LM t tw (mStore (mClear (m)) (adr (Mm.c m) 5 (w64' (Wk.K x - 1))) (wU (IntKind.wrap .u32 (Wk.V x)))))) := by kernel_rfl
theorem nSP_22 (m : Mm) (x : Wk) (t tw : Nat) :
    sxFn (E45 (Ω := SV × SH)) (An A45 2) C45 [.ptr 0 0, .agg (I 22 :: encT x)] (objs LM t tw m) (KT 2) =
    br (uB (Wk.V x)) (br (uB (wU (Wk.V x / 4294967296 + 1))) (br (mCasB (mClear (m)) 2 (Wk.V x)) (some (.tup [.agg (encW { x with line := 0 }), I 1, B true], (objs LM t tw (mCas (mClear (m)) 2 (Wk.V x) (pHead (w64' (w64' (wU (IntKind.wrap .u32 (Wk.N x))) - 1)) (wU (Wk.V x / 4294967296 + 1))))))) (some (.tup [.agg (encW { x with line := 20 }), I 0, B true], (objs LM t tw (mCas (mClear (m)) 2 (Wk.V x) (pHead (w64' (w64' (wU (IntKind.wrap .u32 (Wk.N x))) - 1)) (wU (Wk.V x / 4294967296 + 1)))))))) none) none := by kernel_rfl
theorem nSP_11 (m : Mm) (x : Wk) (t tw : Nat) :
    sxFn (E45 (Ω := SV × SH)) (An A45 2) C45 [.ptr 0 0, .agg (I 11 :: encT x)] (objs LM t tw m) (KT 2) =
    some (.tup [.agg (encW { x with line := 12, N := mLoadV (mClear (m)) (adr (Mm.c m) 5 (w64' (w64' (Wk.H x) - 1))) }), I 0, B true], (objs LM t tw (mLoad (mClear (m)) (adr (Mm.c m) 5 (w64' (w64' (Wk.H x) - 1)))))) := by kernel_rfl
theorem nSP_15 (m : Mm) (x : Wk) (t tw : Nat) :
    sxFn (E45 (Ω := SV × SH)) (An A45 2) C45 [.ptr 0 0, .agg (I 15 :: encT x)] (objs LM t tw m) (KT 2) =
    br (uB (Wk.V x)) (br (uB (wU (Wk.V x / 4294967296 + 1))) (br (mCasB (mClear (m)) 1 (Wk.V x)) (some (.tup [.agg (encW { x with line := 0 }), I 1, B true], (objs LM t tw (mCas (mClear (m)) 1 (Wk.V x) (pHead (w64' (Wk.K x - 1)) (wU (Wk.V x / 4294967296 + 1))))))) (some (.tup [.agg (encW { x with line := 13 }), I 0, B true], (objs LM t tw (mCas (mClear (m)) 1 (Wk.V x) (pHead (w64' (Wk.K x - 1)) (wU (Wk.V x / 4294967296 + 1)))))))) none) none := by kernel_rfl
theorem nSP_23 (m : Mm) (x : Wk) (t tw : Nat) :
    sxFn (E45 (Ω := SV × SH)) (An A45 2) C45 [.ptr 0 0, .agg (I 23 :: encT x)] (objs LM t tw m) (KT 2) =
    some (.tup [.agg (encW { x with line := 24, V := mLoadV (mClear (m)) 2 }), I 0, B true], (objs LM t tw (mLoad (mClear (m)) 2))) := by kernel_rfl
theorem nSP_12 (m : Mm) (x : Wk) (t tw : Nat) :
    sxFn (E45 (Ω := SV × SH)) (An A45 2) C45 [.ptr 0 0, .agg (I 12 :: encT x)] (objs LM t tw m) (KT 2) =
    br (uB (Wk.V x)) (br (uB (wU (Wk.V x / 4294967296 + 1))) (br (mCasB (mClear (m)) 1 (Wk.V x)) (some (.tup [.agg (encW { x with line := 0 }), I 1, B true], (objs LM t tw (mCas (mClear (m)) 1 (Wk.V x) (pHead (w64' (w64' (wU (IntKind.wrap .u32 (Wk.N x))) - 1)) (wU (Wk.V x / 4294967296 + 1))))))) (some (.tup [.agg (encW { x with line := 10 }), I 0, B true], (objs LM t tw (mCas (mClear (m)) 1 (Wk.V x) (pHead (w64' (w64' (wU (IntKind.wrap .u32 (Wk.N x))) - 1)) (wU (Wk.V x / 4294967296 + 1)))))))) none) none := by kernel_rfl
theorem nSP_20 (m : Mm) (x : Wk) (t tw : Nat) :
    sxFn (E45 (Ω := SV × SH)) (An A45 2) C45 [.ptr 0 0, .agg (I 20 :: encT x)] (objs LM t tw m) (KT 2) =
    br (wU (IntKind.wrap .u32 (mLoadV (mClear (m)) 2)) == 0) (some (.tup [.agg (encW { x with line := 0, H := wU (IntKind.wrap .u32 (mLoadV (mClear (m)) 2)), V := mLoadV (mClear (m)) 2 }), I 2, B true], (objs LM t tw (mLoad (mClear (m)) 2)))) (some (.tup [.agg (encW { x with line := 21, H := wU (IntKind.wrap .u32 (mLoadV (mClear (m)) 2)), V := mLoadV (mClear (m)) 2 }), I 0, B true], (objs LM t tw (mLoad (mClear (m)) 2)))) := by kernel_rfl
theorem nSP_24 (m : Mm) (x : Wk) (t tw : Nat) :
    sxFn (E45 (Ω := SV × SH)) (An A45 2) C45 [.ptr 0 0, .agg (I 24 :: encT x)] (objs LM t tw m) (KT 2) =
    some (.tup [.agg (encW { x with line := 25 }), I 0, B true], (objs LM t tw (mStore (mClear (m)) (adr (Mm.c m) 4 (w64' (Wk.I x - 1))) (wU (IntKind.wrap .u32 (Wk.V x)))))) := by kernel_rfl
theorem nSP_13 (m : Mm) (x : Wk) (t tw : Nat) :
    sxFn (E45 (Ω := SV × SH)) (An A45 2) C45 [.ptr 0 0, .agg (I 13 :: encT x)] (objs LM t tw m) (KT 2) =
    some (.tup [.agg (encW { x with line := 14, V := mLoadV (mClear (m)) 1 }), I 0, B true], (objs LM t tw (mLoad (mClear (m)) 1))) := by kernel_rfl
theorem nSP_21 (m : Mm) (x : Wk) (t tw : Nat) :
    sxFn (E45 (Ω := SV × SH)) (An A45 2) C45 [.ptr 0 0, .agg (I 21 :: encT x)] (objs LM t tw m) (KT 2) =
    some (.tup [.agg (encW { x with line := 22, N := mLoadV (mClear (m)) (adr (Mm.c m) 4 (w64' (w64' (Wk.H x) - 1))) }), I 0, B true], (objs LM t tw (mLoad (mClear (m)) (adr (Mm.c m) 4 (w64' (w64' (Wk.H x) - 1)))))) := by kernel_rfl
theorem nSP_25 (m : Mm) (x : Wk) (t tw : Nat) :
    sxFn (E45 (Ω := SV × SH)) (An A45 2) C45 [.ptr 0 0, .agg (I 25 :: encT x)] (objs LM t tw m) (KT 2) =
    br (uB (Wk.V x)) (br (uB (wU (Wk.V x / 4294967296 + 1))) (br (mCasB (mClear (m)) 2 (Wk.V x)) (some (.tup [.agg (encW { x with line := 0 }), I 1, B true], (objs LM t tw (mCas (mClear (m)) 2 (Wk.V x) (pHead (w64' (Wk.I x - 1)) (wU (Wk.V x / 4294967296 + 1))))))) (some (.tup [.agg (encW { x with line := 23 }), I 0, B true], (objs LM t tw (mCas (mClear (m)) 2 (Wk.V x) (pHead (w64' (Wk.I x - 1)) (wU (Wk.V x / 4294967296 + 1)))))))) none) none := by kernel_rfl
abbrev OSP (q : Int) : Prop := ∀ (m : Mm) (x : Wk) (t tw : TypeId), sxFn (E45 (Ω := SV × SH)) (An A45 2) C45 [.ptr 0 0, .agg (I q :: encT x)] (objs LM t tw m) (KT 2) = some (.tup [.agg (I q :: encT x), I 0, B false], objs LM t tw m)
theorem oSP_neg (n : Nat) : OSP (Int.negSucc n) := fun m x t tw => by
  have hq : Int.negSucc n < 0 := Int.negSucc_lt_zero n
  generalize (Int.negSucc n : Int) = q at hq ⊢
  rw [nSP_any]
  simp only [decide_eq_true (show q < 10 by omega), decide_eq_true (show q ≤ 10 by omega), decide_eq_false (show ¬ q > 10 by omega), decide_eq_false (show ¬ q ≥ 10 by omega), decide_eq_true (show q < 15 by omega), decide_eq_true (show q ≤ 15 by omega), decide_eq_false (show ¬ q > 15 by omega), decide_eq_false (show ¬ q ≥ 15 by omega), decide_eq_true (show q < 20 by omega), decide_eq_true (show q ≤ 20 by omega), decide_eq_false (show ¬ q > 20 by omega), decide_eq_false (show ¬ q ≥ 20 by omega), decide_eq_true (show q < 25 by omega), decide_eq_true (show q ≤ 25 by omega), decide_eq_false (show ¬ q > 25 by omega), decide_eq_false (show ¬ q ≥ 25 by omega), br_t, br_f]
  all_goals rfl
theorem oSP_top (n : Nat) : OSP (Int.ofNat (n + 26)) := fun m x t tw => by
  have hq : Int.ofNat (n + 26) ≥ 26 := by simp only [ge_iff_le, Int.ofNat_eq_natCast]; omega
  generalize (Int.ofNat (n + 26) : Int) = q at hq ⊢
  rw [nSP_any]
  simp only [decide_eq_false (show ¬ q < 10 by omega), decide_eq_false (show ¬ q ≤ 10 by omega), decide_eq_true (show q > 10 by omega), decide_eq_true (show q ≥ 10 by omega), decide_eq_false (show ¬ q < 15 by omega), decide_eq_false (show ¬ q ≤ 15 by omega), decide_eq_true (show q > 15 by omega), decide_eq_true (show q ≥ 15 by omega), decide_eq_false (show ¬ q < 20 by omega), decide_eq_false (show ¬ q ≤ 20 by omega), decide_eq_true (show q > 20 by omega), decide_eq_true (show q ≥ 20 by omega), decide_eq_false (show ¬ q < 25 by omega), decide_eq_false (show ¬ q ≤ 25 by omega), decide_eq_true (show q > 25 by omega), decide_eq_true (show q ≥ 25 by omega), br_t, br_f]
  all_goals rfl
theorem oSP_0 : OSP (Int.ofNat 0) := fun m x t tw => by kernel_rfl
theorem oSP_1 : OSP (Int.ofNat 1) := fun m x t tw => by kernel_rfl
theorem oSP_2 : OSP (Int.ofNat 2) := fun m x t tw => by kernel_rfl
theorem oSP_3 : OSP (Int.ofNat 3) := fun m x t tw => by kernel_rfl
theorem oSP_4 : OSP (Int.ofNat 4) := fun m x t tw => by kernel_rfl
theorem oSP_5 : OSP (Int.ofNat 5) := fun m x t tw => by kernel_rfl
theorem oSP_6 : OSP (Int.ofNat 6) := fun m x t tw => by kernel_rfl
theorem oSP_7 : OSP (Int.ofNat 7) := fun m x t tw => by kernel_rfl
theorem oSP_8 : OSP (Int.ofNat 8) := fun m x t tw => by kernel_rfl
theorem oSP_9 : OSP (Int.ofNat 9) := fun m x t tw => by kernel_rfl
theorem oSP_16 : OSP (Int.ofNat 16) := fun m x t tw => by kernel_rfl
theorem oSP_17 : OSP (Int.ofNat 17) := fun m x t tw => by kernel_rfl
theorem oSP_18 : OSP (Int.ofNat 18) := fun m x t tw => by kernel_rfl
theorem oSP_19 : OSP (Int.ofNat 19) := fun m x t tw => by kernel_rfl
theorem mS_no {m : Mm} {x : Wk} (h : x.line ≠ 10 ∧ x.line ≠ 11 ∧ x.line ≠ 12 ∧ x.line ≠ 13 ∧ x.line ≠ 14 ∧ x.line ≠ 15 ∧ x.line ≠ 20 ∧ x.line ≠ 21 ∧ x.line ≠ 22 ∧ x.line ≠ 23 ∧ x.line ≠ 24 ∧ x.line ≠ 25) : stepS m x = ⟨m, x, 0, false⟩ := by
  have h1 : ¬ (10 ≤ x.line ∧ x.line ≤ 15) := by omega
  have h2 : ¬ (20 ≤ x.line ∧ x.line ≤ 25) := by omega
  simp only [stepS, h1, h2, ↓reduceIte]
theorem vSP_10 {m : Mm} {x : Wk} {t tw : TypeId} (hm : okM m = true) (hx : okW x = true) : sxFn (E45 (Ω := SV × SH)) (An A45 2) C45 [.ptr 0 0, .agg (I 10 :: encT x)] (objs LM t tw m) (KT 2) = some (.tup [.agg (encW (stepS m { x with line := 10 }).x), I (stepS m { x with line := 10 }).way, B (stepS m { x with line := 10 }).ok], objs LM t tw (stepS m { x with line := 10 }).m) := by
  obtain ⟨b1, b2, b3, b4, b5, b6, b7, b8, b9, b10, b11, b12⟩ := okW_all hx
  have hu := okM_u hm
  rw [nSP_10]
  try simp only [clrV, clrL, clrS, clrB, clrC, clrA, clrAV, b1, b2, b3, b4, b5, b6, b7, b8, b9, b10, b11, b12, uB_load hu, tmod_load hu, tdiv_load hu (show (0 : Int) < 2 by decide), cfg_a1 hm, low32, w64_low, vers b9, uB_vers b9, nn (uB_load hu), nn b3, nn b8, nn b9, nn b11, nn b12, ge_iff_le, Bool.and_true, Bool.true_and, br_t]
  simp only [stepS, Int.reduceEq, ↓reduceIte, stepL, Int.reduceLE, and_self, and_true, and_false, Int.reduceAdd]
  cases h0 : (mLoadV m 1 % 4294967296 == 0) <;> simp only [h0, br_t, br_f, cond_true, cond_false, Bool.not_true, Bool.not_false, Bool.true_and, Bool.false_and, Bool.and_true, Bool.and_false] <;> first | rfl | (rw [eq_of_beq h0]; done) | (rw [eq_of_beq h0]; rfl)
theorem vSP_11 {m : Mm} {x : Wk} {t tw : TypeId} (hm : okM m = true) (hx : okW x = true) : sxFn (E45 (Ω := SV × SH)) (An A45 2) C45 [.ptr 0 0, .agg (I 11 :: encT x)] (objs LM t tw m) (KT 2) = some (.tup [.agg (encW (stepS m { x with line := 11 }).x), I (stepS m { x with line := 11 }).way, B (stepS m { x with line := 11 }).ok], objs LM t tw (stepS m { x with line := 11 }).m) := by
  obtain ⟨b1, b2, b3, b4, b5, b6, b7, b8, b9, b10, b11, b12⟩ := okW_all hx
  have hu := okM_u hm
  rw [nSP_11]
  try simp only [clrV, clrL, clrS, clrB, clrC, clrA, clrAV, b1, b2, b3, b4, b5, b6, b7, b8, b9, b10, b11, b12, uB_load hu, tmod_load hu, tdiv_load hu (show (0 : Int) < 2 by decide), cfg_a1 hm, low32, w64_low, vers b9, uB_vers b9, nn (uB_load hu), nn b3, nn b8, nn b9, nn b11, nn b12, ge_iff_le, Bool.and_true, Bool.true_and, br_t]
  simp only [stepS, Int.reduceEq, ↓reduceIte, stepL, Int.reduceLE, and_self, and_true, and_false, Int.reduceAdd]
  all_goals rfl
theorem vSP_12 {m : Mm} {x : Wk} {t tw : TypeId} (hm : okM m = true) (hx : okW x = true) : sxFn (E45 (Ω := SV × SH)) (An A45 2) C45 [.ptr 0 0, .agg (I 12 :: encT x)] (objs LM t tw m) (KT 2) = some (.tup [.agg (encW (stepS m { x with line := 12 }).x), I (stepS m { x with line := 12 }).way, B (stepS m { x with line := 12 }).ok], objs LM t tw (stepS m { x with line := 12 }).m) := by
  obtain ⟨b1, b2, b3, b4, b5, b6, b7, b8, b9, b10, b11, b12⟩ := okW_all hx
  have hu := okM_u hm
  rw [nSP_12]
  try simp only [clrV, clrL, clrS, clrB, clrC, clrA, clrAV, b1, b2, b3, b4, b5, b6, b7, b8, b9, b10, b11, b12, uB_load hu, tmod_load hu, tdiv_load hu (show (0 : Int) < 2 by decide), cfg_a1 hm, low32, w64_low, vers b9, uB_vers b9, nn (uB_load hu), nn b3, nn b8, nn b9, nn b11, nn b12, ge_iff_le, Bool.and_true, Bool.true_and, br_t]
  simp only [stepS, Int.reduceEq, ↓reduceIte, stepL, Int.reduceLE, and_self, and_true, and_false, Int.reduceAdd]
  cases h0 : (mCasB m 1 x.V) <;> simp only [h0, br_t, br_f, cond_true, cond_false, Bool.not_true, Bool.not_false, Bool.true_and, Bool.false_and, Bool.and_true, Bool.and_false] <;> first | rfl | (rw [eq_of_beq h0]; done) | (rw [eq_of_beq h0]; rfl)
theorem vSP_13 {m : Mm} {x : Wk} {t tw : TypeId} (hm : okM m = true) (hx : okW x = true) : sxFn (E45 (Ω := SV × SH)) (An A45 2) C45 [.ptr 0 0, .agg (I 13 :: encT x)] (objs LM t tw m) (KT 2) = some (.tup [.agg (encW (stepS m { x with line := 13 }).x), I (stepS m { x with line := 13 }).way, B (stepS m { x with line := 13 }).ok], objs LM t tw (stepS m { x with line := 13 }).m) := by
  obtain ⟨b1, b2, b3, b4, b5, b6, b7, b8, b9, b10, b11, b12⟩ := okW_all hx
  have hu := okM_u hm
  rw [nSP_13]
  try simp only [clrV, clrL, clrS, clrB, clrC, clrA, clrAV, b1, b2, b3, b4, b5, b6, b7, b8, b9, b10, b11, b12, uB_load hu, tmod_load hu, tdiv_load hu (show (0 : Int) < 2 by decide), cfg_a1 hm, low32, w64_low, vers b9, uB_vers b9, nn (uB_load hu), nn b3, nn b8, nn b9, nn b11, nn b12, ge_iff_le, Bool.and_true, Bool.true_and, br_t]
  simp only [stepS, Int.reduceEq, ↓reduceIte, stepL, Int.reduceLE, and_self, and_true, and_false, Int.reduceAdd]
  all_goals rfl
theorem vSP_14 {m : Mm} {x : Wk} {t tw : TypeId} (hm : okM m = true) (hx : okW x = true) : sxFn (E45 (Ω := SV × SH)) (An A45 2) C45 [.ptr 0 0, .agg (I 14 :: encT x)] (objs LM t tw m) (KT 2) = some (.tup [.agg (encW (stepS m { x with line := 14 }).x), I (stepS m { x with line := 14 }).way, B (stepS m { x with line := 14 }).ok], objs LM t tw (stepS m { x with line := 14 }).m) := by
  obtain ⟨b1, b2, b3, b4, b5, b6, b7, b8, b9, b10, b11, b12⟩ := okW_all hx
  have hu := okM_u hm
  rw [nSP_14]
  try simp only [clrV, clrL, clrS, clrB, clrC, clrA, clrAV, b1, b2, b3, b4, b5, b6, b7, b8, b9, b10, b11, b12, uB_load hu, tmod_load hu, tdiv_load hu (show (0 : Int) < 2 by decide), cfg_a1 hm, low32, w64_low, vers b9, uB_vers b9, nn (uB_load hu), nn b3, nn b8, nn b9, nn b11, nn b12, ge_iff_le, Bool.and_true, Bool.true_and, br_t]
  simp only [stepS, Int.reduceEq, ↓reduceIte, stepL, Int.reduceLE, and_self, and_true, and_false, Int.reduceAdd]
  all_goals rfl
theorem vSP_15 {m : Mm} {x : Wk} {t tw : TypeId} (hm : okM m = true) (hx : okW x = true) : sxFn (E45 (Ω := SV × SH)) (An A45 2) C45 [.ptr 0 0, .agg (I 15 :: encT x)] (objs LM t tw m) (KT 2) = some (.tup [.agg (encW (stepS m { x with line := 15 }).x), I (stepS m { x with line := 15 }).way, B (stepS m { x with line := 15 }).ok], objs LM t tw (stepS m { x with line := 15 }).m) := by
  obtain ⟨b1, b2, b3, b4, b5, b6, b7, b8, b9, b10, b11, b12⟩ := okW_all hx
  have hu := okM_u hm
  rw [nSP_15]
  try simp only [clrV, clrL, clrS, clrB, clrC, clrA, clrAV, b1, b2, b3, b4, b5, b6, b7, b8, b9, b10, b11, b12, uB_load hu, tmod_load hu, tdiv_load hu (show (0 : Int) < 2 by decide), cfg_a1 hm, low32, w64_low, vers b9, uB_vers b9, nn (uB_load hu), nn b3, nn b8, nn b9, nn b11, nn b12, ge_iff_le, Bool.and_true, Bool.true_and, br_t]
  simp only [stepS, Int.reduceEq, ↓reduceIte, stepL, Int.reduceLE, and_self, and_true, and_false, Int.reduceAdd]
  cases h0 : (mCasB m 1 x.V) <;> simp only [h0, br_t, br_f, cond_true, cond_false, Bool.not_true, Bool.not_false, Bool.true_and, Bool.false_and, Bool.and_true, Bool.and_false] <;> first | rfl | (rw [eq_of_beq h0]; done) | (rw [eq_of_beq h0]; rfl)
theorem vSP_20 {m : Mm} {x : Wk} {t tw : TypeId} (hm : okM m = true) (hx : okW x = true) : sxFn (E45 (Ω := SV × SH)) (An A45 2) C45 [.ptr 0 0, .agg (I 20 :: encT x)] (objs LM t tw m) (KT 2) = some (.tup [.agg (encW (stepS m { x with line := 20 }).x), I (stepS m { x with line := 20 }).way, B (stepS m { x with line := 20 }).ok], objs LM t tw (stepS m { x with line := 20 }).m) := by
  obtain ⟨b1, b2, b3, b4, b5, b6, b7, b8, b9, b10, b11, b12⟩ := okW_all hx
  have hu := okM_u hm
  rw [nSP_20]
  try simp only [clrV, clrL, clrS, clrB, clrC, clrA, clrAV, b1, b2, b3, b4, b5, b6, b7, b8, b9, b10, b11, b12, uB_load hu, tmod_load hu, tdiv_load hu (show (0 : Int) < 2 by decide), cfg_a1 hm, low32, w64_low, vers b9, uB_vers b9, nn (uB_load hu), nn b3, nn b8, nn b9, nn b11, nn b12, ge_iff_le, Bool.and_true, Bool.true_and, br_t]
  simp only [stepS, Int.reduceEq, ↓reduceIte, stepL, Int.reduceLE, and_self, and_true, and_false, Int.reduceAdd]
  cases h0 : (mLoadV m 2 % 4294967296 == 0) <;> simp only [h0, br_t, br_f, cond_true, cond_false, Bool.not_true, Bool.not_false, Bool.true_and, Bool.false_and, Bool.and_true, Bool.and_false] <;> first | rfl | (rw [eq_of_beq h0]; done) | (rw [eq_of_beq h0]; rfl)
theorem vSP_21 {m : Mm} {x : Wk} {t tw : TypeId} (hm : okM m = true) (hx : okW x = true) : sxFn (E45 (Ω := SV × SH)) (An A45 2) C45 [.ptr 0 0, .agg (I 21 :: encT x)] (objs LM t tw m) (KT 2) = some (.tup [.agg (encW (stepS m { x with line := 21 }).x), I (stepS m { x with line := 21 }).way, B (stepS m { x with line := 21 }).ok], objs LM t tw (stepS m { x with line := 21 }).m) := by
  obtain ⟨b1, b2, b3, b4, b5, b6, b7, b8, b9, b10, b11, b12⟩ := okW_all hx
  have hu := okM_u hm
  rw [nSP_21]
  try simp only [clrV, clrL, clrS, clrB, clrC, clrA, clrAV, b1, b2, b3, b4, b5, b6, b7, b8, b9, b10, b11, b12, uB_load hu, tmod_load hu, tdiv_load hu (show (0 : Int) < 2 by decide), cfg_a1 hm, low32, w64_low, vers b9, uB_vers b9, nn (uB_load hu), nn b3, nn b8, nn b9, nn b11, nn b12, ge_iff_le, Bool.and_true, Bool.true_and, br_t]
  simp only [stepS, Int.reduceEq, ↓reduceIte, stepL, Int.reduceLE, and_self, and_true, and_false, Int.reduceAdd]
  all_goals rfl
theorem vSP_22 {m : Mm} {x : Wk} {t tw : TypeId} (hm : okM m = true) (hx : okW x = true) : sxFn (E45 (Ω := SV × SH)) (An A45 2) C45 [.ptr 0 0, .agg (I 22 :: encT x)] (objs LM t tw m) (KT 2) = some (.tup [.agg (encW (stepS m { x with line := 22 }).x), I (stepS m { x with line := 22 }).way, B (stepS m { x with line := 22 }).ok], objs LM t tw (stepS m { x with line := 22 }).m) := by
  obtain ⟨b1, b2, b3, b4, b5, b6, b7, b8, b9, b10, b11, b12⟩ := okW_all hx
  have hu := okM_u hm
  rw [nSP_22]
  try simp only [clrV, clrL, clrS, clrB, clrC, clrA, clrAV, b1, b2, b3, b4, b5, b6, b7, b8, b9, b10, b11, b12, uB_load hu, tmod_load hu, tdiv_load hu (show (0 : Int) < 2 by decide), cfg_a1 hm, low32, w64_low, vers b9, uB_vers b9, nn (uB_load hu), nn b3, nn b8, nn b9, nn b11, nn b12, ge_iff_le, Bool.and_true, Bool.true_and, br_t]
  simp only [stepS, Int.reduceEq, ↓reduceIte, stepL, Int.reduceLE, and_self, and_true, and_false, Int.reduceAdd]
  cases h0 : (mCasB m 2 x.V) <;> simp only [h0, br_t, br_f, cond_true, cond_false, Bool.not_true, Bool.not_false, Bool.true_and, Bool.false_and, Bool.and_true, Bool.and_false] <;> first | rfl | (rw [eq_of_beq h0]; done) | (rw [eq_of_beq h0]; rfl)
theorem vSP_23 {m : Mm} {x : Wk} {t tw : TypeId} (hm : okM m = true) (hx : okW x = true) : sxFn (E45 (Ω := SV × SH)) (An A45 2) C45 [.ptr 0 0, .agg (I 23 :: encT x)] (objs LM t tw m) (KT 2) = some (.tup [.agg (encW (stepS m { x with line := 23 }).x), I (stepS m { x with line := 23 }).way, B (stepS m { x with line := 23 }).ok], objs LM t tw (stepS m { x with line := 23 }).m) := by
  obtain ⟨b1, b2, b3, b4, b5, b6, b7, b8, b9, b10, b11, b12⟩ := okW_all hx
  have hu := okM_u hm
  rw [nSP_23]
  try simp only [clrV, clrL, clrS, clrB, clrC, clrA, clrAV, b1, b2, b3, b4, b5, b6, b7, b8, b9, b10, b11, b12, uB_load hu, tmod_load hu, tdiv_load hu (show (0 : Int) < 2 by decide), cfg_a1 hm, low32, w64_low, vers b9, uB_vers b9, nn (uB_load hu), nn b3, nn b8, nn b9, nn b11, nn b12, ge_iff_le, Bool.and_true, Bool.true_and, br_t]
  simp only [stepS, Int.reduceEq, ↓reduceIte, stepL, Int.reduceLE, and_self, and_true, and_false, Int.reduceAdd]
  all_goals rfl
theorem vSP_24 {m : Mm} {x : Wk} {t tw : TypeId} (hm : okM m = true) (hx : okW x = true) : sxFn (E45 (Ω := SV × SH)) (An A45 2) C45 [.ptr 0 0, .agg (I 24 :: encT x)] (objs LM t tw m) (KT 2) = some (.tup [.agg (encW (stepS m { x with line := 24 }).x), I (stepS m { x with line := 24 }).way, B (stepS m { x with line := 24 }).ok], objs LM t tw (stepS m { x with line := 24 }).m) := by
  obtain ⟨b1, b2, b3, b4, b5, b6, b7, b8, b9, b10, b11, b12⟩ := okW_all hx
  have hu := okM_u hm
  rw [nSP_24]
  try simp only [clrV, clrL, clrS, clrB, clrC, clrA, clrAV, b1, b2, b3, b4, b5, b6, b7, b8, b9, b10, b11, b12, uB_load hu, tmod_load hu, tdiv_load hu (show (0 : Int) < 2 by decide), cfg_a1 hm, low32, w64_low, vers b9, uB_vers b9, nn (uB_load hu), nn b3, nn b8, nn b9, nn b11, nn b12, ge_iff_le, Bool.and_true, Bool.true_and, br_t]
  simp only [stepS, Int.reduceEq, ↓reduceIte, stepL, Int.reduceLE, and_self, and_true, and_false, Int.reduceAdd]
  all_goals rfl
theorem vSP_25 {m : Mm} {x : Wk} {t tw : TypeId} (hm : okM m = true) (hx : okW x = true) : sxFn (E45 (Ω := SV × SH)) (An A45 2) C45 [.ptr 0 0, .agg (I 25 :: encT x)] (objs LM t tw m) (KT 2) = some (.tup [.agg (encW (stepS m { x with line := 25 }).x), I (stepS m { x with line := 25 }).way, B (stepS m { x with line := 25 }).ok], objs LM t tw (stepS m { x with line := 25 }).m) := by
  obtain ⟨b1, b2, b3, b4, b5, b6, b7, b8, b9, b10, b11, b12⟩ := okW_all hx
  have hu := okM_u hm
  rw [nSP_25]
  try simp only [clrV, clrL, clrS, clrB, clrC, clrA, clrAV, b1, b2, b3, b4, b5, b6, b7, b8, b9, b10, b11, b12, uB_load hu, tmod_load hu, tdiv_load hu (show (0 : Int) < 2 by decide), cfg_a1 hm, low32, w64_low, vers b9, uB_vers b9, nn (uB_load hu), nn b3, nn b8, nn b9, nn b11, nn b12, ge_iff_le, Bool.and_true, Bool.true_and, br_t]
  simp only [stepS, Int.reduceEq, ↓reduceIte, stepL, Int.reduceLE, and_self, and_true, and_false, Int.reduceAdd]
  cases h0 : (mCasB m 2 x.V) <;> simp only [h0, br_t, br_f, cond_true, cond_false, Bool.not_true, Bool.not_false, Bool.true_and, Bool.false_and, Bool.and_true, Bool.and_false] <;> first | rfl | (rw [eq_of_beq h0]; done) | (rw [eq_of_beq h0]; rfl)
theorem vSP {m : Mm} {x : Wk} {t tw : TypeId} (hm : okM m = true) (hx : okW x = true) : sxFn (E45 (Ω := SV × SH)) (An A45 2) C45 [.ptr 0 0, .agg (encW x)] (objs LM t tw m) (KT 2) = some (.tup [.agg (encW (stepS m x).x), I (stepS m x).way, B (stepS m x).ok], objs LM t tw (stepS m x).m) := by
  have no : ∀ q : Int, x.line = q → OSP q → (x.line ≠ 10 ∧ x.line ≠ 11 ∧ x.line ≠ 12 ∧ x.line ≠ 13 ∧ x.line ≠ 14 ∧ x.line ≠ 15 ∧ x.line ≠ 20 ∧ x.line ≠ 21 ∧ x.line ≠ 22 ∧ x.line ≠ 23 ∧ x.line ≠ 24 ∧ x.line ≠ 25) → sxFn (E45 (Ω := SV × SH)) (An A45 2) C45 [.ptr 0 0, .agg (encW x)] (objs LM t tw m) (KT 2) = some (.tup [.agg (encW (stepS m x).x), I (stepS m x).way, B (stepS m x).ok], objs LM t tw (stepS m x).m) := fun q hq ho hn => by
    rw [mS_no hn]
    have := ho m x t tw
    rw [← hq] at this
    exact this
  have ye : ∀ q : Int, x.line = q → (sxFn (E45 (Ω := SV × SH)) (An A45 2) C45 [.ptr 0 0, .agg (I q :: encT x)] (objs LM t tw m) (KT 2) = some (.tup [.agg (encW (stepS m { x with line := q }).x), I (stepS m { x with line := q }).way, B (stepS m { x with line := q }).ok], objs LM t tw (stepS m { x with line := q }).m)) → sxFn (E45 (Ω := SV × SH)) (An A45 2) C45 [.ptr 0 0, .agg (encW x)] (objs LM t tw m) (KT 2) = some (.tup [.agg (encW (stepS m x).x), I (stepS m x).way, B (stepS m x).ok], objs LM t tw (stepS m x).m) := fun q hq h => by
    have e1 : { x with line := q } = x := by rw [← hq]
    have e : I q :: encT x = encW x := by simp only [encW]; rw [hq]
    rw [e1, e] at h
    exact h
  rcases hl : x.line with n | n
  · by_cases hn : 26 ≤ n
    · obtain ⟨k, rfl⟩ : ∃ k, n = k + 26 := ⟨n - 26, by omega⟩
      exact no _ hl (oSP_top k) (by rw [hl]; simp only [Int.ofNat_eq_natCast, ne_eq]; omega)
    · have : n < 26 := by omega
      match n, hl, this with
      | 0, hl, _ => exact no _ hl oSP_0 (by rw [hl]; simp only [Int.ofNat_eq_natCast, ne_eq]; omega)
      | 1, hl, _ => exact no _ hl oSP_1 (by rw [hl]; simp only [Int.ofNat_eq_natCast, ne_eq]; omega)
      | 2, hl, _ => exact no _ hl oSP_2 (by rw [hl]; simp only [Int.ofNat_eq_natCast, ne_eq]; omega)
      | 3, hl, _ => exact no _ hl oSP_3 (by rw [hl]; simp only [Int.ofNat_eq_natCast, ne_eq]; omega)
      | 4, hl, _ => exact no _ hl oSP_4 (by rw [hl]; simp only [Int.ofNat_eq_natCast, ne_eq]; omega)
      | 5, hl, _ => exact no _ hl oSP_5 (by rw [hl]; simp only [Int.ofNat_eq_natCast, ne_eq]; omega)
      | 6, hl, _ => exact no _ hl oSP_6 (by rw [hl]; simp only [Int.ofNat_eq_natCast, ne_eq]; omega)
      | 7, hl, _ => exact no _ hl oSP_7 (by rw [hl]; simp only [Int.ofNat_eq_natCast, ne_eq]; omega)
      | 8, hl, _ => exact no _ hl oSP_8 (by rw [hl]; simp only [Int.ofNat_eq_natCast, ne_eq]; omega)
      | 9, hl, _ => exact no _ hl oSP_9 (by rw [hl]; simp only [Int.ofNat_eq_natCast, ne_eq]; omega)
      | 10, hl, _ => exact ye 10 hl (vSP_10 hm hx)
      | 11, hl, _ => exact ye 11 hl (vSP_11 hm hx)
      | 12, hl, _ => exact ye 12 hl (vSP_12 hm hx)
      | 13, hl, _ => exact ye 13 hl (vSP_13 hm hx)
      | 14, hl, _ => exact ye 14 hl (vSP_14 hm hx)
      | 15, hl, _ => exact ye 15 hl (vSP_15 hm hx)
      | 16, hl, _ => exact no _ hl oSP_16 (by rw [hl]; simp only [Int.ofNat_eq_natCast, ne_eq]; omega)
      | 17, hl, _ => exact no _ hl oSP_17 (by rw [hl]; simp only [Int.ofNat_eq_natCast, ne_eq]; omega)
      | 18, hl, _ => exact no _ hl oSP_18 (by rw [hl]; simp only [Int.ofNat_eq_natCast, ne_eq]; omega)
      | 19, hl, _ => exact no _ hl oSP_19 (by rw [hl]; simp only [Int.ofNat_eq_natCast, ne_eq]; omega)
      | 20, hl, _ => exact ye 20 hl (vSP_20 hm hx)
      | 21, hl, _ => exact ye 21 hl (vSP_21 hm hx)
      | 22, hl, _ => exact ye 22 hl (vSP_22 hm hx)
      | 23, hl, _ => exact ye 23 hl (vSP_23 hm hx)
      | 24, hl, _ => exact ye 24 hl (vSP_24 hm hx)
      | 25, hl, _ => exact ye 25 hl (vSP_25 hm hx)
      | n + 26, _, h => exact absurd h (by omega)
  · exact no _ hl (oSP_neg n) (by rw [hl]; simp only [ne_eq]; omega)
def GS (m : Mm) (l : List SV) : Option (Bool × SV × Mm) := match l with
  | [.agg c] => bif isC ctsW c then some (okM m && okW (decW c), .tup [.agg (encW (stepS m (decW c)).x), I (stepS m (decW c)).way, B (stepS m (decW c)).ok], (stepS m (decW c)).m) else none
  | _ => none
def GSn (l : List SV) : Option SV := match l with
  | [.agg c] => bif isC ctsW c then some (.tup [.agg (encW (decW c)), I 0, B false]) else none
  | _ => none
theorem nS_nil (x : Wk) : sxFn (E45 (Ω := SV × SH)) (An A45 0) C45 [.d (.v (.pointer none)), .agg (encW x)] [] (KT 0) = some (.tup [.agg (encW x), I 0, B false], []) := by kernel_rfl
def S45m {Ω : Type} : Spec Ω := memSpec [none, some ctsW] (findM LM.own) [] (memF LM GS GSn)
theorem g45m : Good1 Try.prog 25 S45m := memFGood (A := A45) Try.func25 (by kernel_rfl) c45 e45 mix (L := LM) lay_M (fun m xs r m' t tw h => by
  unfold GS at h
  split at h
  · rename_i c
    obtain ⟨hc, h⟩ := cond_some h
    simp only [Option.some.injEq, Prod.mk.injEq, Bool.and_eq_true] at h
    obtain ⟨⟨hm, hx⟩, rfl, rfl⟩ := h
    rw [← enc_decW hc]
    rw [dec_encW]
    exact ⟨_, LeV.refl _, vSP hm hx⟩
  · cases h) (fun xs r h => by
  unfold GSn at h
  split at h
  · obtain ⟨hc, h⟩ := cond_some h
    simp only [Option.some.injEq] at h
    subst h
    rw [← enc_decW hc, dec_encW]
    exact nS_nil _
  · cases h)
end Go.Sx.Pr
