/- Pieces of the code of functions, compiled for the symbolic interpreter, each checked against the program; no conditions. -/
import Derived.Test.YtljmncdlehinnaaR13
import Derived.Test.YtljmncdlehinnaaR3e
import Derived.Test.YtljmncdlehinnaaRows
import Derived.KernelRfl
set_option linter.unusedVariables false
set_option linter.unusedSimpArgs false
namespace Go.Sx.Pr
open Go Go.Sx Go.Proofs
set_option maxRecDepth 100000
def K1067_1 : CC := .seq (.block 0 (.seq (.reg false [⟨some 21, .mv (.t 8), none, 0⟩,
     ⟨some 22, .eq .int false (.t 21) (.c (.d (.v (.int .i64 1)))), none, 0⟩,
     ⟨some 23, .mv (.t 22), none, 0⟩,
     ⟨some 24, .mv (.t 7), some (23, true), 0⟩,
     ⟨some 25, .pick (.t 23) (.t 24) (.c (.d (.v (.bool false)))), none, 0⟩,
     ⟨some 20, .mv (.t 25), none, 0⟩])
   (.cond 20 (.reg false [⟨some 26, .fa 20 (.t 3), none, 0⟩,
       ⟨none, .st 1 (.t 26) (.c (.d (.v (.int .i64 0)))), none, 0⟩])
     (.seq (.reg false [⟨some 28, .mv (.t 8), none, 0⟩,
       ⟨some 29, .eq .int false (.t 28) (.c (.d (.v (.int .i64 1)))), none, 0⟩,
       ⟨some 27, .mv (.t 29), none, 0⟩])
     (.cond 27 (.seq (.reg false [⟨some 30, .fa 23 (.t 3), none, 0⟩,
         ⟨some 31, .ld 1 false (.t 30), none, 0⟩,
         ⟨some 32, .conv .i64 (.t 31), none, 0⟩,
         ⟨some 33, .fa 20 (.t 3), none, 0⟩,
         ⟨none, .st 1 (.t 33) (.t 32), none, 0⟩,
         ⟨some 34, .fa 0 (.t 3), none, 0⟩,
         ⟨none, .st 1 (.t 34) (.c (.d (.v (.int .i64 40)))), none, 0⟩])
       (.reg false [⟨some 8, .mv (.c (.d (.v (.int .i64 0)))), none, 0⟩]))
       (.skip))))))
 (.seq (.reg false [⟨some 35, .ld 33 true (.t 3), none, 0⟩,
   ⟨some 36, .mv (.t 8), none, 0⟩,
   ⟨none, .st 33 (.t 4) (.t 35), none, 0⟩,
   ⟨some 5, .mv (.t 36), none, 0⟩,
   ⟨some 6, .mv (.c (.d (.v (.bool true)))), none, 0⟩])
 (.ret))
def K1067_2 : CC := .reg false [⟨some 14, .mv (.t 0), none, 0⟩,
   ⟨some 15, .ld 33 true (.t 3), none, 0⟩,
   ⟨some 16, .call (.c (.fn (.func 92) [] [])) [.t 14, .t 15], none, 0⟩,
   ⟨some 13, .mv (.t 16), none, 0⟩,
   ⟨some 17, .ext 0 (.t 13), none, 0⟩,
   ⟨some 18, .ext 1 (.t 13), none, 0⟩,
   ⟨some 19, .ext 2 (.t 13), none, 0⟩,
   ⟨none, .st 33 (.t 3) (.t 17), none, 0⟩,
   ⟨some 8, .mv (.t 18), none, 0⟩,
   ⟨some 9, .mv (.t 19), none, 0⟩]
def K1067_3 : CC := .reg false [⟨some 10, .fa 0 (.t 3), none, 0⟩,
   ⟨some 11, .ld 1 false (.t 10), none, 0⟩,
   ⟨some 12, .bin .gtr (.t 11) (.c (.d (.v (.int .i64 22)))), none, 0⟩,
   ⟨some 7, .mv (.t 12), none, 0⟩]
def K1067_4 : CC := .reg false [⟨some 3, .box 40 33 (.t 1), none, 0⟩,
   ⟨some 4, .newc 40 [.d (.v (.int .i64 0)), .d (.v (.int .i64 0)), .d (.v (.int .u64 0)), .d (.v (.int .u64 0)), .d (.v (.int .i64 0)), .d (.v (.bool false)), .d (.v (.int .i64 0)), .d (.v (.int .i64 0)), .d (.v (.bool false)), .d (.v (.int .u64 0)), .d (.v (.slice none 0 0)), .d (.v (.int .u64 0)), .d (.v (.slice none 0 0)), .d (.v (.int .u64 0)), .d (.v (.slice none 0 0)), .d (.v (.int .u64 0)), .d (.v (.slice none 0 0)), .d (.v (.slice none 0 0)), .d (.v (.int .i64 0)), .d (.v (.int .i64 0)), .d (.v (.int .i64 0)), .d (.v (.int .i64 0)), .d (.v (.int .i64 0)), .d (.v (.int .u64 0)), .d (.v (.int .u64 0)), .d (.v (.int .u64 0)), .d (.v (.int .u64 0)), .d (.v (.int .u64 0)), .d (.v (.int .i64 0)), .d (.v (.slice none 0 0)), .d (.v (.int .u64 0)), .d (.v (.int .i64 0)), .d (.v (.bool false))], none, 0⟩,
   ⟨some 5, .mv (.c (.d (.v (.int .i64 0)))), none, 0⟩,
   ⟨some 6, .mv (.c (.d (.v (.bool false)))), none, 0⟩]
/-- coatcheck/entry.pushpop -/
def C1067 : CF := ⟨2, [(4, some (33, true)), (5, none), (6, none)],
 .seq K1067_4 (.seq K1067_3 (.seq K1067_2 K1067_1))⟩
theorem c1067 : coF Try.prog Try.f70 = some C1067 := by kernel_rfl
def A1067 : Ann := { keep := [0, 1, 3, 4, 5, 6, 7, 8, 20, 27], live := [] }
def E1067 {Ω : Type} : Env Ω := econs 92 S45m (enil)
theorem e1067 : GoodE Try.prog E1067 := GoodE.cons g45m (GoodE.nil)
def S1067 {Ω : Type} : Spec Ω := inl E1067 A1067 C1067 false
theorem g1067 : Good1 Try.prog 70 S1067 := Good1.inl e1067 mix Try.func70 (by kernel_rfl) c1067 A1067 false
/-- coatcheck/entry.Step$1 -/
def C1069 : CF := ⟨3, [],
 .reg false [⟨some 4, .mv (.t 0), none, 0⟩,
   ⟨some 5, .fa 0 (.t 1), none, 0⟩,
   ⟨none, .st 1 (.t 5) (.c (.d (.v (.int .i64 0)))), none, 0⟩,
   ⟨none, .st 1 (.t 2) (.t 4), none, 0⟩]⟩
theorem c1069 : coF Try.prog Try.f72 = some C1069 := by kernel_rfl
def A1069 : Ann := { keep := [0, 1, 2], live := [] }
def E1069 {Ω : Type} : Env Ω := enil
theorem e1069 : GoodE Try.prog E1069 := GoodE.nil
def S1069 {Ω : Type} : Spec Ω := inl E1069 A1069 C1069 false
theorem g1069 : Good1 Try.prog 72 S1069 := Good1.inl e1069 mix Try.func72 (by kernel_rfl) c1069 A1069 false
/-- coatcheck/entry.live -/
def C1071 : CF := ⟨2, [(4, none), (5, none)],
 .seq (.reg false [⟨some 4, .mv (.c (.d (.v (.int .i64 0)))), none, 0⟩,
   ⟨some 5, .mv (.c (.d (.v (.bool false)))), none, 0⟩])
 (.seq (.reg false [⟨some 10, .mv (.t 0), none, 0⟩,
   ⟨some 11, .call (.c (.fn (.func 73) [] [])) [.t 10], none, 0⟩,
   ⟨some 9, .mv (.t 11), none, 0⟩,
   ⟨some 12, .ext 0 (.t 9), none, 0⟩,
   ⟨some 13, .ext 1 (.t 9), none, 0⟩,
   ⟨some 14, .ext 2 (.t 9), none, 0⟩,
   ⟨some 6, .mv (.t 12), none, 0⟩,
   ⟨some 7, .mv (.t 13), none, 0⟩,
   ⟨some 8, .mv (.t 14), none, 0⟩])
 (.seq (.reg false [⟨some 15, .mv (.t 7), none, 0⟩,
   ⟨some 16, .mv (.t 8), none, 0⟩,
   ⟨some 17, .eq .int false (.t 16) (.c (.d (.v (.int .i64 1)))), none, 0⟩,
   ⟨some 18, .mv (.t 17), none, 0⟩,
   ⟨some 19, .mv (.t 6), some (18, true), 0⟩,
   ⟨some 20, .mv (.t 1), some (18, true), 0⟩,
   ⟨some 21, .eq .int false (.t 19) (.t 20), some (18, true), 0⟩,
   ⟨some 22, .pick (.t 18) (.t 21) (.c (.d (.v (.bool false)))), none, 0⟩,
   ⟨some 4, .mv (.t 15), none, 0⟩,
   ⟨some 5, .mv (.t 22), none, 0⟩])
 (.ret)))⟩
theorem c1071 : coF Try.prog Try.f76 = some C1071 := by kernel_rfl
def A1071 : Ann := { keep := [0, 1, 4, 5, 6, 7, 8], live := [] }
def E1071 {Ω : Type} : Env Ω := econs 73 S1054c (enil)
theorem e1071 : GoodE Try.prog E1071 := GoodE.cons g1054c (GoodE.nil)
def S1071 {Ω : Type} : Spec Ω := inl E1071 A1071 C1071 false
theorem g1071 : Good1 Try.prog 76 S1071 := Good1.inl e1071 mix Try.func76 (by kernel_rfl) c1071 A1071 false
def K1029_1 : CC := .seq (.reg true [⟨some 180, .ld 33 true (.t 3), none, 0⟩,
   ⟨some 181, .ld 1 false (.t 10), none, 0⟩,
   ⟨none, .st 33 (.t 4) (.t 180), none, 1⟩,
   ⟨some 5, .mv (.t 181), none, 7⟩,
   ⟨some 6, .mv (.c (.d (.v (.bool true)))), none, 15⟩])
 (.ret)
def K1029_2 : CC := .seq (.seq (.reg false [⟨some 179, .ld 33 true (.t 3), none, 0⟩,
   ⟨none, .st 33 (.t 4) (.t 179), none, 0⟩,
   ⟨some 5, .mv (.c (.d (.v (.int .i64 0)))), none, 0⟩,
   ⟨some 6, .mv (.c (.d (.v (.bool false)))), none, 0⟩])
 (.ret))
 (.exit 0)
def K1029_3 : CC := .seq (.seq (.reg true [⟨some 165, .mv (.t 0), none, 0⟩,
   ⟨some 166, .mv (.t 9), none, 0⟩,
   ⟨some 167, .fa 25 (.t 3), none, 0⟩,
   ⟨some 168, .ld 1 false (.t 167), none, 4⟩,
   ⟨some 169, .mv (.t 8), none, 0⟩,
   ⟨some 170, .fa 18 (.t 3), none, 0⟩,
   ⟨some 171, .ld 1 false (.t 170), none, 32⟩,
   ⟨some 172, .bin .sub (.t 171) (.c (.d (.v (.int .i64 1)))), none, 96⟩,
   ⟨some 173, .call (.c (.fn (.func 74) [] [])) [.t 169, .t 172, .c (.d (.v (.int .i64 1)))], none, 240⟩,
   ⟨some 174, .call (.c (.fn (.func 60) [] [])) [.t 165, .t 166, .t 168, .t 173], none, 511⟩])
 (.cond 174 (.seq (.reg false [⟨some 175, .fa 18 (.t 3), none, 0⟩,
     ⟨none, .st 1 (.t 175) (.c (.d (.v (.int .i64 0)))), none, 0⟩])
   (.reg false [⟨some 176, .mv (.t 11), none, 0⟩,
     ⟨some 177, .call (.t 176) [.c (.d (.v (.int .i64 1)))], none, 0⟩]))
   (.reg false [⟨some 178, .fa 0 (.t 3), none, 0⟩,
     ⟨none, .st 1 (.t 178) (.c (.d (.v (.int .i64 44)))), none, 0⟩])))
 (.exit 0)
def K1029_4 : CC := .exit 0
def K1029_5 : CC := .seq (.seq (.reg false [⟨some 144, .mv (.t 8), none, 0⟩,
   ⟨some 145, .mv (.t 0), none, 0⟩,
   ⟨some 146, .nilc (.t 145), none, 0⟩,
   ⟨some 147, .fa 0 (.t 146), none, 0⟩,
   ⟨some 148, .fa 0 (.t 147), none, 0⟩,
   ⟨some 149, .fa 7 (.t 148), none, 0⟩,
   ⟨some 150, .ld 1 false (.t 149), none, 0⟩,
   ⟨some 151, .bin .geq (.t 144) (.t 150), none, 0⟩])
 (.cond 151 (.reg false [⟨some 152, .mv (.t 8), none, 0⟩,
     ⟨some 153, .call (.c (.fn (.func 74) [] [])) [.t 152, .c (.d (.v (.int .i64 (-1)))), .c (.d (.v (.int .i64 2)))], none, 0⟩,
     ⟨some 16, .mv (.t 153), none, 0⟩,
     ⟨some 17, .mv (.c (.d (.v (.int .i64 0)))), none, 0⟩])
   (.skip)))
 (.seq (.reg false [⟨some 154, .mv (.t 0), none, 0⟩,
   ⟨some 155, .mv (.t 9), none, 0⟩,
   ⟨some 156, .fa 25 (.t 3), none, 0⟩,
   ⟨some 157, .ld 1 false (.t 156), none, 0⟩,
   ⟨some 158, .mv (.t 16), none, 0⟩,
   ⟨some 159, .call (.c (.fn (.func 60) [] [])) [.t 154, .t 155, .t 157, .t 158], none, 0⟩])
 (.cond 159 (.seq (.reg false [⟨some 160, .mv (.t 17), none, 0⟩,
     ⟨some 161, .fa 20 (.t 3), none, 0⟩,
     ⟨none, .st 1 (.t 161) (.t 160), none, 0⟩])
   (.reg false [⟨some 162, .mv (.t 11), none, 0⟩,
     ⟨some 163, .call (.t 162) [.c (.d (.v (.int .i64 1)))], none, 0⟩]))
   (.reg false [⟨some 164, .fa 0 (.t 3), none, 0⟩,
     ⟨none, .st 1 (.t 164) (.c (.d (.v (.int .i64 42)))), none, 0⟩])))
def K1029_6 : CC := .reg false [⟨some 139, .mv (.t 8), none, 0⟩,
   ⟨some 140, .bin .add (.t 139) (.c (.d (.v (.int .u64 1)))), none, 0⟩,
   ⟨some 141, .call (.c (.fn (.func 74) [] [])) [.t 140, .c (.d (.v (.int .i64 (-1)))), .c (.d (.v (.int .i64 0)))], none, 0⟩,
   ⟨some 142, .mv (.t 7), none, 0⟩,
   ⟨some 143, .bin .add (.t 142) (.c (.d (.v (.int .i64 1)))), none, 0⟩,
   ⟨some 16, .mv (.t 141), none, 0⟩,
   ⟨some 17, .mv (.t 143), none, 0⟩]
def K1029_7 : CC := .seq (.seq (.reg false [⟨some 122, .mv (.t 0), none, 0⟩,
   ⟨some 123, .mv (.t 9), none, 0⟩,
   ⟨some 124, .call (.c (.fn (.func 58) [] [])) [.t 122, .t 123], none, 0⟩,
   ⟨some 13, .mv (.t 124), none, 0⟩])
 (.seq (.reg false [⟨some 125, .mv (.t 11), none, 0⟩,
   ⟨some 126, .call (.t 125) [.c (.d (.v (.int .i64 2)))], none, 0⟩])
 (.seq (.reg false [⟨some 128, .mv (.t 13), none, 0⟩,
   ⟨some 129, .mv (.t 8), none, 0⟩,
   ⟨some 130, .call (.c (.fn (.func 76) [] [])) [.t 128, .t 129], none, 0⟩,
   ⟨some 127, .mv (.t 130), none, 0⟩,
   ⟨some 131, .ext 0 (.t 127), none, 0⟩,
   ⟨some 132, .ext 1 (.t 127), none, 0⟩,
   ⟨some 14, .mv (.t 131), none, 0⟩,
   ⟨some 15, .mv (.t 132), none, 0⟩])
 (.seq (.reg false [⟨some 133, .mv (.t 15), none, 0⟩])
 (.cond 133 (.reg false [⟨some 134, .mv (.t 13), none, 0⟩,
     ⟨some 135, .mv (.t 14), none, 0⟩,
     ⟨some 136, .bin .add (.t 135) (.c (.d (.v (.int .i64 1)))), none, 0⟩,
     ⟨some 137, .fa 25 (.t 3), none, 0⟩,
     ⟨none, .st 1 (.t 137) (.t 134), none, 0⟩,
     ⟨some 138, .fa 21 (.t 3), none, 0⟩,
     ⟨none, .st 1 (.t 138) (.t 136), none, 0⟩,
     ⟨none, .st 1 (.t 10) (.c (.d (.v (.int .i64 1)))), none, 0⟩])
   (.skip))))))
 (.exit 0)
def K1029_8 : CC := .exit 0
def K1029_9 : CC := .seq (.reg false [⟨some 111, .fa 20 (.t 3), none, 0⟩,
   ⟨some 112, .ld 1 false (.t 111), none, 0⟩,
   ⟨some 113, .bin .sub (.t 112) (.c (.d (.v (.int .i64 1)))), none, 0⟩,
   ⟨some 114, .fa 27 (.t 3), none, 0⟩,
   ⟨some 115, .ld 1 false (.t 114), none, 0⟩,
   ⟨some 116, .call (.c (.fn (.func 75) [] [])) [.t 113, .t 115], none, 0⟩,
   ⟨some 117, .fa 30 (.t 3), none, 0⟩,
   ⟨none, .st 1 (.t 117) (.t 116), none, 0⟩])
 (.seq (.reg false [⟨some 118, .fa 20 (.t 3), none, 0⟩,
   ⟨none, .st 1 (.t 118) (.c (.d (.v (.int .i64 0)))), none, 0⟩,
   ⟨some 119, .fa 18 (.t 3), none, 0⟩,
   ⟨none, .st 1 (.t 119) (.c (.d (.v (.int .i64 0)))), none, 0⟩])
 (.reg false [⟨some 120, .mv (.t 11), none, 0⟩,
   ⟨some 121, .call (.t 120) [.c (.d (.v (.int .i64 1)))], none, 0⟩]))
def K1029_10 : CC := .reg true [⟨some 95, .mv (.t 0), none, 0⟩,
   ⟨some 96, .mv (.t 0), none, 0⟩,
   ⟨some 97, .nilc (.t 96), none, 2⟩,
   ⟨some 98, .fa 0 (.t 97), none, 6⟩,
   ⟨some 99, .ld 8 true (.t 98), none, 14⟩,
   ⟨some 100, .fa 20 (.t 3), none, 0⟩,
   ⟨some 101, .ld 1 false (.t 100), none, 32⟩,
   ⟨some 102, .bin .sub (.t 101) (.c (.d (.v (.int .i64 1)))), none, 96⟩,
   ⟨some 103, .call (.c (.fn (.func 39) [] [])) [.t 99, .t 102], none, 254⟩,
   ⟨some 104, .fa 27 (.t 3), none, 0⟩,
   ⟨some 105, .ld 1 false (.t 104), none, 512⟩,
   ⟨some 106, .fa 18 (.t 3), none, 0⟩,
   ⟨some 107, .ld 1 false (.t 106), none, 2048⟩,
   ⟨some 108, .bin .sub (.t 107) (.c (.d (.v (.int .i64 1)))), none, 6144⟩,
   ⟨some 109, .call (.c (.fn (.func 74) [] [])) [.t 105, .t 108, .c (.d (.v (.int .i64 1)))], none, 16382⟩,
   ⟨some 110, .call (.c (.fn (.func 13) [] [])) [.t 95, .t 103, .t 109], none, 32767⟩]
def K1029_11 : CC := .seq (.seq (.reg true [⟨some 79, .mv (.t 0), none, 0⟩,
   ⟨some 80, .mv (.t 0), none, 0⟩,
   ⟨some 81, .nilc (.t 80), none, 2⟩,
   ⟨some 82, .fa 0 (.t 81), none, 6⟩,
   ⟨some 83, .ld 8 true (.t 82), none, 14⟩,
   ⟨some 84, .fa 20 (.t 3), none, 0⟩,
   ⟨some 85, .ld 1 false (.t 84), none, 32⟩,
   ⟨some 86, .bin .sub (.t 85) (.c (.d (.v (.int .i64 1)))), none, 96⟩,
   ⟨some 87, .call (.c (.fn (.func 39) [] [])) [.t 83, .t 86], none, 254⟩,
   ⟨some 88, .call (.c (.fn (.func 58) [] [])) [.t 79, .t 87], none, 511⟩,
   ⟨some 89, .call (.c (.fn (.func 73) [] [])) [.t 88], none, 1023⟩,
   ⟨some 78, .mv (.t 89), none, 2047⟩,
   ⟨some 90, .ext 0 (.t 78), none, 4095⟩,
   ⟨some 91, .ext 1 (.t 78), none, 4095⟩,
   ⟨some 92, .ext 2 (.t 78), none, 4095⟩,
   ⟨some 93, .fa 27 (.t 3), none, 8191⟩,
   ⟨none, .st 1 (.t 93) (.t 90), none, 40959⟩])
 (.reg false [⟨some 94, .fa 0 (.t 3), none, 0⟩,
   ⟨none, .st 1 (.t 94) (.c (.d (.v (.int .i64 41)))), none, 0⟩]))
 (.exit 0)
def K1029_12 : CC := .block 1 (.seq (.seq (.seq (.reg false [⟨some 64, .eq .int false (.t 62) (.c (.d (.v (.int .i64 40)))), none, 0⟩,
     ⟨some 63, .mv (.t 64), none, 0⟩])
   (.cond 63 (.exit 1)
     (.skip)))
   (.seq (.seq (.reg false [⟨some 66, .eq .int false (.t 62) (.c (.d (.v (.int .i64 41)))), none, 0⟩,
     ⟨some 65, .mv (.t 66), none, 0⟩])
   (.cond 65 (.exit 2)
     (.skip)))
   (.seq (.seq (.reg false [⟨some 68, .eq .int false (.t 62) (.c (.d (.v (.int .i64 42)))), none, 0⟩,
     ⟨some 67, .mv (.t 68), none, 0⟩])
   (.cond 67 (.exit 3)
     (.skip)))
   (.seq (.seq (.reg false [⟨some 70, .eq .int false (.t 62) (.c (.d (.v (.int .i64 44)))), none, 0⟩,
     ⟨some 69, .mv (.t 70), none, 0⟩])
   (.cond 69 (.exit 4)
     (.skip)))
   (.seq (.seq (.seq (.reg false [⟨some 72, .eq .int false (.t 62) (.c (.d (.v (.int .i64 46)))), none, 0⟩,
     ⟨some 71, .mv (.t 72), none, 0⟩])
   (.cond 71 (.skip)
     (.reg false [⟨some 73, .eq .int false (.t 62) (.c (.d (.v (.int .i64 60)))), none, 0⟩,
       ⟨some 71, .mv (.t 73), none, 0⟩])))
   (.cond 71 (.exit 5)
     (.skip)))
   (.seq (.seq (.reg false [⟨some 75, .eq .int false (.t 62) (.c (.d (.v (.int .i64 43)))), none, 0⟩,
     ⟨some 74, .mv (.t 75), none, 0⟩])
   (.cond 74 (.exit 6)
     (.skip)))
   (.seq (.reg false [⟨some 77, .eq .int false (.t 62) (.c (.d (.v (.int .i64 45)))), none, 0⟩,
     ⟨some 76, .mv (.t 77), none, 0⟩])
   (.cond 76 (.exit 7)
     (.skip)))))))))
   (.exit 8))
def K1029_13 : CC := .reg false [⟨some 62, .mv (.t 12), none, 0⟩]
def K1029_14 : CC := .seq (.reg false [⟨some 50, .mv (.t 12), none, 0⟩,
   ⟨some 51, .bin .geq (.t 50) (.c (.d (.v (.int .i64 40)))), none, 0⟩,
   ⟨some 52, .mv (.t 51), none, 0⟩,
   ⟨some 53, .mv (.t 12), some (52, true), 0⟩,
   ⟨some 54, .bin .leq (.t 53) (.c (.d (.v (.int .i64 46)))), some (52, true), 0⟩,
   ⟨some 55, .pick (.t 52) (.t 54) (.c (.d (.v (.bool false)))), none, 0⟩,
   ⟨some 56, .mv (.t 55), none, 0⟩,
   ⟨some 57, .mv (.t 12), some (56, false), 0⟩,
   ⟨some 58, .eq .int false (.t 57) (.c (.d (.v (.int .i64 60)))), some (56, false), 0⟩,
   ⟨some 59, .pick (.t 56) (.c (.d (.v (.bool true)))) (.t 58), none, 0⟩])
 (.cond 59 (.reg false [⟨some 60, .mv (.t 0), none, 0⟩,
     ⟨some 61, .call (.c (.fn (.func 52) [] [])) [.t 60], none, 0⟩])
   (.skip))
def K1029_15 : CC := .reg false [⟨some 48, .fa 0 (.t 3), none, 0⟩,
   ⟨some 49, .ld 1 false (.t 48), none, 0⟩,
   ⟨some 12, .mv (.t 49), none, 0⟩]
def K1029_16 : CC := .reg false [⟨some 47, .mkf (.func 72) [] [.t 3, .t 10], none, 0⟩,
   ⟨some 11, .mv (.t 47), none, 0⟩]
def K1029_17 : CC := .reg false [⟨some 10, .newc 3 [.d (.v (.int .i64 0))], none, 0⟩,
   ⟨none, .st 1 (.t 10) (.c (.d (.v (.int .i64 0)))), none, 0⟩]
def K1029_18 : CC := .reg false [⟨some 41, .mv (.t 0), none, 0⟩,
   ⟨some 42, .nilc (.t 41), none, 0⟩,
   ⟨some 43, .fa 0 (.t 42), none, 0⟩,
   ⟨some 44, .ld 8 true (.t 43), none, 0⟩,
   ⟨some 45, .mv (.t 7), none, 0⟩,
   ⟨some 46, .call (.c (.fn (.func 39) [] [])) [.t 44, .t 45], none, 0⟩,
   ⟨some 9, .mv (.t 46), none, 0⟩]
def K1029_19 : CC := .reg false [⟨some 36, .fa 30 (.t 3), none, 0⟩,
   ⟨some 37, .ld 1 false (.t 36), none, 0⟩,
   ⟨some 38, .call (.c (.fn (.func 71) [] [])) [.t 37], none, 0⟩,
   ⟨some 35, .mv (.t 38), none, 0⟩,
   ⟨some 39, .ext 0 (.t 35), none, 0⟩,
   ⟨some 40, .ext 1 (.t 35), none, 0⟩,
   ⟨some 7, .mv (.t 39), none, 0⟩,
   ⟨some 8, .mv (.t 40), none, 0⟩]
def K1029_20 : CC := .seq (.reg false [⟨some 21, .fa 0 (.t 3), none, 0⟩,
   ⟨some 22, .ld 1 false (.t 21), none, 0⟩,
   ⟨some 23, .bin .geq (.t 22) (.c (.d (.v (.int .i64 20)))), none, 0⟩,
   ⟨some 24, .mv (.t 23), none, 0⟩,
   ⟨some 25, .fa 0 (.t 3), some (24, true), 0⟩,
   ⟨some 26, .ld 1 false (.t 25), some (24, true), 0⟩,
   ⟨some 27, .bin .leq (.t 26) (.c (.d (.v (.int .i64 25)))), some (24, true), 0⟩,
   ⟨some 28, .pick (.t 24) (.t 27) (.c (.d (.v (.bool false)))), none, 0⟩])
 (.cond 28 (.seq (.reg false [⟨some 29, .mv (.t 0), none, 0⟩,
     ⟨some 30, .ld 33 true (.t 3), none, 0⟩,
     ⟨some 31, .call (.c (.fn (.func 70) [] [])) [.t 29, .t 30], none, 0⟩,
     ⟨some 32, .ext 0 (.t 31), none, 0⟩,
     ⟨some 33, .ext 1 (.t 31), none, 0⟩,
     ⟨some 34, .ext 2 (.t 31), none, 0⟩,
     ⟨none, .st 33 (.t 4) (.t 32), none, 0⟩,
     ⟨some 5, .mv (.t 33), none, 0⟩,
     ⟨some 6, .mv (.t 34), none, 0⟩])
   (.ret))
   (.skip))
def K1029_21 : CC := .seq (.reg false [⟨some 18, .mv (.t 0), none, 0⟩,
   ⟨some 19, .eq .ptr false (.t 18) (.c (.d (.v (.pointer none)))), none, 0⟩])
 (.cond 19 (.seq (.reg false [⟨some 20, .ld 33 true (.t 3), none, 0⟩,
     ⟨none, .st 33 (.t 4) (.t 20), none, 0⟩,
     ⟨some 5, .mv (.c (.d (.v (.int .i64 0)))), none, 0⟩,
     ⟨some 6, .mv (.c (.d (.v (.bool false)))), none, 0⟩])
   (.ret))
   (.skip))
def K1029_22 : CC := .reg false [⟨some 3, .box 40 33 (.t 1), none, 0⟩,
   ⟨some 4, .newc 40 [.d (.v (.int .i64 0)), .d (.v (.int .i64 0)), .d (.v (.int .u64 0)), .d (.v (.int .u64 0)), .d (.v (.int .i64 0)), .d (.v (.bool false)), .d (.v (.int .i64 0)), .d (.v (.int .i64 0)), .d (.v (.bool false)), .d (.v (.int .u64 0)), .d (.v (.slice none 0 0)), .d (.v (.int .u64 0)), .d (.v (.slice none 0 0)), .d (.v (.int .u64 0)), .d (.v (.slice none 0 0)), .d (.v (.int .u64 0)), .d (.v (.slice none 0 0)), .d (.v (.slice none 0 0)), .d (.v (.int .i64 0)), .d (.v (.int .i64 0)), .d (.v (.int .i64 0)), .d (.v (.int .i64 0)), .d (.v (.int .i64 0)), .d (.v (.int .u64 0)), .d (.v (.int .u64 0)), .d (.v (.int .u64 0)), .d (.v (.int .u64 0)), .d (.v (.int .u64 0)), .d (.v (.int .i64 0)), .d (.v (.slice none 0 0)), .d (.v (.int .u64 0)), .d (.v (.int .i64 0)), .d (.v (.bool false))], none, 0⟩,
   ⟨some 5, .mv (.c (.d (.v (.int .i64 0)))), none, 0⟩,
   ⟨some 6, .mv (.c (.d (.v (.bool false)))), none, 0⟩]
/-- coatcheck/entry.Step -/
def C1029 : CF := ⟨2, [(4, some (33, true)), (5, none), (6, none)],
 .seq K1029_22 (.seq K1029_21 (.seq K1029_20 (.seq K1029_19 (.seq K1029_18 (.seq K1029_17 (.seq K1029_16 (.seq K1029_15 (.seq K1029_14 (.seq (.seq K1029_13 (.block 0 (.seq (.block 8 (.seq (.block 7 (.seq (.block 6 (.seq (.block 5 (.block 4 (.block 3 (.seq (.block 2 (.seq K1029_12 K1029_11)) (.seq (.seq K1029_10 K1029_9) K1029_8))))) K1029_7)) (.seq (.seq K1029_6 K1029_5) K1029_4))) K1029_3)) K1029_2))) K1029_1)))))))))⟩
theorem c1029 : coF Try.prog Try.f28 = some C1029 := by kernel_rfl
def A1029 : Ann := { keep := [0, 1, 3, 4, 5, 6, 7, 8, 9, 10, 11, 12, 13, 14, 15, 16, 17, 19, 28, 59, 62, 63, 65, 67, 69, 71, 74, 76, 133, 151, 159, 174], live := [], kc := [71] }
def E1029 {Ω : Type} : Env Ω := econs 13 S23m (econs 39 S111c (econs 52 S29m (econs 58 S21m (econs 60 S25m (econs 73 S1054c (econs 70 S1067 (econs 71 S1068c (econs 72 S1069 (econs 74 S110c (econs 75 S1070c (econs 76 S1071 (enil))))))))))))
theorem e1029 : GoodE Try.prog E1029 := GoodE.cons g23m (GoodE.cons g111c (GoodE.cons g29m (GoodE.cons g21m (GoodE.cons g25m (GoodE.cons g1054c (GoodE.cons g1067 (GoodE.cons g1068c (GoodE.cons g1069 (GoodE.cons g110c (GoodE.cons g1070c (GoodE.cons g1071 (GoodE.nil))))))))))))
/-- (*coatcheck/coatcheckref03.Memory).Entry -/
def C1072 : CF := ⟨2, [(4, none)],
 .seq (.reg false [⟨some 4, .mv (.c (.d (.v (.int .i64 0)))), none, 0⟩])
 (.seq (.reg false [⟨some 5, .mv (.t 0), none, 0⟩,
   ⟨some 6, .nilc (.t 5), none, 0⟩,
   ⟨some 7, .fa 0 (.t 6), none, 0⟩,
   ⟨some 8, .ld 8 true (.t 7), none, 0⟩,
   ⟨some 9, .mv (.t 1), none, 0⟩,
   ⟨some 10, .bld [.d (.v (.int .i64 0)), .d (.v (.int .i64 0)), .d (.v (.int .i64 0))] [(0, 1, .c (.d (.v (.int .i64 3)))), (1, 1, .t 9)], none, 0⟩,
   ⟨some 11, .call (.c (.fn (.func 87) [] [])) [.t 8, .t 10], none, 0⟩,
   ⟨some 4, .mv (.t 11), none, 0⟩])
 (.ret))⟩
theorem c1072 : coF Try.prog Try.f79 = some C1072 := by kernel_rfl
def A1072 : Ann := { keep := [0, 1, 4], live := [] }
def E1072 {Ω : Type} : Env Ω := econs 87 S82 (enil)
theorem e1072 : GoodE Try.prog E1072 := GoodE.cons g82 (GoodE.nil)
def S1072 {Ω : Type} : Spec Ω := inl E1072 A1072 C1072 false
theorem g1072 : Good1 Try.prog 79 S1072 := Good1.inl e1072 mix Try.func79 (by kernel_rfl) c1072 A1072 false
def K1073_1 : CC := .seq (.reg false [⟨some 30, .fa 0 (.t 3), none, 0⟩,
   ⟨none, .st 1 (.t 30) (.c (.d (.v (.int .i64 0)))), none, 0⟩])
 (.seq (.seq (.reg false [⟨some 31, .mv (.t 12), none, 0⟩,
   ⟨some 32, .eq .int true (.t 31) (.c (.d (.v (.int .i64 1)))), none, 0⟩,
   ⟨some 33, .mv (.t 32), none, 0⟩,
   ⟨some 34, .mv (.t 10), some (33, false), 0⟩,
   ⟨some 35, .mv (.t 8), some (33, false), 0⟩,
   ⟨some 36, .eq .int true (.t 34) (.t 35), some (33, false), 0⟩,
   ⟨some 37, .pick (.t 33) (.c (.d (.v (.bool true)))) (.t 36), none, 0⟩])
 (.cond 37 (.seq (.reg false [⟨some 38, .ld 33 true (.t 3), none, 0⟩,
     ⟨none, .st 33 (.t 4) (.t 38), none, 0⟩,
     ⟨some 5, .mv (.c (.d (.v (.int .i64 2)))), none, 0⟩,
     ⟨some 6, .mv (.c (.d (.v (.bool true)))), none, 0⟩])
   (.ret))
   (.skip)))
 (.seq (.reg false [⟨some 39, .mv (.t 9), none, 0⟩,
   ⟨some 40, .fa 25 (.t 3), none, 0⟩,
   ⟨none, .st 1 (.t 40) (.t 39), none, 0⟩])
 (.seq (.reg false [⟨some 41, .mv (.t 11), none, 0⟩,
   ⟨some 42, .bin .add (.t 41) (.c (.d (.v (.int .i64 1)))), none, 0⟩,
   ⟨some 43, .fa 21 (.t 3), none, 0⟩,
   ⟨none, .st 1 (.t 43) (.t 42), none, 0⟩])
 (.seq (.reg false [⟨some 44, .ld 33 true (.t 3), none, 0⟩,
   ⟨none, .st 33 (.t 4) (.t 44), none, 0⟩,
   ⟨some 5, .mv (.c (.d (.v (.int .i64 1)))), none, 0⟩,
   ⟨some 6, .mv (.c (.d (.v (.bool true)))), none, 0⟩])
 (.ret)))))
def K1073_2 : CC := .reg false [⟨some 25, .mv (.t 9), none, 0⟩,
   ⟨some 26, .call (.c (.fn (.func 38) [] [])) [.t 25], none, 0⟩,
   ⟨some 24, .mv (.t 26), none, 0⟩,
   ⟨some 27, .ext 0 (.t 24), none, 0⟩,
   ⟨some 28, .ext 1 (.t 24), none, 0⟩,
   ⟨some 29, .ext 2 (.t 24), none, 0⟩,
   ⟨some 10, .mv (.t 27), none, 0⟩,
   ⟨some 11, .mv (.t 28), none, 0⟩,
   ⟨some 12, .mv (.t 29), none, 0⟩]
def K1073_3 : CC := .reg false [⟨some 19, .mv (.t 0), none, 0⟩,
   ⟨some 20, .mv (.t 0), none, 0⟩,
   ⟨some 21, .mv (.t 7), none, 0⟩,
   ⟨some 22, .call (.c (.fn (.func 79) [] [])) [.t 20, .t 21], none, 0⟩,
   ⟨some 23, .call (.c (.fn (.func 78) [] [])) [.t 19, .t 22], none, 0⟩,
   ⟨some 9, .mv (.t 23), none, 0⟩]
def K1073_4 : CC := .reg false [⟨some 14, .fa 30 (.t 3), none, 0⟩,
   ⟨some 15, .ld 1 false (.t 14), none, 0⟩,
   ⟨some 16, .call (.c (.fn (.func 37) [] [])) [.t 15], none, 0⟩,
   ⟨some 13, .mv (.t 16), none, 0⟩,
   ⟨some 17, .ext 0 (.t 13), none, 0⟩,
   ⟨some 18, .ext 1 (.t 13), none, 0⟩,
   ⟨some 7, .mv (.t 17), none, 0⟩,
   ⟨some 8, .mv (.t 18), none, 0⟩]
def K1073_5 : CC := .reg false [⟨some 3, .box 40 33 (.t 1), none, 0⟩,
   ⟨some 4, .newc 40 [.d (.v (.int .i64 0)), .d (.v (.int .i64 0)), .d (.v (.int .u64 0)), .d (.v (.int .u64 0)), .d (.v (.int .i64 0)), .d (.v (.bool false)), .d (.v (.int .i64 0)), .d (.v (.int .i64 0)), .d (.v (.bool false)), .d (.v (.int .u64 0)), .d (.v (.slice none 0 0)), .d (.v (.int .u64 0)), .d (.v (.slice none 0 0)), .d (.v (.int .u64 0)), .d (.v (.slice none 0 0)), .d (.v (.int .u64 0)), .d (.v (.slice none 0 0)), .d (.v (.slice none 0 0)), .d (.v (.int .i64 0)), .d (.v (.int .i64 0)), .d (.v (.int .i64 0)), .d (.v (.int .i64 0)), .d (.v (.int .i64 0)), .d (.v (.int .u64 0)), .d (.v (.int .u64 0)), .d (.v (.int .u64 0)), .d (.v (.int .u64 0)), .d (.v (.int .u64 0)), .d (.v (.int .i64 0)), .d (.v (.slice none 0 0)), .d (.v (.int .u64 0)), .d (.v (.int .i64 0)), .d (.v (.bool false))], none, 0⟩,
   ⟨some 5, .mv (.c (.d (.v (.int .i64 0)))), none, 0⟩,
   ⟨some 6, .mv (.c (.d (.v (.bool false)))), none, 0⟩]
/-- coatcheck/coatcheckref11.look -/
def C1073 : CF := ⟨2, [(4, some (33, true)), (5, none), (6, none)],
 .seq K1073_5 (.seq K1073_4 (.seq K1073_3 (.seq K1073_2 K1073_1)))⟩
theorem c1073 : coF Try.prog Try.f83 = some C1073 := by kernel_rfl
def A1073 : Ann := { keep := [0, 1, 3, 4, 5, 6, 7, 8, 9, 10, 11, 12, 37], live := [] }
def E1073 {Ω : Type} : Env Ω := econs 37 S1035c (econs 38 S1036c (econs 78 S22m (econs 79 S1072 (enil))))
theorem e1073 : GoodE Try.prog E1073 := GoodE.cons g1035c (GoodE.cons g1036c (GoodE.cons g22m (GoodE.cons g1072 (GoodE.nil))))
def S1073 {Ω : Type} : Spec Ω := inl E1073 A1073 C1073 false
theorem g1073 : Good1 Try.prog 83 S1073 := Good1.inl e1073 mix Try.func83 (by kernel_rfl) c1073 A1073 false
def K1030_1 : CC := .seq (.reg false [⟨some 167, .mv (.t 0), none, 0⟩,
   ⟨some 168, .ld 33 true (.t 3), none, 0⟩,
   ⟨some 169, .call (.c (.fn (.func 83) [] [])) [.t 167, .t 168], none, 0⟩,
   ⟨some 170, .ext 0 (.t 169), none, 0⟩,
   ⟨some 171, .ext 1 (.t 169), none, 0⟩,
   ⟨some 172, .ext 2 (.t 169), none, 0⟩,
   ⟨none, .st 33 (.t 4) (.t 170), none, 0⟩,
   ⟨some 5, .mv (.t 171), none, 0⟩,
   ⟨some 6, .mv (.t 172), none, 0⟩])
 (.ret)
def K1030_2 : CC := .seq (.reg false [⟨some 75, .mv (.t 0), none, 0⟩,
   ⟨some 76, .mv (.t 0), none, 0⟩,
   ⟨some 77, .fa 20 (.t 3), none, 0⟩,
   ⟨some 78, .ld 1 false (.t 77), none, 0⟩,
   ⟨some 79, .bin .sub (.t 78) (.c (.d (.v (.int .i64 1)))), none, 0⟩,
   ⟨some 80, .call (.c (.fn (.func 79) [] [])) [.t 76, .t 79], none, 0⟩,
   ⟨some 81, .call (.c (.fn (.func 78) [] [])) [.t 75, .t 80], none, 0⟩,
   ⟨some 82, .call (.c (.fn (.func 38) [] [])) [.t 81], none, 0⟩,
   ⟨some 74, .mv (.t 82), none, 0⟩,
   ⟨some 83, .ext 0 (.t 74), none, 0⟩,
   ⟨some 84, .ext 1 (.t 74), none, 0⟩,
   ⟨some 85, .ext 2 (.t 74), none, 0⟩,
   ⟨some 13, .mv (.t 83), none, 0⟩,
   ⟨some 14, .mv (.t 84), none, 0⟩,
   ⟨some 15, .mv (.t 85), none, 0⟩])
 (.seq (.reg false [⟨some 86, .mv (.t 13), none, 0⟩,
   ⟨some 87, .fa 27 (.t 3), none, 0⟩,
   ⟨none, .st 1 (.t 87) (.t 86), none, 0⟩])
 (.seq (.reg false [⟨some 88, .fa 0 (.t 3), none, 0⟩,
   ⟨none, .st 1 (.t 88) (.c (.d (.v (.int .i64 41)))), none, 0⟩])
 (.seq (.reg false [⟨some 89, .ld 33 true (.t 3), none, 0⟩,
   ⟨none, .st 33 (.t 4) (.t 89), none, 0⟩,
   ⟨some 5, .mv (.c (.d (.v (.int .i64 0)))), none, 0⟩,
   ⟨some 6, .mv (.c (.d (.v (.bool true)))), none, 0⟩])
 (.ret))))
def K1030_3 : CC := .seq (.reg false [⟨some 105, .fa 20 (.t 3), none, 0⟩,
   ⟨some 106, .ld 1 false (.t 105), none, 0⟩,
   ⟨some 107, .bin .sub (.t 106) (.c (.d (.v (.int .i64 1)))), none, 0⟩,
   ⟨some 108, .fa 27 (.t 3), none, 0⟩,
   ⟨some 109, .ld 1 false (.t 108), none, 0⟩,
   ⟨some 110, .call (.c (.fn (.func 68) [] [])) [.t 107, .t 109], none, 0⟩,
   ⟨some 111, .fa 30 (.t 3), none, 0⟩,
   ⟨none, .st 1 (.t 111) (.t 110), none, 0⟩])
 (.seq (.reg false [⟨some 112, .fa 20 (.t 3), none, 0⟩,
   ⟨none, .st 1 (.t 112) (.c (.d (.v (.int .i64 0)))), none, 0⟩])
 (.seq (.reg false [⟨some 113, .fa 18 (.t 3), none, 0⟩,
   ⟨none, .st 1 (.t 113) (.c (.d (.v (.int .i64 0)))), none, 0⟩])
 (.seq (.reg false [⟨some 114, .fa 0 (.t 3), none, 0⟩,
   ⟨none, .st 1 (.t 114) (.c (.d (.v (.int .i64 0)))), none, 0⟩])
 (.seq (.reg false [⟨some 115, .ld 33 true (.t 3), none, 0⟩,
   ⟨none, .st 33 (.t 4) (.t 115), none, 0⟩,
   ⟨some 5, .mv (.c (.d (.v (.int .i64 1)))), none, 0⟩,
   ⟨some 6, .mv (.c (.d (.v (.bool true)))), none, 0⟩])
 (.ret)))))
def K1030_4 : CC := .reg true [⟨some 92, .mv (.t 0), none, 0⟩,
   ⟨some 93, .mv (.t 0), none, 0⟩,
   ⟨some 94, .fa 20 (.t 3), none, 0⟩,
   ⟨some 95, .ld 1 false (.t 94), none, 4⟩,
   ⟨some 96, .bin .sub (.t 95) (.c (.d (.v (.int .i64 1)))), none, 12⟩,
   ⟨some 97, .call (.c (.fn (.func 79) [] [])) [.t 93, .t 96], none, 30⟩,
   ⟨some 98, .fa 27 (.t 3), none, 0⟩,
   ⟨some 99, .ld 1 false (.t 98), none, 64⟩,
   ⟨some 100, .fa 18 (.t 3), none, 0⟩,
   ⟨some 101, .ld 1 false (.t 100), none, 256⟩,
   ⟨some 102, .bin .sub (.t 101) (.c (.d (.v (.int .i64 1)))), none, 768⟩,
   ⟨some 103, .call (.c (.fn (.func 81) [] [])) [.t 99, .t 102, .c (.d (.v (.int .i64 1)))], none, 2046⟩,
   ⟨some 104, .call (.c (.fn (.func 80) [] [])) [.t 92, .t 97, .t 103], none, 4095⟩]
def K1030_5 : CC := .seq (.seq (.reg true [⟨some 132, .mv (.t 0), none, 0⟩,
   ⟨some 133, .mv (.t 0), none, 0⟩,
   ⟨some 134, .mv (.t 11), none, 0⟩,
   ⟨some 135, .call (.c (.fn (.func 79) [] [])) [.t 133, .t 134], none, 6⟩,
   ⟨some 136, .fa 25 (.t 3), none, 0⟩,
   ⟨some 137, .ld 1 false (.t 136), none, 16⟩,
   ⟨some 138, .mv (.t 16), none, 0⟩,
   ⟨some 139, .call (.c (.fn (.func 82) [] [])) [.t 132, .t 135, .t 137, .t 138], none, 127⟩,
   ⟨some 140, .un .not (.t 139), none, 255⟩])
 (.cond 140 (.seq (.reg false [⟨some 141, .fa 0 (.t 3), none, 0⟩,
     ⟨none, .st 1 (.t 141) (.c (.d (.v (.int .i64 42)))), none, 0⟩])
   (.seq (.reg false [⟨some 142, .ld 33 true (.t 3), none, 0⟩,
     ⟨none, .st 33 (.t 4) (.t 142), none, 0⟩,
     ⟨some 5, .mv (.c (.d (.v (.int .i64 0)))), none, 0⟩,
     ⟨some 6, .mv (.c (.d (.v (.bool true)))), none, 0⟩])
   (.ret)))
   (.skip)))
 (.seq (.reg false [⟨some 143, .mv (.t 17), none, 0⟩,
   ⟨some 144, .fa 20 (.t 3), none, 0⟩,
   ⟨none, .st 1 (.t 144) (.t 143), none, 0⟩])
 (.seq (.reg false [⟨some 145, .fa 0 (.t 3), none, 0⟩,
   ⟨none, .st 1 (.t 145) (.c (.d (.v (.int .i64 0)))), none, 0⟩])
 (.seq (.reg false [⟨some 146, .ld 33 true (.t 3), none, 0⟩,
   ⟨none, .st 33 (.t 4) (.t 146), none, 0⟩,
   ⟨some 5, .mv (.c (.d (.v (.int .i64 1)))), none, 0⟩,
   ⟨some 6, .mv (.c (.d (.v (.bool true)))), none, 0⟩])
 (.ret))))
def K1030_6 : CC := .seq (.reg false [⟨some 123, .mv (.t 12), none, 0⟩,
   ⟨some 124, .mv (.t 0), none, 0⟩,
   ⟨some 125, .nilc (.t 124), none, 0⟩,
   ⟨some 126, .fa 0 (.t 125), none, 0⟩,
   ⟨some 127, .fa 7 (.t 126), none, 0⟩,
   ⟨some 128, .ld 1 false (.t 127), none, 0⟩,
   ⟨some 129, .bin .geq (.t 123) (.t 128), none, 0⟩])
 (.cond 129 (.seq (.reg false [⟨some 130, .mv (.t 12), none, 0⟩,
     ⟨some 131, .call (.c (.fn (.func 81) [] [])) [.t 130, .c (.d (.v (.int .i64 (-1)))), .c (.d (.v (.int .i64 2)))], none, 0⟩,
     ⟨some 16, .mv (.t 131), none, 0⟩])
   (.reg false [⟨some 17, .mv (.c (.d (.v (.int .i64 0)))), none, 0⟩]))
   (.skip))
def K1030_7 : CC := .reg false [⟨some 121, .mv (.t 11), none, 0⟩,
   ⟨some 122, .bin .add (.t 121) (.c (.d (.v (.int .i64 1)))), none, 0⟩,
   ⟨some 17, .mv (.t 122), none, 0⟩]
def K1030_8 : CC := .reg false [⟨some 118, .mv (.t 12), none, 0⟩,
   ⟨some 119, .bin .add (.t 118) (.c (.d (.v (.int .u64 1)))), none, 0⟩,
   ⟨some 120, .call (.c (.fn (.func 81) [] [])) [.t 119, .c (.d (.v (.int .i64 (-1)))), .c (.d (.v (.int .i64 0)))], none, 0⟩,
   ⟨some 16, .mv (.t 120), none, 0⟩]
def K1030_9 : CC := .seq (.reg false [⟨some 164, .fa 18 (.t 3), none, 0⟩,
   ⟨none, .st 1 (.t 164) (.c (.d (.v (.int .i64 0)))), none, 0⟩])
 (.seq (.reg false [⟨some 165, .fa 0 (.t 3), none, 0⟩,
   ⟨none, .st 1 (.t 165) (.c (.d (.v (.int .i64 0)))), none, 0⟩])
 (.seq (.reg false [⟨some 166, .ld 33 true (.t 3), none, 0⟩,
   ⟨none, .st 33 (.t 4) (.t 166), none, 0⟩,
   ⟨some 5, .mv (.c (.d (.v (.int .i64 1)))), none, 0⟩,
   ⟨some 6, .mv (.c (.d (.v (.bool true)))), none, 0⟩])
 (.ret)))
def K1030_10 : CC := .seq (.reg true [⟨some 149, .mv (.t 0), none, 0⟩,
   ⟨some 150, .mv (.t 0), none, 0⟩,
   ⟨some 151, .mv (.t 11), none, 0⟩,
   ⟨some 152, .call (.c (.fn (.func 79) [] [])) [.t 150, .t 151], none, 6⟩,
   ⟨some 153, .fa 25 (.t 3), none, 0⟩,
   ⟨some 154, .ld 1 false (.t 153), none, 16⟩,
   ⟨some 155, .mv (.t 12), none, 0⟩,
   ⟨some 156, .fa 18 (.t 3), none, 0⟩,
   ⟨some 157, .ld 1 false (.t 156), none, 128⟩,
   ⟨some 158, .bin .sub (.t 157) (.c (.d (.v (.int .i64 1)))), none, 384⟩,
   ⟨some 159, .call (.c (.fn (.func 81) [] [])) [.t 155, .t 158, .c (.d (.v (.int .i64 1)))], none, 974⟩,
   ⟨some 160, .call (.c (.fn (.func 82) [] [])) [.t 149, .t 152, .t 154, .t 159], none, 2047⟩,
   ⟨some 161, .un .not (.t 160), none, 4095⟩])
 (.cond 161 (.seq (.reg false [⟨some 162, .fa 0 (.t 3), none, 0⟩,
     ⟨none, .st 1 (.t 162) (.c (.d (.v (.int .i64 44)))), none, 0⟩])
   (.seq (.reg false [⟨some 163, .ld 33 true (.t 3), none, 0⟩,
     ⟨none, .st 33 (.t 4) (.t 163), none, 0⟩,
     ⟨some 5, .mv (.c (.d (.v (.int .i64 0)))), none, 0⟩,
     ⟨some 6, .mv (.c (.d (.v (.bool true)))), none, 0⟩])
   (.ret)))
   (.skip))
def K1030_11 : CC := .reg false [⟨some 148, .eq .int false (.t 71) (.c (.d (.v (.int .i64 45)))), none, 0⟩,
   ⟨some 147, .mv (.t 148), none, 0⟩]
def K1030_12 : CC := .reg false [⟨some 117, .eq .int false (.t 71) (.c (.d (.v (.int .i64 43)))), none, 0⟩,
   ⟨some 116, .mv (.t 117), none, 0⟩]
def K1030_13 : CC := .reg false [⟨some 91, .eq .int false (.t 71) (.c (.d (.v (.int .i64 41)))), none, 0⟩,
   ⟨some 90, .mv (.t 91), none, 0⟩]
def K1030_14 : CC := .reg false [⟨some 73, .eq .int false (.t 71) (.c (.d (.v (.int .i64 40)))), none, 0⟩,
   ⟨some 72, .mv (.t 73), none, 0⟩]
def K1030_15 : CC := .reg false [⟨some 71, .mv (.t 7), none, 0⟩]
def K1030_16 : CC := .reg false [⟨some 66, .fa 30 (.t 3), none, 0⟩,
   ⟨some 67, .ld 1 false (.t 66), none, 0⟩,
   ⟨some 68, .call (.c (.fn (.func 37) [] [])) [.t 67], none, 0⟩,
   ⟨some 65, .mv (.t 68), none, 0⟩,
   ⟨some 69, .ext 0 (.t 65), none, 0⟩,
   ⟨some 70, .ext 1 (.t 65), none, 0⟩,
   ⟨some 11, .mv (.t 69), none, 0⟩,
   ⟨some 12, .mv (.t 70), none, 0⟩]
def K1030_17 : CC := .reg false [⟨some 61, .mv (.t 0), none, 0⟩,
   ⟨some 62, .bld [.d (.v (.int .i64 0)), .d (.v (.int .i64 0)), .d (.v (.int .u64 0)), .d (.v (.int .u64 0)), .d (.v (.int .u64 0))] [], none, 0⟩,
   ⟨some 63, .nilc (.t 61), none, 0⟩,
   ⟨some 64, .fa 9 (.t 63), none, 0⟩,
   ⟨none, .st 5 (.t 64) (.t 62), none, 0⟩]
def K1030_18 : CC := .seq (.reg false [⟨some 50, .mv (.t 7), none, 0⟩,
   ⟨some 51, .eq .int true (.t 50) (.c (.d (.v (.int .i64 60)))), none, 0⟩,
   ⟨some 52, .mv (.t 51), none, 0⟩,
   ⟨some 53, .mv (.t 7), some (52, true), 0⟩,
   ⟨some 54, .bin .lss (.t 53) (.c (.d (.v (.int .i64 40)))), some (52, true), 0⟩,
   ⟨some 55, .mv (.t 54), some (52, true), 0⟩,
   ⟨some 56, .mv (.t 7), some (55, false), 0⟩,
   ⟨some 57, .bin .gtr (.t 56) (.c (.d (.v (.int .i64 46)))), some (55, false), 0⟩,
   ⟨some 58, .pick (.t 55) (.c (.d (.v (.bool true)))) (.t 57), some (52, true), 0⟩,
   ⟨some 59, .pick (.t 52) (.t 58) (.c (.d (.v (.bool false)))), none, 0⟩])
 (.cond 59 (.seq (.reg false [⟨some 60, .ld 33 true (.t 3), none, 0⟩,
     ⟨none, .st 33 (.t 4) (.t 60), none, 0⟩,
     ⟨some 5, .mv (.c (.d (.v (.int .i64 0)))), none, 0⟩,
     ⟨some 6, .mv (.c (.d (.v (.bool false)))), none, 0⟩])
   (.ret))
   (.skip))
def K1030_19 : CC := .seq (.seq (.reg false [⟨some 45, .mv (.t 9), none, 0⟩,
   ⟨some 46, .eq .int false (.t 45) (.c (.d (.v (.int .i64 1)))), none, 0⟩])
 (.cond 46 (.reg false [⟨some 47, .fa 20 (.t 8), none, 0⟩,
     ⟨none, .st 1 (.t 47) (.c (.d (.v (.int .i64 0)))), none, 0⟩])
   (.skip)))
 (.seq (.reg false [⟨some 48, .ld 33 true (.t 8), none, 0⟩,
   ⟨some 49, .mv (.t 9), none, 0⟩,
   ⟨none, .st 33 (.t 4) (.t 48), none, 0⟩,
   ⟨some 5, .mv (.t 49), none, 0⟩,
   ⟨some 6, .mv (.c (.d (.v (.bool true)))), none, 0⟩])
 (.ret))
def K1030_20 : CC := .seq (.reg false [⟨some 33, .mv (.t 9), none, 0⟩,
   ⟨some 34, .eq .int false (.t 33) (.c (.d (.v (.int .i64 1)))), none, 0⟩,
   ⟨some 35, .mv (.t 34), none, 0⟩,
   ⟨some 36, .mv (.t 7), some (35, true), 0⟩,
   ⟨some 37, .bin .leq (.t 36) (.c (.d (.v (.int .i64 22)))), some (35, true), 0⟩,
   ⟨some 38, .pick (.t 35) (.t 37) (.c (.d (.v (.bool false)))), none, 0⟩])
 (.cond 38 (.seq (.reg false [⟨some 39, .fa 23 (.t 8), none, 0⟩,
     ⟨some 40, .ld 1 false (.t 39), none, 0⟩,
     ⟨some 41, .conv .i64 (.t 40), none, 0⟩,
     ⟨some 42, .fa 20 (.t 8), none, 0⟩,
     ⟨none, .st 1 (.t 42) (.t 41), none, 0⟩])
   (.seq (.reg false [⟨some 43, .fa 0 (.t 8), none, 0⟩,
     ⟨none, .st 1 (.t 43) (.c (.d (.v (.int .i64 40)))), none, 0⟩])
   (.seq (.reg false [⟨some 44, .ld 33 true (.t 8), none, 0⟩,
     ⟨none, .st 33 (.t 4) (.t 44), none, 0⟩,
     ⟨some 5, .mv (.c (.d (.v (.int .i64 0)))), none, 0⟩,
     ⟨some 6, .mv (.c (.d (.v (.bool true)))), none, 0⟩])
   (.ret))))
   (.skip))
def K1030_21 : CC := .reg false [⟨some 27, .mv (.t 0), none, 0⟩,
   ⟨some 28, .ld 33 true (.t 3), none, 0⟩,
   ⟨some 29, .call (.c (.fn (.func 77) [] [])) [.t 27, .t 28], none, 0⟩,
   ⟨some 26, .mv (.t 29), none, 0⟩,
   ⟨some 30, .ext 0 (.t 26), none, 0⟩,
   ⟨some 31, .ext 1 (.t 26), none, 0⟩,
   ⟨some 32, .ext 2 (.t 26), none, 0⟩,
   ⟨some 8, .newc 40 [.d (.v (.int .i64 0)), .d (.v (.int .i64 0)), .d (.v (.int .u64 0)), .d (.v (.int .u64 0)), .d (.v (.int .i64 0)), .d (.v (.bool false)), .d (.v (.int .i64 0)), .d (.v (.int .i64 0)), .d (.v (.bool false)), .d (.v (.int .u64 0)), .d (.v (.slice none 0 0)), .d (.v (.int .u64 0)), .d (.v (.slice none 0 0)), .d (.v (.int .u64 0)), .d (.v (.slice none 0 0)), .d (.v (.int .u64 0)), .d (.v (.slice none 0 0)), .d (.v (.slice none 0 0)), .d (.v (.int .i64 0)), .d (.v (.int .i64 0)), .d (.v (.int .i64 0)), .d (.v (.int .i64 0)), .d (.v (.int .i64 0)), .d (.v (.int .u64 0)), .d (.v (.int .u64 0)), .d (.v (.int .u64 0)), .d (.v (.int .u64 0)), .d (.v (.int .u64 0)), .d (.v (.int .i64 0)), .d (.v (.slice none 0 0)), .d (.v (.int .u64 0)), .d (.v (.int .i64 0)), .d (.v (.bool false))], none, 0⟩,
   ⟨none, .st 33 (.t 8) (.t 30), none, 0⟩,
   ⟨some 9, .mv (.t 31), none, 0⟩,
   ⟨some 10, .mv (.t 32), none, 0⟩]
def K1030_22 : CC := .reg false [⟨some 20, .mv (.t 7), none, 0⟩,
   ⟨some 21, .bin .geq (.t 20) (.c (.d (.v (.int .i64 20)))), none, 0⟩,
   ⟨some 22, .mv (.t 21), none, 0⟩,
   ⟨some 23, .mv (.t 7), some (22, true), 0⟩,
   ⟨some 24, .bin .leq (.t 23) (.c (.d (.v (.int .i64 25)))), some (22, true), 0⟩,
   ⟨some 25, .pick (.t 22) (.t 24) (.c (.d (.v (.bool false)))), none, 0⟩]
def K1030_23 : CC := .reg false [⟨some 18, .fa 0 (.t 3), none, 0⟩,
   ⟨some 19, .ld 1 false (.t 18), none, 0⟩,
   ⟨some 7, .mv (.t 19), none, 0⟩]
def K1030_24 : CC := .reg false [⟨some 3, .box 40 33 (.t 1), none, 0⟩,
   ⟨some 4, .newc 40 [.d (.v (.int .i64 0)), .d (.v (.int .i64 0)), .d (.v (.int .u64 0)), .d (.v (.int .u64 0)), .d (.v (.int .i64 0)), .d (.v (.bool false)), .d (.v (.int .i64 0)), .d (.v (.int .i64 0)), .d (.v (.bool false)), .d (.v (.int .u64 0)), .d (.v (.slice none 0 0)), .d (.v (.int .u64 0)), .d (.v (.slice none 0 0)), .d (.v (.int .u64 0)), .d (.v (.slice none 0 0)), .d (.v (.int .u64 0)), .d (.v (.slice none 0 0)), .d (.v (.slice none 0 0)), .d (.v (.int .i64 0)), .d (.v (.int .i64 0)), .d (.v (.int .i64 0)), .d (.v (.int .i64 0)), .d (.v (.int .i64 0)), .d (.v (.int .u64 0)), .d (.v (.int .u64 0)), .d (.v (.int .u64 0)), .d (.v (.int .u64 0)), .d (.v (.int .u64 0)), .d (.v (.int .i64 0)), .d (.v (.slice none 0 0)), .d (.v (.int .u64 0)), .d (.v (.int .i64 0)), .d (.v (.bool false))], none, 0⟩,
   ⟨some 5, .mv (.c (.d (.v (.int .i64 0)))), none, 0⟩,
   ⟨some 6, .mv (.c (.d (.v (.bool false)))), none, 0⟩]
/-- coatcheck/coatcheckref11.Step -/
def C1030 : CF := ⟨2, [(4, some (33, true)), (5, none), (6, none)],
 .seq K1030_24 (.seq K1030_23 (.seq (.seq K1030_22 (.cond 25 (.seq K1030_21 (.seq K1030_20 K1030_19)) .skip)) (.seq K1030_18 (.seq K1030_17 (.seq K1030_16 (.seq (.seq K1030_15 (.block 0 (.seq K1030_14 (.cond 72 K1030_2 (.seq K1030_13 (.cond 90 (.seq K1030_4 K1030_3) (.seq K1030_12 (.cond 116 (.seq K1030_8 (.seq K1030_7 (.seq K1030_6 K1030_5))) (.seq K1030_11 (.cond 147 (.seq K1030_10 K1030_9) .skip)))))))))) K1030_1))))))⟩
theorem c1030 : coF Try.prog Try.f30 = some C1030 := by kernel_rfl
def A1030 : Ann := { keep := [0, 1, 3, 4, 5, 6, 7, 8, 9, 11, 12, 13, 16, 17, 25, 38, 46, 59, 71, 72, 90, 116, 129, 140, 147, 161], live := [] }
def E1030 {Ω : Type} : Env Ω := econs 77 S47m (econs 37 S1035c (econs 38 S1036c (econs 78 S22m (econs 82 S26m (econs 80 S24m (econs 68 S1066c (econs 79 S1072 (econs 81 S69c (econs 83 S1073 (enil))))))))))
theorem e1030 : GoodE Try.prog E1030 := GoodE.cons g47m (GoodE.cons g1035c (GoodE.cons g1036c (GoodE.cons g22m (GoodE.cons g26m (GoodE.cons g24m (GoodE.cons g1066c (GoodE.cons g1072 (GoodE.cons g69c (GoodE.cons g1073 (GoodE.nil))))))))))
end Go.Sx.Pr

/- The steps of one layer, program and document, against the pure model. -/
namespace Go.Sx.Pr
open Go Go.Sx Go.Sx.Md Go.Proofs
set_option maxRecDepth 100000
theorem nNN_any (m : Mm) (x : Wk) (t tw : Nat) (q : Int) :
    sxFn (E1030 (Ω := SV × SH)) (An A1030 2) C1030 [.ptr 0 0, .agg (I q :: encT x)] (objs LN t tw m) (KT 2) =
    br (decide (q ≥ 20)) (br (decide (q ≤ 25)) (br (okM (m) && okW ({ x with line := q })) (br (SR.way (stepS (m) ({ x with line := q })) == 1) (br (decide (q ≤ 22)) (some (.tup [.agg (encW { (SR.x (stepS (m) ({ x with line := q }))) with line := 40, I := IntKind.wrap .i64 (Wk.H (SR.x (stepS (m) ({ x with line := q })))) }), I 0, B true], (objs LN t tw (SR.m (stepS (m) ({ x with line := q })))))) (br (SR.way (stepS (m) ({ x with line := q })) == 1) (some (.tup [.agg (encW { (SR.x (stepS (m) ({ x with line := q }))) with I := 0 }), I (SR.way (stepS (m) ({ x with line := q }))), B true], (objs LN t tw (SR.m (stepS (m) ({ x with line := q })))))) (some (.tup [.agg (encW (SR.x (stepS (m) ({ x with line := q })))), I (SR.way (stepS (m) ({ x with line := q }))), B true], (objs LN t tw (SR.m (stepS (m) ({ x with line := q })))))))) (br (SR.way (stepS (m) ({ x with line := q })) == 1) (some (.tup [.agg (encW { (SR.x (stepS (m) ({ x with line := q }))) with I := 0 }), I (SR.way (stepS (m) ({ x with line := q }))), B true], (objs LN t tw (SR.m (stepS (m) ({ x with line := q })))))) (some (.tup [.agg (encW (SR.x (stepS (m) ({ x with line := q })))), I (SR.way (stepS (m) ({ x with line := q }))), B true], (objs LN t tw (SR.m (stepS (m) ({ x with line := q })))))))) none) (br (!q == 60) (br (decide (q < 40)) (some (.tup [.agg (encW { x with line := q }), I 0, B false], (objs LN t tw m))) (br (decide (q > 46)) (some (.tup [.agg (encW { x with line := q }), I 0, B false], (objs LN t tw m))) (br (uB (Wk.T x)) (br (q == 40) (br (uB (mLoadV (m) (adr (Mm.c m) 3 (w64' (Wk.I x - 1))))) (some (.tup [.agg (encW { x with line := 41, G := mLoadV (m) (adr (Mm.c m) 3 (w64' (Wk.I x - 1))) / 1048576 }), I 0, B true], (objs LN t tw (mLoad (m) (adr (Mm.c m) 3 (w64' (Wk.I x - 1))))))) none) (br (q == 41) (br (uB (Wk.G x)) (br (uB (Wk.G x)) (some (.tup [.agg (encW { x with line := 0, B := 0, I := 0, T := pTicket (w64' (Wk.I x - 1)) (Wk.G x) }), I 1, B true], (objs LN t tw (mStore (m) (adr (Mm.c m) 3 (w64' (Wk.I x - 1))) (pEntry (Wk.G x) (w64' (Wk.B x - 1)) 1))))) none) none) (br (q == 43) (br (uB (wU (Wk.T x / 65536 + 1))) (br (decide (Wk.T x / 65536 ≥ Cf.l (Mm.c m))) (br (uB (Wk.T x / 65536)) (br (!mCasB (m) (adr (Mm.c m) 3 (Wk.T x % 65536 - 1)) (Wk.V x)) (some (.tup [.agg (encW { x with line := 42 }), I 0, B true], (objs LN t tw (mCas (m) (adr (Mm.c m) 3 (Wk.T x % 65536 - 1)) (Wk.V x) (pEntry (Wk.T x / 65536) (-1) 2))))) (some (.tup [.agg (encW { x with line := 0, I := 0 }), I 1, B true], (objs LN t tw (mCas (m) (adr (Mm.c m) 3 (Wk.T x % 65536 - 1)) (Wk.V x) (pEntry (Wk.T x / 65536) (-1) 2)))))) none) (br (!mCasB (m) (adr (Mm.c m) 3 (Wk.T x % 65536 - 1)) (Wk.V x)) (some (.tup [.agg (encW { x with line := 42 }), I 0, B true], (objs LN t tw (mCas (m) (adr (Mm.c m) 3 (Wk.T x % 65536 - 1)) (Wk.V x) (pEntry (wU (Wk.T x / 65536 + 1)) (-1) 0))))) (some (.tup [.agg (encW { x with line := 0, I := IntKind.wrap .i64 (Wk.T x % 65536 - 1 + 1) }), I 1, B true], (objs LN t tw (mCas (m) (adr (Mm.c m) 3 (Wk.T x % 65536 - 1)) (Wk.V x) (pEntry (wU (Wk.T x / 65536 + 1)) (-1) 0))))))) none) (br (q == 45) (br (uB (Wk.T x / 65536)) (br (!mCasB (m) (adr (Mm.c m) 3 (Wk.T x % 65536 - 1)) (Wk.V x)) (some (.tup [.agg (encW { x with line := 44 }), I 0, B true], (objs LN t tw (mCas (m) (adr (Mm.c m) 3 (Wk.T x % 65536 - 1)) (Wk.V x) (pEntry (Wk.T x / 65536) (w64' (Wk.B x - 1)) 1))))) (some (.tup [.agg (encW { x with line := 0, B := 0 }), I 1, B true], (objs LN t tw (mCas (m) (adr (Mm.c m) 3 (Wk.T x % 65536 - 1)) (Wk.V x) (pEntry (Wk.T x / 65536) (w64' (Wk.B x - 1)) 1)))))) none) (br (uB (Wk.T x)) (br (uB (mLoadV (m) (adr (Mm.c m) 3 (Wk.T x % 65536 - 1)))) (br (!mLoadV (m) (adr (Mm.c m) 3 (Wk.T x % 65536 - 1)) % 16 == 1) (some (.tup [.agg (encW { x with line := 0 }), I 2, B true], (objs LN t tw (mLoad (m) (adr (Mm.c m) 3 (Wk.T x % 65536 - 1)))))) (br (!mLoadV (m) (adr (Mm.c m) 3 (Wk.T x % 65536 - 1)) / 1048576 == Wk.T x / 65536) (some (.tup [.agg (encW { x with line := 0 }), I 2, B true], (objs LN t tw (mLoad (m) (adr (Mm.c m) 3 (Wk.T x % 65536 - 1)))))) (some (.tup [.agg (encW { x with line := 0, C := IntKind.wrap .i64 (mLoadV (m) (adr (Mm.c m) 3 (Wk.T x % 65536 - 1)) / 16 % 65536 - 1 + 1), V := mLoadV (m) (adr (Mm.c m) 3 (Wk.T x % 65536 - 1)) }), I 1, B true], (objs LN t tw (mLoad (m) (adr (Mm.c m) 3 (Wk.T x % 65536 - 1)))))))) none) none))))) none))) (br (uB (Wk.T x)) (br (q == 40) (br (uB (mLoadV (m) (adr (Mm.c m) 3 (w64' (Wk.I x - 1))))) (some (.tup [.agg (encW { x with line := 41, G := mLoadV (m) (adr (Mm.c m) 3 (w64' (Wk.I x - 1))) / 1048576 }), I 0, B true], (objs LN t tw (mLoad (m) (adr (Mm.c m) 3 (w64' (Wk.I x - 1))))))) none) (br (q == 41) (br (uB (Wk.G x)) (br (uB (Wk.G x)) (some (.tup [.agg (encW { x with line := 0, B := 0, I := 0, T := pTicket (w64' (Wk.I x - 1)) (Wk.G x) }), I 1, B true], (objs LN t tw (mStore (m) (adr (Mm.c m) 3 (w64' (Wk.I x - 1))) (pEntry (Wk.G x) (w64' (Wk.B x - 1)) 1))))) none) none) (br (q == 43) (br (uB (wU (Wk.T x / 65536 + 1))) (br (decide (Wk.T x / 65536 ≥ Cf.l (Mm.c m))) (br (uB (Wk.T x / 65536)) (br (!mCasB (m) (adr (Mm.c m) 3 (Wk.T x % 65536 - 1)) (Wk.V x)) (some (.tup [.agg (encW { x with line := 42 }), I 0, B true], (objs LN t tw (mCas (m) (adr (Mm.c m) 3 (Wk.T x % 65536 - 1)) (Wk.V x) (pEntry (Wk.T x / 65536) (-1) 2))))) (some (.tup [.agg (encW { x with line := 0, I := 0 }), I 1, B true], (objs LN t tw (mCas (m) (adr (Mm.c m) 3 (Wk.T x % 65536 - 1)) (Wk.V x) (pEntry (Wk.T x / 65536) (-1) 2)))))) none) (br (!mCasB (m) (adr (Mm.c m) 3 (Wk.T x % 65536 - 1)) (Wk.V x)) (some (.tup [.agg (encW { x with line := 42 }), I 0, B true], (objs LN t tw (mCas (m) (adr (Mm.c m) 3 (Wk.T x % 65536 - 1)) (Wk.V x) (pEntry (wU (Wk.T x / 65536 + 1)) (-1) 0))))) (some (.tup [.agg (encW { x with line := 0, I := IntKind.wrap .i64 (Wk.T x % 65536 - 1 + 1) }), I 1, B true], (objs LN t tw (mCas (m) (adr (Mm.c m) 3 (Wk.T x % 65536 - 1)) (Wk.V x) (pEntry (wU (Wk.T x / 65536 + 1)) (-1) 0))))))) none) (br (q == 45) (br (uB (Wk.T x / 65536)) (br (!mCasB (m) (adr (Mm.c m) 3 (Wk.T x % 65536 - 1)) (Wk.V x)) (some (.tup [.agg (encW { x with line := 44 }), I 0, B true], (objs LN t tw (mCas (m) (adr (Mm.c m) 3 (Wk.T x % 65536 - 1)) (Wk.V x) (pEntry (Wk.T x / 65536) (w64' (Wk.B x - 1)) 1))))) (some (.tup [.agg (encW { x with line := 0, B := 0 }), I 1, B true], (objs LN t tw (mCas (m) (adr (Mm.c m) 3 (Wk.T x % 65536 - 1)) (Wk.V x) (pEntry (Wk.T x / 65536) (w64' (Wk.B x - 1)) 1)))))) none) (br (uB (Wk.T x)) (br (uB (mLoadV (m) (adr (Mm.c m) 3 (Wk.T x % 65536 - 1)))) (br (!mLoadV (m) (adr (Mm.c m) 3 (Wk.T x % 65536 - 1)) % 16 == 1) (some (.tup [.agg (encW { x with line := 0 }), I 2, B true], (objs LN t tw (mLoad (m) (adr (Mm.c m) 3 (Wk.T x % 65536 - 1)))))) (br (!mLoadV (m) (adr (Mm.c m) 3 (Wk.T x % 65536 - 1)) / 1048576 == Wk.T x / 65536) (some (.tup [.agg (encW { x with line := 0 }), I 2, B true], (objs LN t tw (mLoad (m) (adr (Mm.c m) 3 (Wk.T x % 65536 - 1)))))) (some (.tup [.agg (encW { x with line := 0, C := IntKind.wrap .i64 (mLoadV (m) (adr (Mm.c m) 3 (Wk.T x % 65536 - 1)) / 16 % 65536 - 1 + 1), V := mLoadV (m) (adr (Mm.c m) 3 (Wk.T x % 65536 - 1)) }), I 1, B true], (objs LN t tw (mLoad (m) (adr (Mm.c m) 3 (Wk.T x % 65536 - 1)))))))) none) none))))) none))) (br (!q == 60) (br (decide (q < 40)) (some (.tup [.agg (encW { x with line := q }), I 0, B false], (objs LN t tw m))) (br (decide (q > 46)) (some (.tup [.agg (encW { x with line := q }), I 0, B false], (objs LN t tw m))) (br (uB (Wk.T x)) (br (q == 40) (br (uB (mLoadV (m) (adr (Mm.c m) 3 (w64' (Wk.I x - 1))))) (some (.tup [.agg (encW { x with line := 41, G := mLoadV (m) (adr (Mm.c m) 3 (w64' (Wk.I x - 1))) / 1048576 }), I 0, B true], (objs LN t tw (mLoad (m) (adr (Mm.c m) 3 (w64' (Wk.I x - 1))))))) none) (br (q == 41) (br (uB (Wk.G x)) (br (uB (Wk.G x)) (some (.tup [.agg (encW { x with line := 0, B := 0, I := 0, T := pTicket (w64' (Wk.I x - 1)) (Wk.G x) }), I 1, B true], (objs LN t tw (mStore (m) (adr (Mm.c m) 3 (w64' (Wk.I x - 1))) (pEntry (Wk.G x) (w64' (Wk.B x - 1)) 1))))) none) none) (br (q == 43) (br (uB (wU (Wk.T x / 65536 + 1))) (br (decide (Wk.T x / 65536 ≥ Cf.l (Mm.c m))) (br (uB (Wk.T x / 65536)) (br (!mCasB (m) (adr (Mm.c m) 3 (Wk.T x % 65536 - 1)) (Wk.V x)) (some (.tup [.agg (encW { x with line := 42 }), I 0, B true], (objs LN t tw (mCas (m) (adr (Mm.c m) 3 (Wk.T x % 65536 - 1)) (Wk.V x) (pEntry (Wk.T x / 65536) (-1) 2))))) (some (.tup [.agg (encW { x with line := 0, I := 0 }), I 1, B true], (objs LN t tw (mCas (m) (adr (Mm.c m) 3 (Wk.T x % 65536 - 1)) (Wk.V x) (pEntry (Wk.T x / 65536) (-1) 2)))))) none) (br (!mCasB (m) (adr (Mm.c m) 3 (Wk.T x % 65536 - 1)) (Wk.V x)) (some (.tup [.agg (encW { x with line := 42 }), I 0, B true], (objs LN t tw (mCas (m) (adr (Mm.c m) 3 (Wk.T x % 65536 - 1)) (Wk.V x) (pEntry (wU (Wk.T x / 65536 + 1)) (-1) 0))))) (some (.tup [.agg (encW { x with line := 0, I := IntKind.wrap .i64 (Wk.T x % 65536 - 1 + 1) }), I 1, B true], (objs LN t tw (mCas (m) (adr (Mm.c m) 3 (Wk.T x % 65536 - 1)) (Wk.V x) (pEntry (wU (Wk.T x / 65536 + 1)) (-1) 0))))))) none) (br (q == 45) (br (uB (Wk.T x / 65536)) (br (!mCasB (m) (adr (Mm.c m) 3 (Wk.T x % 65536 - 1)) (Wk.V x)) (some (.tup [.agg (encW { x with line := 44 }), I 0, B true], (objs LN t tw (mCas (m) (adr (Mm.c m) 3 (Wk.T x % 65536 - 1)) (Wk.V x) (pEntry (Wk.T x / 65536) (w64' (Wk.B x - 1)) 1))))) (some (.tup [.agg (encW { x with line := 0, B := 0 }), I 1, B true], (objs LN t tw (mCas (m) (adr (Mm.c m) 3 (Wk.T x % 65536 - 1)) (Wk.V x) (pEntry (Wk.T x / 65536) (w64' (Wk.B x - 1)) 1)))))) none) (br (uB (Wk.T x)) (br (uB (mLoadV (m) (adr (Mm.c m) 3 (Wk.T x % 65536 - 1)))) (br (!mLoadV (m) (adr (Mm.c m) 3 (Wk.T x % 65536 - 1)) % 16 == 1) (some (.tup [.agg (encW { x with line := 0 }), I 2, B true], (objs LN t tw (mLoad (m) (adr (Mm.c m) 3 (Wk.T x % 65536 - 1)))))) (br (!mLoadV (m) (adr (Mm.c m) 3 (Wk.T x % 65536 - 1)) / 1048576 == Wk.T x / 65536) (some (.tup [.agg (encW { x with line := 0 }), I 2, B true], (objs LN t tw (mLoad (m) (adr (Mm.c m) 3 (Wk.T x % 65536 - 1)))))) (some (.tup [.agg (encW { x with line := 0, C := IntKind.wrap .i64 (mLoadV (m) (adr (Mm.c m) 3 (Wk.T x % 65536 - 1)) / 16 % 65536 - 1 + 1), V := mLoadV (m) (adr (Mm.c m) 3 (Wk.T x % 65536 - 1)) }), I 1, B true], (objs LN t tw (mLoad (m) (adr (Mm.c m) 3 (Wk.T x % 65536 - 1)))))))) none) none))))) none))) (br (uB (Wk.T x)) (br (q == 40) (br (uB (mLoadV (m) (adr (Mm.c m) 3 (w64' (Wk.I x - 1))))) (some (.tup [.agg (encW { x with line := 41, G := mLoadV (m) (adr (Mm.c m) 3 (w64' (Wk.I x - 1))) / 1048576 }), I 0, B true], (objs LN t tw (mLoad (m) (adr (Mm.c m) 3 (w64' (Wk.I x - 1))))))) none) (br (q == 41) (br (uB (Wk.G x)) (br (uB (Wk.G x)) (some (.tup [.agg (encW { x with line := 0, B := 0, I := 0, T := pTicket (w64' (Wk.I x - 1)) (Wk.G x) }), I 1, B true], (objs LN t tw (mStore (m) (adr (Mm.c m) 3 (w64' (Wk.I x - 1))) (pEntry (Wk.G x) (w64' (Wk.B x - 1)) 1))))) none) none) (br (q == 43) (br (uB (wU (Wk.T x / 65536 + 1))) (br (decide (Wk.T x / 65536 ≥ Cf.l (Mm.c m))) (br (uB (Wk.T x / 65536)) (br (!mCasB (m) (adr (Mm.c m) 3 (Wk.T x % 65536 - 1)) (Wk.V x)) (some (.tup [.agg (encW { x with line := 42 }), I 0, B true], (objs LN t tw (mCas (m) (adr (Mm.c m) 3 (Wk.T x % 65536 - 1)) (Wk.V x) (pEntry (Wk.T x / 65536) (-1) 2))))) (some (.tup [.agg (encW { x with line := 0, I := 0 }), I 1, B true], (objs LN t tw (mCas (m) (adr (Mm.c m) 3 (Wk.T x % 65536 - 1)) (Wk.V x) (pEntry (Wk.T x / 65536) (-1) 2)))))) none) (br (!mCasB (m) (adr (Mm.c m) 3 (Wk.T x % 65536 - 1)) (Wk.V x)) (some (.tup [.agg (encW { x with line := 42 }), I 0, B true], (objs LN t tw (mCas (m) (adr (Mm.c m) 3 (Wk.T x % 65536 - 1)) (Wk.V x) (pEntry (wU (Wk.T x / 65536 + 1)) (-1) 0))))) (some (.tup [.agg (encW { x with line := 0, I := IntKind.wrap .i64 (Wk.T x % 65536 - 1 + 1) }), I 1, B true], (objs LN t tw (mCas (m) (adr (Mm.c m) 3 (Wk.T x % 65536 - 1)) (Wk.V x) (pEntry (wU (Wk.T x / 65536 + 1)) (-1) 0))))))) none) (br (q == 45) (br (uB (Wk.T x / 65536)) (br (!mCasB (m) (adr (Mm.c m) 3 (Wk.T x % 65536 - 1)) (Wk.V x)) (some (.tup [.agg (encW { x with line := 44 }), I 0, B true], (objs LN t tw (mCas (m) (adr (Mm.c m) 3 (Wk.T x % 65536 - 1)) (Wk.V x) (pEntry (Wk.T x / 65536) (w64' (Wk.B x - 1)) 1))))) (some (.tup [.agg (encW { x with line := 0, B := 0 }), I 1, B true], (objs LN t tw (mCas (m) (adr (Mm.c m) 3 (Wk.T x % 65536 - 1)) (Wk.V x) (pEntry (Wk.T x / 65536) (w64' (Wk.B x - 1)) 1)))))) none) (br (uB (Wk.T x)) (br (uB (mLoadV (m) (adr (Mm.c m) 3 (Wk.T x % 65536 - 1)))) (br (!mLoadV (m) (adr (Mm.c m) 3 (Wk.T x % 65536 - 1)) % 16 == 1) (some (.tup [.agg (encW { x with line := 0 }), I 2, B true], (objs LN t tw (mLoad (m) (adr (Mm.c m) 3 (Wk.T x % 65536 - 1)))))) (br (!mLoadV (m) (adr (Mm.c m) 3 (Wk.T x % 65536 - 1)) / 1048576 == Wk.T x / 65536) (some (.tup [.agg (encW { x with line := 0 }), I 2, B true], (objs LN t tw (mLoad (m) (adr (Mm.c m) 3 (Wk.T x % 65536 - 1)))))) (some (.tup [.agg (encW { x with line := 0, C := IntKind.wrap .i64 (mLoadV (m) (adr (Mm.c m) 3 (Wk.T x % 65536 - 1)) / 16 % 65536 - 1 + 1), V := mLoadV (m) (adr (Mm.c m) 3 (Wk.T x % 65536 - 1)) }), I 1, B true], (objs LN t tw (mLoad (m) (adr (Mm.c m) 3 (Wk.T x % 65536 - 1)))))))) none) none))))) none)) := by kernel_rfl
theorem nNP_40 (m : Mm) (x : Wk) (t tw : Nat) :
    sxFn (E1029 (Ω := SV × SH)) (An A1029 2) C1029 [.ptr 0 0, .agg (I 40 :: encT x)] (objs LM t tw m) (KT 2) =
    br (uB (Wk.T x)) (br (uB (mLoadV (mClear (m)) (adr (Mm.c m) 3 (w64' (Wk.I x - 1))))) (some (.tup [.agg (encW { x with line := 41, G := mLoadV (mClear (m)) (adr (Mm.c m) 3 (w64' (Wk.I x - 1))) / 1048576 }), I 0, B true], (objs LM t tw (mLoad (mClear (m)) (adr (Mm.c m) 3 (w64' (Wk.I x - 1))))))) none) none := by kernel_rfl
theorem nNN_20 (m : Mm) (x : Wk) (t tw : Nat) :
    sxFn (E1030 (Ω := SV × SH)) (An A1030 2) C1030 [.ptr 0 0, .agg (I 20 :: encT x)] (objs LN t tw m) (KT 2) =
    br (okM (m) && okW ({ x with line := 20 })) (br (SR.way (stepS (m) ({ x with line := 20 })) == 1) (some (.tup [.agg (encW { (SR.x (stepS (m) ({ x with line := 20 }))) with line := 40, I := IntKind.wrap .i64 (Wk.H (SR.x (stepS (m) ({ x with line := 20 })))) }), I 0, B true], (objs LN t tw (SR.m (stepS (m) ({ x with line := 20 })))))) (br (SR.way (stepS (m) ({ x with line := 20 })) == 1) (some (.tup [.agg (encW { (SR.x (stepS (m) ({ x with line := 20 }))) with I := 0 }), I (SR.way (stepS (m) ({ x with line := 20 }))), B true], (objs LN t tw (SR.m (stepS (m) ({ x with line := 20 })))))) (some (.tup [.agg (encW (SR.x (stepS (m) ({ x with line := 20 })))), I (SR.way (stepS (m) ({ x with line := 20 }))), B true], (objs LN t tw (SR.m (stepS (m) ({ x with line := 20 })))))))) none := by kernel_rfl
theorem nNN_42 (m : Mm) (x : Wk) (t tw : Nat) :
    sxFn (E1030 (Ω := SV × SH)) (An A1030 2) C1030 [.ptr 0 0, .agg (I 42 :: encT x)] (objs LN t tw m) (KT 2) =
    br (uB (Wk.T x)) (br (uB (Wk.T x)) (br (uB (mLoadV (m) (adr (Mm.c m) 3 (Wk.T x % 65536 - 1)))) (br (!mLoadV (m) (adr (Mm.c m) 3 (Wk.T x % 65536 - 1)) % 16 == 1) (some (.tup [.agg (encW { x with line := 0 }), I 2, B true], (objs LN t tw (mLoad (m) (adr (Mm.c m) 3 (Wk.T x % 65536 - 1)))))) (br (!mLoadV (m) (adr (Mm.c m) 3 (Wk.T x % 65536 - 1)) / 1048576 == Wk.T x / 65536) (some (.tup [.agg (encW { x with line := 0 }), I 2, B true], (objs LN t tw (mLoad (m) (adr (Mm.c m) 3 (Wk.T x % 65536 - 1)))))) (some (.tup [.agg (encW { x with line := 0, C := IntKind.wrap .i64 (mLoadV (m) (adr (Mm.c m) 3 (Wk.T x % 65536 - 1)) / 16 % 65536 - 1 + 1), V := mLoadV (m) (adr (Mm.c m) 3 (Wk.T x % 65536 - 1)) }), I 1, B true], (objs LN t tw (mLoad (m) (adr (Mm.c m) 3 (Wk.T x % 65536 - 1)))))))) none) none) none := by kernel_rfl

theorem nNP_any (m : Mm) (x : Wk) (t tw : Nat) (q : Int) :
    sxFn (E1029 (Ω := SV × SH)) (An A1029 2) C1029 [.ptr 0 0, .agg (I q :: encT x)] (objs LM t tw m) (KT 2) =
    br (decide (q ≥ 20)) (br (decide (q ≤ 25)) (br (okM (m) && okW ({ x with line := q })) (br (SR.way (stepS (m) ({ x with line := q })) == 1) (br (decide (q > 22)) (some (.tup [.agg (encW { (SR.x (stepS (m) ({ x with line := q }))) with I := 0 }), I (SR.way (stepS (m) ({ x with line := q }))), B true], (objs LM t tw (SR.m (stepS (m) ({ x with line := q })))))) (br (SR.way (stepS (m) ({ x with line := q })) == 1) (some (.tup [.agg (encW { (SR.x (stepS (m) ({ x with line := q }))) with line := 40, I := IntKind.wrap .i64 (Wk.H (SR.x (stepS (m) ({ x with line := q })))) }), I 0, B true], (objs LM t tw (SR.m (stepS (m) ({ x with line := q })))))) (some (.tup [.agg (encW (SR.x (stepS (m) ({ x with line := q })))), I (SR.way (stepS (m) ({ x with line := q }))), B true], (objs LM t tw (SR.m (stepS (m) ({ x with line := q })))))))) (br (SR.way (stepS (m) ({ x with line := q })) == 1) (some (.tup [.agg (encW { (SR.x (stepS (m) ({ x with line := q }))) with line := 40, I := IntKind.wrap .i64 (Wk.H (SR.x (stepS (m) ({ x with line := q })))) }), I 0, B true], (objs LM t tw (SR.m (stepS (m) ({ x with line := q })))))) (some (.tup [.agg (encW (SR.x (stepS (m) ({ x with line := q })))), I (SR.way (stepS (m) ({ x with line := q }))), B true], (objs LM t tw (SR.m (stepS (m) ({ x with line := q })))))))) none) (br (uB (Wk.T x)) (br (decide (q ≥ 40)) (br (decide (q ≤ 46)) (br (q == 40) (br (uB (mLoadV (mClear (m)) (adr (Mm.c m) 3 (w64' (Wk.I x - 1))))) (some (.tup [.agg (encW { x with line := 41, G := mLoadV (mClear (m)) (adr (Mm.c m) 3 (w64' (Wk.I x - 1))) / 1048576 }), I 0, B true], (objs LM t tw (mLoad (mClear (m)) (adr (Mm.c m) 3 (w64' (Wk.I x - 1))))))) none) (br (q == 41) (br (uB (Wk.G x)) (br (uB (Wk.G x)) (some (.tup [.agg (encW { x with line := 0, B := 0, I := 0, T := pTicket (w64' (Wk.I x - 1)) (Wk.G x) }), I 1, B true], (objs LM t tw (mStore (mClear (m)) (adr (Mm.c m) 3 (w64' (Wk.I x - 1))) (pEntry (Wk.G x) (w64' (Wk.B x - 1)) 1))))) none) none) (br (q == 42) (br (uB (mLoadV (mClear (m)) (adr (Mm.c m) 3 (Wk.T x % 65536 - 1)))) (br (mLoadV (mClear (m)) (adr (Mm.c m) 3 (Wk.T x % 65536 - 1)) % 16 == 1) (br (mLoadV (mClear (m)) (adr (Mm.c m) 3 (Wk.T x % 65536 - 1)) / 1048576 == Wk.T x / 65536) (some (.tup [.agg (encW { x with line := 0, C := IntKind.wrap .i64 (mLoadV (mClear (m)) (adr (Mm.c m) 3 (Wk.T x % 65536 - 1)) / 16 % 65536 - 1 + 1), V := mLoadV (mClear (m)) (adr (Mm.c m) 3 (Wk.T x % 65536 - 1)) }), I 1, B true], (objs LM t tw (mLoad (mClear (m)) (adr (Mm.c m) 3 (Wk.T x % 65536 - 1)))))) (some (.tup [.agg (encW { x with line := 0 }), I 2, B true], (objs LM t tw (mLoad (mClear (m)) (adr (Mm.c m) 3 (Wk.T x % 65536 - 1))))))) (some (.tup [.agg (encW { x with line := 0 }), I 2, B true], (objs LM t tw (mLoad (mClear (m)) (adr (Mm.c m) 3 (Wk.T x % 65536 - 1))))))) none) (br (q == 44) (br (uB (mLoadV (mClear (m)) (adr (Mm.c m) 3 (Wk.T x % 65536 - 1)))) (br (mLoadV (mClear (m)) (adr (Mm.c m) 3 (Wk.T x % 65536 - 1)) % 16 == 1) (br (mLoadV (mClear (m)) (adr (Mm.c m) 3 (Wk.T x % 65536 - 1)) / 1048576 == Wk.T x / 65536) (some (.tup [.agg (encW { x with line := 0, C := IntKind.wrap .i64 (mLoadV (mClear (m)) (adr (Mm.c m) 3 (Wk.T x % 65536 - 1)) / 16 % 65536 - 1 + 1), V := mLoadV (mClear (m)) (adr (Mm.c m) 3 (Wk.T x % 65536 - 1)) }), I 1, B true], (objs LM t tw (mLoad (mClear (m)) (adr (Mm.c m) 3 (Wk.T x % 65536 - 1)))))) (some (.tup [.agg (encW { x with line := 0 }), I 2, B true], (objs LM t tw (mLoad (mClear (m)) (adr (Mm.c m) 3 (Wk.T x % 65536 - 1))))))) (some (.tup [.agg (encW { x with line := 0 }), I 2, B true], (objs LM t tw (mLoad (mClear (m)) (adr (Mm.c m) 3 (Wk.T x % 65536 - 1))))))) none) (br (q == 46) (br (uB (mLoadV (mClear (m)) (adr (Mm.c m) 3 (Wk.T x % 65536 - 1)))) (br (mLoadV (mClear (m)) (adr (Mm.c m) 3 (Wk.T x % 65536 - 1)) % 16 == 1) (br (mLoadV (mClear (m)) (adr (Mm.c m) 3 (Wk.T x % 65536 - 1)) / 1048576 == Wk.T x / 65536) (some (.tup [.agg (encW { x with line := 0, C := IntKind.wrap .i64 (mLoadV (mClear (m)) (adr (Mm.c m) 3 (Wk.T x % 65536 - 1)) / 16 % 65536 - 1 + 1), V := mLoadV (mClear (m)) (adr (Mm.c m) 3 (Wk.T x % 65536 - 1)) }), I 1, B true], (objs LM t tw (mLoad (mClear (m)) (adr (Mm.c m) 3 (Wk.T x % 65536 - 1)))))) (some (.tup [.agg (encW { x with line := 0 }), I 2, B true], (objs LM t tw (mLoad (mClear (m)) (adr (Mm.c m) 3 (Wk.T x % 65536 - 1))))))) (some (.tup [.agg (encW { x with line := 0 }), I 2, B true], (objs LM t tw (mLoad (mClear (m)) (adr (Mm.c m) 3 (Wk.T x % 65536 - 1))))))) none) (br (q == 60) (br (uB (mLoadV (mClear (m)) (adr (Mm.c m) 3 (Wk.T x % 65536 - 1)))) (br (mLoadV (mClear (m)) (adr (Mm.c m) 3 (Wk.T x % 65536 - 1)) % 16 == 1) (br (mLoadV (mClear (m)) (adr (Mm.c m) 3 (Wk.T x % 65536 - 1)) / 1048576 == Wk.T x / 65536) (some (.tup [.agg (encW { x with line := 0, C := IntKind.wrap .i64 (mLoadV (mClear (m)) (adr (Mm.c m) 3 (Wk.T x % 65536 - 1)) / 16 % 65536 - 1 + 1), V := mLoadV (mClear (m)) (adr (Mm.c m) 3 (Wk.T x % 65536 - 1)) }), I 1, B true], (objs LM t tw (mLoad (mClear (m)) (adr (Mm.c m) 3 (Wk.T x % 65536 - 1)))))) (some (.tup [.agg (encW { x with line := 0 }), I 2, B true], (objs LM t tw (mLoad (mClear (m)) (adr (Mm.c m) 3 (Wk.T x % 65536 - 1))))))) (some (.tup [.agg (encW { x with line := 0 }), I 2, B true], (objs LM t tw (mLoad (mClear (m)) (adr (Mm.c m) 3 (Wk.T x % 65536 - 1))))))) none) (br (q == 43) (br (uB (wU (Wk.T x / 65536 + 1))) (br (decide (Wk.T x / 65536 ≥ Cf.l (Mm.c m))) (br (uB (Wk.T x / 65536)) (br (mCasB (mClear (m)) (adr (Mm.c m) 3 (Wk.T x % 65536 - 1)) (Wk.V x)) (some (.tup [.agg (encW { x with line := 0, I := 0 }), I 1, B true], (objs LM t tw (mCas (mClear (m)) (adr (Mm.c m) 3 (Wk.T x % 65536 - 1)) (Wk.V x) (pEntry (Wk.T x / 65536) (-1) 2))))) (some (.tup [.agg (encW { x with line := 42 }), I 0, B true], (objs LM t tw (mCas (mClear (m)) (adr (Mm.c m) 3 (Wk.T x % 65536 - 1)) (Wk.V x) (pEntry (Wk.T x / 65536) (-1) 2)))))) none) (br (mCasB (mClear (m)) (adr (Mm.c m) 3 (Wk.T x % 65536 - 1)) (Wk.V x)) (some (.tup [.agg (encW { x with line := 0, I := IntKind.wrap .i64 (Wk.T x % 65536 - 1 + 1) }), I 1, B true], (objs LM t tw (mCas (mClear (m)) (adr (Mm.c m) 3 (Wk.T x % 65536 - 1)) (Wk.V x) (pEntry (wU (Wk.T x / 65536 + 1)) (-1) 0))))) (some (.tup [.agg (encW { x with line := 42 }), I 0, B true], (objs LM t tw (mCas (mClear (m)) (adr (Mm.c m) 3 (Wk.T x % 65536 - 1)) (Wk.V x) (pEntry (wU (Wk.T x / 65536 + 1)) (-1) 0))))))) none) (br (q == 45) (br (uB (Wk.T x / 65536)) (br (mCasB (mClear (m)) (adr (Mm.c m) 3 (Wk.T x % 65536 - 1)) (Wk.V x)) (some (.tup [.agg (encW { x with line := 0, B := 0 }), I 1, B true], (objs LM t tw (mCas (mClear (m)) (adr (Mm.c m) 3 (Wk.T x % 65536 - 1)) (Wk.V x) (pEntry (Wk.T x / 65536) (w64' (Wk.B x - 1)) 1))))) (some (.tup [.agg (encW { x with line := 44 }), I 0, B true], (objs LM t tw (mCas (mClear (m)) (adr (Mm.c m) 3 (Wk.T x % 65536 - 1)) (Wk.V x) (pEntry (Wk.T x / 65536) (w64' (Wk.B x - 1)) 1)))))) none) (some (.tup [.agg (encW { x with line := q }), I 0, B false], (objs LM t tw (mClear (m))))))))))))) (br (q == 60) (br (q == 40) (br (uB (mLoadV (mClear (m)) (adr (Mm.c m) 3 (w64' (Wk.I x - 1))))) (some (.tup [.agg (encW { x with line := 41, G := mLoadV (mClear (m)) (adr (Mm.c m) 3 (w64' (Wk.I x - 1))) / 1048576 }), I 0, B true], (objs LM t tw (mLoad (mClear (m)) (adr (Mm.c m) 3 (w64' (Wk.I x - 1))))))) none) (br (q == 41) (br (uB (Wk.G x)) (br (uB (Wk.G x)) (some (.tup [.agg (encW { x with line := 0, B := 0, I := 0, T := pTicket (w64' (Wk.I x - 1)) (Wk.G x) }), I 1, B true], (objs LM t tw (mStore (mClear (m)) (adr (Mm.c m) 3 (w64' (Wk.I x - 1))) (pEntry (Wk.G x) (w64' (Wk.B x - 1)) 1))))) none) none) (br (q == 42) (br (uB (mLoadV (mClear (m)) (adr (Mm.c m) 3 (Wk.T x % 65536 - 1)))) (br (mLoadV (mClear (m)) (adr (Mm.c m) 3 (Wk.T x % 65536 - 1)) % 16 == 1) (br (mLoadV (mClear (m)) (adr (Mm.c m) 3 (Wk.T x % 65536 - 1)) / 1048576 == Wk.T x / 65536) (some (.tup [.agg (encW { x with line := 0, C := IntKind.wrap .i64 (mLoadV (mClear (m)) (adr (Mm.c m) 3 (Wk.T x % 65536 - 1)) / 16 % 65536 - 1 + 1), V := mLoadV (mClear (m)) (adr (Mm.c m) 3 (Wk.T x % 65536 - 1)) }), I 1, B true], (objs LM t tw (mLoad (mClear (m)) (adr (Mm.c m) 3 (Wk.T x % 65536 - 1)))))) (some (.tup [.agg (encW { x with line := 0 }), I 2, B true], (objs LM t tw (mLoad (mClear (m)) (adr (Mm.c m) 3 (Wk.T x % 65536 - 1))))))) (some (.tup [.agg (encW { x with line := 0 }), I 2, B true], (objs LM t tw (mLoad (mClear (m)) (adr (Mm.c m) 3 (Wk.T x % 65536 - 1))))))) none) (br (q == 44) (br (uB (mLoadV (mClear (m)) (adr (Mm.c m) 3 (Wk.T x % 65536 - 1)))) (br (mLoadV (mClear (m)) (adr (Mm.c m) 3 (Wk.T x % 65536 - 1)) % 16 == 1) (br (mLoadV (mClear (m)) (adr (Mm.c m) 3 (Wk.T x % 65536 - 1)) / 1048576 == Wk.T x / 65536) (some (.tup [.agg (encW { x with line := 0, C := IntKind.wrap .i64 (mLoadV (mClear (m)) (adr (Mm.c m) 3 (Wk.T x % 65536 - 1)) / 16 % 65536 - 1 + 1), V := mLoadV (mClear (m)) (adr (Mm.c m) 3 (Wk.T x % 65536 - 1)) }), I 1, B true], (objs LM t tw (mLoad (mClear (m)) (adr (Mm.c m) 3 (Wk.T x % 65536 - 1)))))) (some (.tup [.agg (encW { x with line := 0 }), I 2, B true], (objs LM t tw (mLoad (mClear (m)) (adr (Mm.c m) 3 (Wk.T x % 65536 - 1))))))) (some (.tup [.agg (encW { x with line := 0 }), I 2, B true], (objs LM t tw (mLoad (mClear (m)) (adr (Mm.c m) 3 (Wk.T x % 65536 - 1))))))) none) (br (q == 46) (br (uB (mLoadV (mClear (m)) (adr (Mm.c m) 3 (Wk.T x % 65536 - 1)))) (br (mLoadV (mClear (m)) (adr (Mm.c m) 3 (Wk.T x % 65536 - 1)) % 16 == 1) (br (mLoadV (mClear (m)) (adr (Mm.c m) 3 (Wk.T x % 65536 - 1)) / 1048576 == Wk.T x / 65536) (some (.tup [.agg (encW { x with line := 0, C := IntKind.wrap .i64 (mLoadV (mClear (m)) (adr (Mm.c m) 3 (Wk.T x % 65536 - 1)) / 16 % 65536 - 1 + 1), V := mLoadV (mClear (m)) (adr (Mm.c m) 3 (Wk.T x % 65536 - 1)) }), I 1, B true], (objs LM t tw (mLoad (mClear (m)) (adr (Mm.c m) 3 (Wk.T x % 65536 - 1)))))) (some (.tup [.agg (encW { x with line := 0 }), I 2, B true], (objs LM t tw (mLoad (mClear (m)) (adr (Mm.c m) 3 (Wk.T x % 65536 - 1))))))) (some (.tup [.agg (encW { x with line := 0 }), I 2, B true], (objs LM t tw (mLoad (mClear (m)) (adr (Mm.c m) 3 (Wk.T x % 65536 - 1))))))) none) (br (q == 60) (br (uB (mLoadV (mClear (m)) (adr (Mm.c m) 3 (Wk.T x % 65536 - 1)))) (br (mLoadV (mClear (m)) (adr (Mm.c m) 3 (Wk.T x % 65536 - 1)) % 16 == 1) (br (mLoadV (mClear (m)) (adr (Mm.c m) 3 (Wk.T x % 65536 - 1)) / 1048576 == Wk.T x / 65536) (some (.tup [.agg (encW { x with line := 0, C := IntKind.wrap .i64 (mLoadV (mClear (m)) (adr (Mm.c m) 3 (Wk.T x % 65536 - 1)) / 16 % 65536 - 1 + 1), V := mLoadV (mClear (m)) (adr (Mm.c m) 3 (Wk.T x % 65536 - 1)) }), I 1, B true], (objs LM t tw (mLoad (mClear (m)) (adr (Mm.c m) 3 (Wk.T x % 65536 - 1)))))) (some (.tup [.agg (encW { x with line := 0 }), I 2, B true], (objs LM t tw (mLoad (mClear (m)) (adr (Mm.c m) 3 (Wk.T x % 65536 - 1))))))) (some (.tup [.agg (encW { x with line := 0 }), I 2, B true], (objs LM t tw (mLoad (mClear (m)) (adr (Mm.c m) 3 (Wk.T x % 65536 - 1))))))) none) (br (q == 43) (br (uB (wU (Wk.T x / 65536 + 1))) (br (decide (Wk.T x / 65536 ≥ Cf.l (Mm.c m))) (br (uB (Wk.T x / 65536)) (br (mCasB (mClear (m)) (adr (Mm.c m) 3 (Wk.T x % 65536 - 1)) (Wk.V x)) (some (.tup [.agg (encW { x with line := 0, I := 0 }), I 1, B true], (objs LM t tw (mCas (mClear (m)) (adr (Mm.c m) 3 (Wk.T x % 65536 - 1)) (Wk.V x) (pEntry (Wk.T x / 65536) (-1) 2))))) (some (.tup [.agg (encW { x with line := 42 }), I 0, B true], (objs LM t tw (mCas (mClear (m)) (adr (Mm.c m) 3 (Wk.T x % 65536 - 1)) (Wk.V x) (pEntry (Wk.T x / 65536) (-1) 2)))))) none) (br (mCasB (mClear (m)) (adr (Mm.c m) 3 (Wk.T x % 65536 - 1)) (Wk.V x)) (some (.tup [.agg (encW { x with line := 0, I := IntKind.wrap .i64 (Wk.T x % 65536 - 1 + 1) }), I 1, B true], (objs LM t tw (mCas (mClear (m)) (adr (Mm.c m) 3 (Wk.T x % 65536 - 1)) (Wk.V x) (pEntry (wU (Wk.T x / 65536 + 1)) (-1) 0))))) (some (.tup [.agg (encW { x with line := 42 }), I 0, B true], (objs LM t tw (mCas (mClear (m)) (adr (Mm.c m) 3 (Wk.T x % 65536 - 1)) (Wk.V x) (pEntry (wU (Wk.T x / 65536 + 1)) (-1) 0))))))) none) (br (q == 45) (br (uB (Wk.T x / 65536)) (br (mCasB (mClear (m)) (adr (Mm.c m) 3 (Wk.T x % 65536 - 1)) (Wk.V x)) (some (.tup [.agg (encW { x with line := 0, B := 0 }), I 1, B true], (objs LM t tw (mCas (mClear (m)) (adr (Mm.c m) 3 (Wk.T x % 65536 - 1)) (Wk.V x) (pEntry (Wk.T x / 65536) (w64' (Wk.B x - 1)) 1))))) (some (.tup [.agg (encW { x with line := 44 }), I 0, B true], (objs LM t tw (mCas (mClear (m)) (adr (Mm.c m) 3 (Wk.T x % 65536 - 1)) (Wk.V x) (pEntry (Wk.T x / 65536) (w64' (Wk.B x - 1)) 1)))))) none) (some (.tup [.agg (encW { x with line := q }), I 0, B false], (objs LM t tw (mClear (m))))))))))))) (br (q == 40) (br (uB (mLoadV (m) (adr (Mm.c m) 3 (w64' (Wk.I x - 1))))) (some (.tup [.agg (encW { x with line := 41, G := mLoadV (m) (adr (Mm.c m) 3 (w64' (Wk.I x - 1))) / 1048576 }), I 0, B true], (objs LM t tw (mLoad (m) (adr (Mm.c m) 3 (w64' (Wk.I x - 1))))))) none) (br (q == 41) (br (uB (Wk.G x)) (br (uB (Wk.G x)) (some (.tup [.agg (encW { x with line := 0, B := 0, I := 0, T := pTicket (w64' (Wk.I x - 1)) (Wk.G x) }), I 1, B true], (objs LM t tw (mStore (m) (adr (Mm.c m) 3 (w64' (Wk.I x - 1))) (pEntry (Wk.G x) (w64' (Wk.B x - 1)) 1))))) none) none) (br (q == 42) (br (uB (mLoadV (m) (adr (Mm.c m) 3 (Wk.T x % 65536 - 1)))) (br (mLoadV (m) (adr (Mm.c m) 3 (Wk.T x % 65536 - 1)) % 16 == 1) (br (mLoadV (m) (adr (Mm.c m) 3 (Wk.T x % 65536 - 1)) / 1048576 == Wk.T x / 65536) (some (.tup [.agg (encW { x with line := 0, C := IntKind.wrap .i64 (mLoadV (m) (adr (Mm.c m) 3 (Wk.T x % 65536 - 1)) / 16 % 65536 - 1 + 1), V := mLoadV (m) (adr (Mm.c m) 3 (Wk.T x % 65536 - 1)) }), I 1, B true], (objs LM t tw (mLoad (m) (adr (Mm.c m) 3 (Wk.T x % 65536 - 1)))))) (some (.tup [.agg (encW { x with line := 0 }), I 2, B true], (objs LM t tw (mLoad (m) (adr (Mm.c m) 3 (Wk.T x % 65536 - 1))))))) (some (.tup [.agg (encW { x with line := 0 }), I 2, B true], (objs LM t tw (mLoad (m) (adr (Mm.c m) 3 (Wk.T x % 65536 - 1))))))) none) (br (q == 44) (br (uB (mLoadV (m) (adr (Mm.c m) 3 (Wk.T x % 65536 - 1)))) (br (mLoadV (m) (adr (Mm.c m) 3 (Wk.T x % 65536 - 1)) % 16 == 1) (br (mLoadV (m) (adr (Mm.c m) 3 (Wk.T x % 65536 - 1)) / 1048576 == Wk.T x / 65536) (some (.tup [.agg (encW { x with line := 0, C := IntKind.wrap .i64 (mLoadV (m) (adr (Mm.c m) 3 (Wk.T x % 65536 - 1)) / 16 % 65536 - 1 + 1), V := mLoadV (m) (adr (Mm.c m) 3 (Wk.T x % 65536 - 1)) }), I 1, B true], (objs LM t tw (mLoad (m) (adr (Mm.c m) 3 (Wk.T x % 65536 - 1)))))) (some (.tup [.agg (encW { x with line := 0 }), I 2, B true], (objs LM t tw (mLoad (m) (adr (Mm.c m) 3 (Wk.T x % 65536 - 1))))))) (some (.tup [.agg (encW { x with line := 0 }), I 2, B true], (objs LM t tw (mLoad (m) (adr (Mm.c m) 3 (Wk.T x % 65536 - 1))))))) none) (br (q == 46) (br (uB (mLoadV (m) (adr (Mm.c m) 3 (Wk.T x % 65536 - 1)))) (br (mLoadV (m) (adr (Mm.c m) 3 (Wk.T x % 65536 - 1)) % 16 == 1) (br (mLoadV (m) (adr (Mm.c m) 3 (Wk.T x % 65536 - 1)) / 1048576 == Wk.T x / 65536) (some (.tup [.agg (encW { x with line := 0, C := IntKind.wrap .i64 (mLoadV (m) (adr (Mm.c m) 3 (Wk.T x % 65536 - 1)) / 16 % 65536 - 1 + 1), V := mLoadV (m) (adr (Mm.c m) 3 (Wk.T x % 65536 - 1)) }), I 1, B true], (objs LM t tw (mLoad (m) (adr (Mm.c m) 3 (Wk.T x % 65536 - 1)))))) (some (.tup [.agg (encW { x with line := 0 }), I 2, B true], (objs LM t tw (mLoad (m) (adr (Mm.c m) 3 (Wk.T x % 65536 - 1))))))) (some (.tup [.agg (encW { x with line := 0 }), I 2, B true], (objs LM t tw (mLoad (m) (adr (Mm.c m) 3 (Wk.T x % 65536 - 1))))))) none) (br (q == 60) (br (uB (mLoadV (m) (adr (Mm.c m) 3 (Wk.T x % 65536 - 1)))) (br (mLoadV (m) (adr (Mm.c m) 3 (Wk.T x % 65536 - 1)) % 16 == 1) (br (mLoadV (m) (adr (Mm.c m) 3 (Wk.T x % 65536 - 1)) / 1048576 == Wk.T x / 65536) (some (.tup [.agg (encW { x with line := 0, C := IntKind.wrap .i64 (mLoadV (m) (adr (Mm.c m) 3 (Wk.T x % 65536 - 1)) / 16 % 65536 - 1 + 1), V := mLoadV (m) (adr (Mm.c m) 3 (Wk.T x % 65536 - 1)) }), I 1, B true], (objs LM t tw (mLoad (m) (adr (Mm.c m) 3 (Wk.T x % 65536 - 1)))))) (some (.tup [.agg (encW { x with line := 0 }), I 2, B true], (objs LM t tw (mLoad (m) (adr (Mm.c m) 3 (Wk.T x % 65536 - 1))))))) (some (.tup [.agg (encW { x with line := 0 }), I 2, B true], (objs LM t tw (mLoad (m) (adr (Mm.c m) 3 (Wk.T x % 65536 - 1))))))) none) (br (q == 43) (br (uB (wU (Wk.T x / 65536 + 1))) (br (decide (Wk.T x / 65536 ≥ Cf.l (Mm.c m))) (br (uB (Wk.T x / 65536)) (br (mCasB (m) (adr (Mm.c m) 3 (Wk.T x % 65536 - 1)) (Wk.V x)) (some (.tup [.agg (encW { x with line := 0, I := 0 }), I 1, B true], (objs LM t tw (mCas (m) (adr (Mm.c m) 3 (Wk.T x % 65536 - 1)) (Wk.V x) (pEntry (Wk.T x / 65536) (-1) 2))))) (some (.tup [.agg (encW { x with line := 42 }), I 0, B true], (objs LM t tw (mCas (m) (adr (Mm.c m) 3 (Wk.T x % 65536 - 1)) (Wk.V x) (pEntry (Wk.T x / 65536) (-1) 2)))))) none) (br (mCasB (m) (adr (Mm.c m) 3 (Wk.T x % 65536 - 1)) (Wk.V x)) (some (.tup [.agg (encW { x with line := 0, I := IntKind.wrap .i64 (Wk.T x % 65536 - 1 + 1) }), I 1, B true], (objs LM t tw (mCas (m) (adr (Mm.c m) 3 (Wk.T x % 65536 - 1)) (Wk.V x) (pEntry (wU (Wk.T x / 65536 + 1)) (-1) 0))))) (some (.tup [.agg (encW { x with line := 42 }), I 0, B true], (objs LM t tw (mCas (m) (adr (Mm.c m) 3 (Wk.T x % 65536 - 1)) (Wk.V x) (pEntry (wU (Wk.T x / 65536 + 1)) (-1) 0))))))) none) (br (q == 45) (br (uB (Wk.T x / 65536)) (br (mCasB (m) (adr (Mm.c m) 3 (Wk.T x % 65536 - 1)) (Wk.V x)) (some (.tup [.agg (encW { x with line := 0, B := 0 }), I 1, B true], (objs LM t tw (mCas (m) (adr (Mm.c m) 3 (Wk.T x % 65536 - 1)) (Wk.V x) (pEntry (Wk.T x / 65536) (w64' (Wk.B x - 1)) 1))))) (some (.tup [.agg (encW { x with line := 44 }), I 0, B true], (objs LM t tw (mCas (m) (adr (Mm.c m) 3 (Wk.T x % 65536 - 1)) (Wk.V x) (pEntry (Wk.T x / 65536) (w64' (Wk.B x - 1)) 1)))))) none) (some (.tup [.agg (encW { x with line := q }), I 0, B false], (objs LM t tw m))))))))))))) (br (q == 60) (br (q == 40) (br (uB (mLoadV (mClear (m)) (adr (Mm.c m) 3 (w64' (Wk.I x - 1))))) (some (.tup [.agg (encW { x with line := 41, G := mLoadV (mClear (m)) (adr (Mm.c m) 3 (w64' (Wk.I x - 1))) / 1048576 }), I 0, B true], (objs LM t tw (mLoad (mClear (m)) (adr (Mm.c m) 3 (w64' (Wk.I x - 1))))))) none) (br (q == 41) (br (uB (Wk.G x)) (br (uB (Wk.G x)) (some (.tup [.agg (encW { x with line := 0, B := 0, I := 0, T := pTicket (w64' (Wk.I x - 1)) (Wk.G x) }), I 1, B true], (objs LM t tw (mStore (mClear (m)) (adr (Mm.c m) 3 (w64' (Wk.I x - 1))) (pEntry (Wk.G x) (w64' (Wk.B x - 1)) 1))))) none) none) (br (q == 42) (br (uB (mLoadV (mClear (m)) (adr (Mm.c m) 3 (Wk.T x % 65536 - 1)))) (br (mLoadV (mClear (m)) (adr (Mm.c m) 3 (Wk.T x % 65536 - 1)) % 16 == 1) (br (mLoadV (mClear (m)) (adr (Mm.c m) 3 (Wk.T x % 65536 - 1)) / 1048576 == Wk.T x / 65536) (some (.tup [.agg (encW { x with line := 0, C := IntKind.wrap .i64 (mLoadV (mClear (m)) (adr (Mm.c m) 3 (Wk.T x % 65536 - 1)) / 16 % 65536 - 1 + 1), V := mLoadV (mClear (m)) (adr (Mm.c m) 3 (Wk.T x % 65536 - 1)) }), I 1, B true], (objs LM t tw (mLoad (mClear (m)) (adr (Mm.c m) 3 (Wk.T x % 65536 - 1)))))) (some (.tup [.agg (encW { x with line := 0 }), I 2, B true], (objs LM t tw (mLoad (mClear (m)) (adr (Mm.c m) 3 (Wk.T x % 65536 - 1))))))) (some (.tup [.agg (encW { x with line := 0 }), I 2, B true], (objs LM t tw (mLoad (mClear (m)) (adr (Mm.c m) 3 (Wk.T x % 65536 - 1))))))) none) (br (q == 44) (br (uB (mLoadV (mClear (m)) (adr (Mm.c m) 3 (Wk.T x % 65536 - 1)))) (br (mLoadV (mClear (m)) (adr (Mm.c m) 3 (Wk.T x % 65536 - 1)) % 16 == 1) (br (mLoadV (mClear (m)) (adr (Mm.c m) 3 (Wk.T x % 65536 - 1)) / 1048576 == Wk.T x / 65536) (some (.tup [.agg (encW { x with line := 0, C := IntKind.wrap .i64 (mLoadV (mClear (m)) (adr (Mm.c m) 3 (Wk.T x % 65536 - 1)) / 16 % 65536 - 1 + 1), V := mLoadV (mClear (m)) (adr (Mm.c m) 3 (Wk.T x % 65536 - 1)) }), I 1, B true], (objs LM t tw (mLoad (mClear (m)) (adr (Mm.c m) 3 (Wk.T x % 65536 - 1)))))) (some (.tup [.agg (encW { x with line := 0 }), I 2, B true], (objs LM t tw (mLoad (mClear (m)) (adr (Mm.c m) 3 (Wk.T x % 65536 - 1))))))) (some (.tup [.agg (encW { x with line := 0 }), I 2, B true], (objs LM t tw (mLoad (mClear (m)) (adr (Mm.c m) 3 (Wk.T x % 65536 - 1))))))) none) (br (q == 46) (br (uB (mLoadV (mClear (m)) (adr (Mm.c m) 3 (Wk.T x % 65536 - 1)))) (br (mLoadV (mClear (m)) (adr (Mm.c m) 3 (Wk.T x % 65536 - 1)) % 16 == 1) (br (mLoadV (mClear (m)) (adr (Mm.c m) 3 (Wk.T x % 65536 - 1)) / 1048576 == Wk.T x / 65536) (some (.tup [.agg (encW { x with line := 0, C := IntKind.wrap .i64 (mLoadV (mClear (m)) (adr (Mm.c m) 3 (Wk.T x % 65536 - 1)) / 16 % 65536 - 1 + 1), V := mLoadV (mClear (m)) (adr (Mm.c m) 3 (Wk.T x % 65536 - 1)) }), I 1, B true], (objs LM t tw (mLoad (mClear (m)) (adr (Mm.c m) 3 (Wk.T x % 65536 - 1)))))) (some (.tup [.agg (encW { x with line := 0 }), I 2, B true], (objs LM t tw (mLoad (mClear (m)) (adr (Mm.c m) 3 (Wk.T x % 65536 - 1))))))) (some (.tup [.agg (encW { x with line := 0 }), I 2, B true], (objs LM t tw (mLoad (mClear (m)) (adr (Mm.c m) 3 (Wk.T x % 65536 - 1))))))) none) (br (q == 60) (br (uB (mLoadV (mClear (m)) (adr (Mm.c m) 3 (Wk.T x % 65536 - 1)))) (br (mLoadV (mClear (m)) (adr (Mm.c m) 3 (Wk.T x % 65536 - 1)) % 16 == 1) (br (mLoadV (mClear (m)) (adr (Mm.c m) 3 (Wk.T x % 65536 - 1)) / 1048576 == Wk.T x / 65536) (some (.tup [.agg (encW { x with line := 0, C := IntKind.wrap .i64 (mLoadV (mClear (m)) (adr (Mm.c m) 3 (Wk.T x % 65536 - 1)) / 16 % 65536 - 1 + 1), V := mLoadV (mClear (m)) (adr (Mm.c m) 3 (Wk.T x % 65536 - 1)) }), I 1, B true], (objs LM t tw (mLoad (mClear (m)) (adr (Mm.c m) 3 (Wk.T x % 65536 - 1)))))) (some (.tup [.agg (encW { x with line := 0 }), I 2, B true], (objs LM t tw (mLoad (mClear (m)) (adr (Mm.c m) 3 (Wk.T x % 65536 - 1))))))) (some (.tup [.agg (encW { x with line := 0 }), I 2, B true], (objs LM t tw (mLoad (mClear (m)) (adr (Mm.c m) 3 (Wk.T x % 65536 - 1))))))) none) (br (q == 43) (br (uB (wU (Wk.T x / 65536 + 1))) (br (decide (Wk.T x / 65536 ≥ Cf.l (Mm.c m))) (br (uB (Wk.T x / 65536)) (br (mCasB (mClear (m)) (adr (Mm.c m) 3 (Wk.T x % 65536 - 1)) (Wk.V x)) (some (.tup [.agg (encW { x with line := 0, I := 0 }), I 1, B true], (objs LM t tw (mCas (mClear (m)) (adr (Mm.c m) 3 (Wk.T x % 65536 - 1)) (Wk.V x) (pEntry (Wk.T x / 65536) (-1) 2))))) (some (.tup [.agg (encW { x with line := 42 }), I 0, B true], (objs LM t tw (mCas (mClear (m)) (adr (Mm.c m) 3 (Wk.T x % 65536 - 1)) (Wk.V x) (pEntry (Wk.T x / 65536) (-1) 2)))))) none) (br (mCasB (mClear (m)) (adr (Mm.c m) 3 (Wk.T x % 65536 - 1)) (Wk.V x)) (some (.tup [.agg (encW { x with line := 0, I := IntKind.wrap .i64 (Wk.T x % 65536 - 1 + 1) }), I 1, B true], (objs LM t tw (mCas (mClear (m)) (adr (Mm.c m) 3 (Wk.T x % 65536 - 1)) (Wk.V x) (pEntry (wU (Wk.T x / 65536 + 1)) (-1) 0))))) (some (.tup [.agg (encW { x with line := 42 }), I 0, B true], (objs LM t tw (mCas (mClear (m)) (adr (Mm.c m) 3 (Wk.T x % 65536 - 1)) (Wk.V x) (pEntry (wU (Wk.T x / 65536 + 1)) (-1) 0))))))) none) (br (q == 45) (br (uB (Wk.T x / 65536)) (br (mCasB (mClear (m)) (adr (Mm.c m) 3 (Wk.T x % 65536 - 1)) (Wk.V x)) (some (.tup [.agg (encW { x with line := 0, B := 0 }), I 1, B true], (objs LM t tw (mCas (mClear (m)) (adr (Mm.c m) 3 (Wk.T x % 65536 - 1)) (Wk.V x) (pEntry (Wk.T x / 65536) (w64' (Wk.B x - 1)) 1))))) (some (.tup [.agg (encW { x with line := 44 }), I 0, B true], (objs LM t tw (mCas (mClear (m)) (adr (Mm.c m) 3 (Wk.T x % 65536 - 1)) (Wk.V x) (pEntry (Wk.T x / 65536) (w64' (Wk.B x - 1)) 1)))))) none) (some (.tup [.agg (encW { x with line := q }), I 0, B false], (objs LM t tw (mClear (m))))))))))))) (br (q == 40) (br (uB (mLoadV (m) (adr (Mm.c m) 3 (w64' (Wk.I x - 1))))) (some (.tup [.agg (encW { x with line := 41, G := mLoadV (m) (adr (Mm.c m) 3 (w64' (Wk.I x - 1))) / 1048576 }), I 0, B true], (objs LM t tw (mLoad (m) (adr (Mm.c m) 3 (w64' (Wk.I x - 1))))))) none) (br (q == 41) (br (uB (Wk.G x)) (br (uB (Wk.G x)) (some (.tup [.agg (encW { x with line := 0, B := 0, I := 0, T := pTicket (w64' (Wk.I x - 1)) (Wk.G x) }), I 1, B true], (objs LM t tw (mStore (m) (adr (Mm.c m) 3 (w64' (Wk.I x - 1))) (pEntry (Wk.G x) (w64' (Wk.B x - 1)) 1))))) none) none) (br (q == 42) (br (uB (mLoadV (m) (adr (Mm.c m) 3 (Wk.T x % 65536 - 1)))) (br (mLoadV (m) (adr (Mm.c m) 3 (Wk.T x % 65536 - 1)) % 16 == 1) (br (mLoadV (m) (adr (Mm.c m) 3 (Wk.T x % 65536 - 1)) / 1048576 == Wk.T x / 65536) (some (.tup [.agg (encW { x with line := 0, C := IntKind.wrap .i64 (mLoadV (m) (adr (Mm.c m) 3 (Wk.T x % 65536 - 1)) / 16 % 65536 - 1 + 1), V := mLoadV (m) (adr (Mm.c m) 3 (Wk.T x % 65536 - 1)) }), I 1, B true], (objs LM t tw (mLoad (m) (adr (Mm.c m) 3 (Wk.T x % 65536 - 1)))))) (some (.tup [.agg (encW { x with line := 0 }), I 2, B true], (objs LM t tw (mLoad (m) (adr (Mm.c m) 3 (Wk.T x % 65536 - 1))))))) (some (.tup [.agg (encW { x with line := 0 }), I 2, B true], (objs LM t tw (mLoad (m) (adr (Mm.c m) 3 (Wk.T x % 65536 - 1))))))) none) (br (q == 44) (br (uB (mLoadV (m) (adr (Mm.c m) 3 (Wk.T x % 65536 - 1)))) (br (mLoadV (m) (adr (Mm.c m) 3 (Wk.T x % 65536 - 1)) % 16 == 1) (br (mLoadV (m) (adr (Mm.c m) 3 (Wk.T x % 65536 - 1)) / 1048576 == Wk.T x / 65536) (some (.tup [.agg (encW { x with line := 0, C := IntKind.wrap .i64 (mLoadV (m) (adr (Mm.c m) 3 (Wk.T x % 65536 - 1)) / 16 % 65536 - 1 + 1), V := mLoadV (m) (adr (Mm.c m) 3 (Wk.T x % 65536 - 1)) }), I 1, B true], (objs LM t tw (mLoad (m) (adr (Mm.c m) 3 (Wk.T x % 65536 - 1)))))) (some (.tup [.agg (encW { x with line := 0 }), I 2, B true], (objs LM t tw (mLoad (m) (adr (Mm.c m) 3 (Wk.T x % 65536 - 1))))))) (some (.tup [.agg (encW { x with line := 0 }), I 2, B true], (objs LM t tw (mLoad (m) (adr (Mm.c m) 3 (Wk.T x % 65536 - 1))))))) none) (br (q == 46) (br (uB (mLoadV (m) (adr (Mm.c m) 3 (Wk.T x % 65536 - 1)))) (br (mLoadV (m) (adr (Mm.c m) 3 (Wk.T x % 65536 - 1)) % 16 == 1) (br (mLoadV (m) (adr (Mm.c m) 3 (Wk.T x % 65536 - 1)) / 1048576 == Wk.T x / 65536) (some (.tup [.agg (encW { x with line := 0, C := IntKind.wrap .i64 (mLoadV (m) (adr (Mm.c m) 3 (Wk.T x % 65536 - 1)) / 16 % 65536 - 1 + 1), V := mLoadV (m) (adr (Mm.c m) 3 (Wk.T x % 65536 - 1)) }), I 1, B true], (objs LM t tw (mLoad (m) (adr (Mm.c m) 3 (Wk.T x % 65536 - 1)))))) (some (.tup [.agg (encW { x with line := 0 }), I 2, B true], (objs LM t tw (mLoad (m) (adr (Mm.c m) 3 (Wk.T x % 65536 - 1))))))) (some (.tup [.agg (encW { x with line := 0 }), I 2, B true], (objs LM t tw (mLoad (m) (adr (Mm.c m) 3 (Wk.T x % 65536 - 1))))))) none) (br (q == 60) (br (uB (mLoadV (m) (adr (Mm.c m) 3 (Wk.T x % 65536 - 1)))) (br (mLoadV (m) (adr (Mm.c m) 3 (Wk.T x % 65536 - 1)) % 16 == 1) (br (mLoadV (m) (adr (Mm.c m) 3 (Wk.T x % 65536 - 1)) / 1048576 == Wk.T x / 65536) (some (.tup [.agg (encW { x with line := 0, C := IntKind.wrap .i64 (mLoadV (m) (adr (Mm.c m) 3 (Wk.T x % 65536 - 1)) / 16 % 65536 - 1 + 1), V := mLoadV (m) (adr (Mm.c m) 3 (Wk.T x % 65536 - 1)) }), I 1, B true], (objs LM t tw (mLoad (m) (adr (Mm.c m) 3 (Wk.T x % 65536 - 1)))))) (some (.tup [.agg (encW { x with line := 0 }), I 2, B true], (objs LM t tw (mLoad (m) (adr (Mm.c m) 3 (Wk.T x % 65536 - 1))))))) (some (.tup [.agg (encW { x with line := 0 }), I 2, B true], (objs LM t tw (mLoad (m) (adr (Mm.c m) 3 (Wk.T x % 65536 - 1))))))) none) (br (q == 43) (br (uB (wU (Wk.T x / 65536 + 1))) (br (decide (Wk.T x / 65536 ≥ Cf.l (Mm.c m))) (br (uB (Wk.T x / 65536)) (br (mCasB (m) (adr (Mm.c m) 3 (Wk.T x % 65536 - 1)) (Wk.V x)) (some (.tup [.agg (encW { x with line := 0, I := 0 }), I 1, B true], (objs LM t tw (mCas (m) (adr (Mm.c m) 3 (Wk.T x % 65536 - 1)) (Wk.V x) (pEntry (Wk.T x / 65536) (-1) 2))))) (some (.tup [.agg (encW { x with line := 42 }), I 0, B true], (objs LM t tw (mCas (m) (adr (Mm.c m) 3 (Wk.T x % 65536 - 1)) (Wk.V x) (pEntry (Wk.T x / 65536) (-1) 2)))))) none) (br (mCasB (m) (adr (Mm.c m) 3 (Wk.T x % 65536 - 1)) (Wk.V x)) (some (.tup [.agg (encW { x with line := 0, I := IntKind.wrap .i64 (Wk.T x % 65536 - 1 + 1) }), I 1, B true], (objs LM t tw (mCas (m) (adr (Mm.c m) 3 (Wk.T x % 65536 - 1)) (Wk.V x) (pEntry (wU (Wk.T x / 65536 + 1)) (-1) 0))))) (some (.tup [.agg (encW { x with line := 42 }), I 0, B true], (objs LM t tw (mCas (m) (adr (Mm.c m) 3 (Wk.T x % 65536 - 1)) (Wk.V x) (pEntry (wU (Wk.T x / 65536 + 1)) (-1) 0))))))) none) (br (q == 45) (br (uB (Wk.T x / 65536)) (br (mCasB (m) (adr (Mm.c m) 3 (Wk.T x % 65536 - 1)) (Wk.V x)) (some (.tup [.agg (encW { x with line := 0, B := 0 }), I 1, B true], (objs LM t tw (mCas (m) (adr (Mm.c m) 3 (Wk.T x % 65536 - 1)) (Wk.V x) (pEntry (Wk.T x / 65536) (w64' (Wk.B x - 1)) 1))))) (some (.tup [.agg (encW { x with line := 44 }), I 0, B true], (objs LM t tw (mCas (m) (adr (Mm.c m) 3 (Wk.T x % 65536 - 1)) (Wk.V x) (pEntry (Wk.T x / 65536) (w64' (Wk.B x - 1)) 1)))))) none) (some (.tup [.agg (encW { x with line := q }), I 0, B false], (objs LM t tw m))))))))))))) none)) (br (uB (Wk.T x)) (br (decide (q ≥ 40)) (br (decide (q ≤ 46)) (br (q == 40) (br (uB (mLoadV (mClear (m)) (adr (Mm.c m) 3 (w64' (Wk.I x - 1))))) (some (.tup [.agg (encW { x with line := 41, G := mLoadV (mClear (m)) (adr (Mm.c m) 3 (w64' (Wk.I x - 1))) / 1048576 }), I 0, B true], (objs LM t tw (mLoad (mClear (m)) (adr (Mm.c m) 3 (w64' (Wk.I x - 1))))))) none) (br (q == 41) (br (uB (Wk.G x)) (br (uB (Wk.G x)) (some (.tup [.agg (encW { x with line := 0, B := 0, I := 0, T := pTicket (w64' (Wk.I x - 1)) (Wk.G x) }), I 1, B true], (objs LM t tw (mStore (mClear (m)) (adr (Mm.c m) 3 (w64' (Wk.I x - 1))) (pEntry (Wk.G x) (w64' (Wk.B x - 1)) 1))))) none) none) (br (q == 42) (br (uB (mLoadV (mClear (m)) (adr (Mm.c m) 3 (Wk.T x % 65536 - 1)))) (br (mLoadV (mClear (m)) (adr (Mm.c m) 3 (Wk.T x % 65536 - 1)) % 16 == 1) (br (mLoadV (mClear (m)) (adr (Mm.c m) 3 (Wk.T x % 65536 - 1)) / 1048576 == Wk.T x / 65536) (some (.tup [.agg (encW { x with line := 0, C := IntKind.wrap .i64 (mLoadV (mClear (m)) (adr (Mm.c m) 3 (Wk.T x % 65536 - 1)) / 16 % 65536 - 1 + 1), V := mLoadV (mClear (m)) (adr (Mm.c m) 3 (Wk.T x % 65536 - 1)) }), I 1, B true], (objs LM t tw (mLoad (mClear (m)) (adr (Mm.c m) 3 (Wk.T x % 65536 - 1)))))) (some (.tup [.agg (encW { x with line := 0 }), I 2, B true], (objs LM t tw (mLoad (mClear (m)) (adr (Mm.c m) 3 (Wk.T x % 65536 - 1))))))) (some (.tup [.agg (encW { x with line := 0 }), I 2, B true], (objs LM t tw (mLoad (mClear (m)) (adr (Mm.c m) 3 (Wk.T x % 65536 - 1))))))) none) (br (q == 44) (br (uB (mLoadV (mClear (m)) (adr (Mm.c m) 3 (Wk.T x % 65536 - 1)))) (br (mLoadV (mClear (m)) (adr (Mm.c m) 3 (Wk.T x % 65536 - 1)) % 16 == 1) (br (mLoadV (mClear (m)) (adr (Mm.c m) 3 (Wk.T x % 65536 - 1)) / 1048576 == Wk.T x / 65536) (some (.tup [.agg (encW { x with line := 0, C := IntKind.wrap .i64 (mLoadV (mClear (m)) (adr (Mm.c m) 3 (Wk.T x % 65536 - 1)) / 16 % 65536 - 1 + 1), V := mLoadV (mClear (m)) (adr (Mm.c m) 3 (Wk.T x % 65536 - 1)) }), I 1, B true], (objs LM t tw (mLoad (mClear (m)) (adr (Mm.c m) 3 (Wk.T x % 65536 - 1)))))) (some (.tup [.agg (encW { x with line := 0 }), I 2, B true], (objs LM t tw (mLoad (mClear (m)) (adr (Mm.c m) 3 (Wk.T x % 65536 - 1))))))) (some (.tup [.agg (encW { x with line := 0 }), I 2, B true], (objs LM t tw (mLoad (mClear (m)) (adr (Mm.c m) 3 (Wk.T x % 65536 - 1))))))) none) (br (q == 46) (br (uB (mLoadV (mClear (m)) (adr (Mm.c m) 3 (Wk.T x % 65536 - 1)))) (br (mLoadV (mClear (m)) (adr (Mm.c m) 3 (Wk.T x % 65536 - 1)) % 16 == 1) (br (mLoadV (mClear (m)) (adr (Mm.c m) 3 (Wk.T x % 65536 - 1)) / 1048576 == Wk.T x / 65536) (some (.tup [.agg (encW { x with line := 0, C := IntKind.wrap .i64 (mLoadV (mClear (m)) (adr (Mm.c m) 3 (Wk.T x % 65536 - 1)) / 16 % 65536 - 1 + 1), V := mLoadV (mClear (m)) (adr (Mm.c m) 3 (Wk.T x % 65536 - 1)) }), I 1, B true], (objs LM t tw (mLoad (mClear (m)) (adr (Mm.c m) 3 (Wk.T x % 65536 - 1)))))) (some (.tup [.agg (encW { x with line := 0 }), I 2, B true], (objs LM t tw (mLoad (mClear (m)) (adr (Mm.c m) 3 (Wk.T x % 65536 - 1))))))) (some (.tup [.agg (encW { x with line := 0 }), I 2, B true], (objs LM t tw (mLoad (mClear (m)) (adr (Mm.c m) 3 (Wk.T x % 65536 - 1))))))) none) (br (q == 60) (br (uB (mLoadV (mClear (m)) (adr (Mm.c m) 3 (Wk.T x % 65536 - 1)))) (br (mLoadV (mClear (m)) (adr (Mm.c m) 3 (Wk.T x % 65536 - 1)) % 16 == 1) (br (mLoadV (mClear (m)) (adr (Mm.c m) 3 (Wk.T x % 65536 - 1)) / 1048576 == Wk.T x / 65536) (some (.tup [.agg (encW { x with line := 0, C := IntKind.wrap .i64 (mLoadV (mClear (m)) (adr (Mm.c m) 3 (Wk.T x % 65536 - 1)) / 16 % 65536 - 1 + 1), V := mLoadV (mClear (m)) (adr (Mm.c m) 3 (Wk.T x % 65536 - 1)) }), I 1, B true], (objs LM t tw (mLoad (mClear (m)) (adr (Mm.c m) 3 (Wk.T x % 65536 - 1)))))) (some (.tup [.agg (encW { x with line := 0 }), I 2, B true], (objs LM t tw (mLoad (mClear (m)) (adr (Mm.c m) 3 (Wk.T x % 65536 - 1))))))) (some (.tup [.agg (encW { x with line := 0 }), I 2, B true], (objs LM t tw (mLoad (mClear (m)) (adr (Mm.c m) 3 (Wk.T x % 65536 - 1))))))) none) (br (q == 43) (br (uB (wU (Wk.T x / 65536 + 1))) (br (decide (Wk.T x / 65536 ≥ Cf.l (Mm.c m))) (br (uB (Wk.T x / 65536)) (br (mCasB (mClear (m)) (adr (Mm.c m) 3 (Wk.T x % 65536 - 1)) (Wk.V x)) (some (.tup [.agg (encW { x with line := 0, I := 0 }), I 1, B true], (objs LM t tw (mCas (mClear (m)) (adr (Mm.c m) 3 (Wk.T x % 65536 - 1)) (Wk.V x) (pEntry (Wk.T x / 65536) (-1) 2))))) (some (.tup [.agg (encW { x with line := 42 }), I 0, B true], (objs LM t tw (mCas (mClear (m)) (adr (Mm.c m) 3 (Wk.T x % 65536 - 1)) (Wk.V x) (pEntry (Wk.T x / 65536) (-1) 2)))))) none) (br (mCasB (mClear (m)) (adr (Mm.c m) 3 (Wk.T x % 65536 - 1)) (Wk.V x)) (some (.tup [.agg (encW { x with line := 0, I := IntKind.wrap .i64 (Wk.T x % 65536 - 1 + 1) }), I 1, B true], (objs LM t tw (mCas (mClear (m)) (adr (Mm.c m) 3 (Wk.T x % 65536 - 1)) (Wk.V x) (pEntry (wU (Wk.T x / 65536 + 1)) (-1) 0))))) (some (.tup [.agg (encW { x with line := 42 }), I 0, B true], (objs LM t tw (mCas (mClear (m)) (adr (Mm.c m) 3 (Wk.T x % 65536 - 1)) (Wk.V x) (pEntry (wU (Wk.T x / 65536 + 1)) (-1) 0))))))) none) (br (q == 45) (br (uB (Wk.T x / 65536)) (br (mCasB (mClear (m)) (adr (Mm.c m) 3 (Wk.T x % 65536 - 1)) (Wk.V x)) (some (.tup [.agg (encW { x with line := 0, B := 0 }), I 1, B true], (objs LM t tw (mCas (mClear (m)) (adr (Mm.c m) 3 (Wk.T x % 65536 - 1)) (Wk.V x) (pEntry (Wk.T x / 65536) (w64' (Wk.B x - 1)) 1))))) (some (.tup [.agg (encW { x with line := 44 }), I 0, B true], (objs LM t tw (mCas (mClear (m)) (adr (Mm.c m) 3 (Wk.T x % 65536 - 1)) (Wk.V x) (pEntry (Wk.T x / 65536) (w64' (Wk.B x - 1)) 1)))))) none) (some (.tup [.agg (encW { x with line := q }), I 0, B false], (objs LM t tw (mClear (m))))))))))))) (br (q == 60) (br (q == 40) (br (uB (mLoadV (mClear (m)) (adr (Mm.c m) 3 (w64' (Wk.I x - 1))))) (some (.tup [.agg (encW { x with line := 41, G := mLoadV (mClear (m)) (adr (Mm.c m) 3 (w64' (Wk.I x - 1))) / 1048576 }), I 0, B true], (objs LM t tw (mLoad (mClear (m)) (adr (Mm.c m) 3 (w64' (Wk.I x - 1))))))) none) (br (q == 41) (br (uB (Wk.G x)) (br (uB (Wk.G x)) (some (.tup [.agg (encW { x with line := 0, B := 0, I := 0, T := pTicket (w64' (Wk.I x - 1)) (Wk.G x) }), I 1, B true], (objs LM t tw (mStore (mClear (m)) (adr (Mm.c m) 3 (w64' (Wk.I x - 1))) (pEntry (Wk.G x) (w64' (Wk.B x - 1)) 1))))) none) none) (br (q == 42) (br (uB (mLoadV (mClear (m)) (adr (Mm.c m) 3 (Wk.T x % 65536 - 1)))) (br (mLoadV (mClear (m)) (adr (Mm.c m) 3 (Wk.T x % 65536 - 1)) % 16 == 1) (br (mLoadV (mClear (m)) (adr (Mm.c m) 3 (Wk.T x % 65536 - 1)) / 1048576 == Wk.T x / 65536) (some (.tup [.agg (encW { x with line := 0, C := IntKind.wrap .i64 (mLoadV (mClear (m)) (adr (Mm.c m) 3 (Wk.T x % 65536 - 1)) / 16 % 65536 - 1 + 1), V := mLoadV (mClear (m)) (adr (Mm.c m) 3 (Wk.T x % 65536 - 1)) }), I 1, B true], (objs LM t tw (mLoad (mClear (m)) (adr (Mm.c m) 3 (Wk.T x % 65536 - 1)))))) (some (.tup [.agg (encW { x with line := 0 }), I 2, B true], (objs LM t tw (mLoad (mClear (m)) (adr (Mm.c m) 3 (Wk.T x % 65536 - 1))))))) (some (.tup [.agg (encW { x with line := 0 }), I 2, B true], (objs LM t tw (mLoad (mClear (m)) (adr (Mm.c m) 3 (Wk.T x % 65536 - 1))))))) none) (br (q == 44) (br (uB (mLoadV (mClear (m)) (adr (Mm.c m) 3 (Wk.T x % 65536 - 1)))) (br (mLoadV (mClear (m)) (adr (Mm.c m) 3 (Wk.T x % 65536 - 1)) % 16 == 1) (br (mLoadV (mClear (m)) (adr (Mm.c m) 3 (Wk.T x % 65536 - 1)) / 1048576 == Wk.T x / 65536) (some (.tup [.agg (encW { x with line := 0, C := IntKind.wrap .i64 (mLoadV (mClear (m)) (adr (Mm.c m) 3 (Wk.T x % 65536 - 1)) / 16 % 65536 - 1 + 1), V := mLoadV (mClear (m)) (adr (Mm.c m) 3 (Wk.T x % 65536 - 1)) }), I 1, B true], (objs LM t tw (mLoad (mClear (m)) (adr (Mm.c m) 3 (Wk.T x % 65536 - 1)))))) (some (.tup [.agg (encW { x with line := 0 }), I 2, B true], (objs LM t tw (mLoad (mClear (m)) (adr (Mm.c m) 3 (Wk.T x % 65536 - 1))))))) (some (.tup [.agg (encW { x with line := 0 }), I 2, B true], (objs LM t tw (mLoad (mClear (m)) (adr (Mm.c m) 3 (Wk.T x % 65536 - 1))))))) none) (br (q == 46) (br (uB (mLoadV (mClear (m)) (adr (Mm.c m) 3 (Wk.T x % 65536 - 1)))) (br (mLoadV (mClear (m)) (adr (Mm.c m) 3 (Wk.T x % 65536 - 1)) % 16 == 1) (br (mLoadV (mClear (m)) (adr (Mm.c m) 3 (Wk.T x % 65536 - 1)) / 1048576 == Wk.T x / 65536) (some (.tup [.agg (encW { x with line := 0, C := IntKind.wrap .i64 (mLoadV (mClear (m)) (adr (Mm.c m) 3 (Wk.T x % 65536 - 1)) / 16 % 65536 - 1 + 1), V := mLoadV (mClear (m)) (adr (Mm.c m) 3 (Wk.T x % 65536 - 1)) }), I 1, B true], (objs LM t tw (mLoad (mClear (m)) (adr (Mm.c m) 3 (Wk.T x % 65536 - 1)))))) (some (.tup [.agg (encW { x with line := 0 }), I 2, B true], (objs LM t tw (mLoad (mClear (m)) (adr (Mm.c m) 3 (Wk.T x % 65536 - 1))))))) (some (.tup [.agg (encW { x with line := 0 }), I 2, B true], (objs LM t tw (mLoad (mClear (m)) (adr (Mm.c m) 3 (Wk.T x % 65536 - 1))))))) none) (br (q == 60) (br (uB (mLoadV (mClear (m)) (adr (Mm.c m) 3 (Wk.T x % 65536 - 1)))) (br (mLoadV (mClear (m)) (adr (Mm.c m) 3 (Wk.T x % 65536 - 1)) % 16 == 1) (br (mLoadV (mClear (m)) (adr (Mm.c m) 3 (Wk.T x % 65536 - 1)) / 1048576 == Wk.T x / 65536) (some (.tup [.agg (encW { x with line := 0, C := IntKind.wrap .i64 (mLoadV (mClear (m)) (adr (Mm.c m) 3 (Wk.T x % 65536 - 1)) / 16 % 65536 - 1 + 1), V := mLoadV (mClear (m)) (adr (Mm.c m) 3 (Wk.T x % 65536 - 1)) }), I 1, B true], (objs LM t tw (mLoad (mClear (m)) (adr (Mm.c m) 3 (Wk.T x % 65536 - 1)))))) (some (.tup [.agg (encW { x with line := 0 }), I 2, B true], (objs LM t tw (mLoad (mClear (m)) (adr (Mm.c m) 3 (Wk.T x % 65536 - 1))))))) (some (.tup [.agg (encW { x with line := 0 }), I 2, B true], (objs LM t tw (mLoad (mClear (m)) (adr (Mm.c m) 3 (Wk.T x % 65536 - 1))))))) none) (br (q == 43) (br (uB (wU (Wk.T x / 65536 + 1))) (br (decide (Wk.T x / 65536 ≥ Cf.l (Mm.c m))) (br (uB (Wk.T x / 65536)) (br (mCasB (mClear (m)) (adr (Mm.c m) 3 (Wk.T x % 65536 - 1)) (Wk.V x)) (some (.tup [.agg (encW { x with line := 0, I := 0 }), I 1, B true], (objs LM t tw (mCas (mClear (m)) (adr (Mm.c m) 3 (Wk.T x % 65536 - 1)) (Wk.V x) (pEntry (Wk.T x / 65536) (-1) 2))))) (some (.tup [.agg (encW { x with line := 42 }), I 0, B true], (objs LM t tw (mCas (mClear (m)) (adr (Mm.c m) 3 (Wk.T x % 65536 - 1)) (Wk.V x) (pEntry (Wk.T x / 65536) (-1) 2)))))) none) (br (mCasB (mClear (m)) (adr (Mm.c m) 3 (Wk.T x % 65536 - 1)) (Wk.V x)) (some (.tup [.agg (encW { x with line := 0, I := IntKind.wrap .i64 (Wk.T x % 65536 - 1 + 1) }), I 1, B true], (objs LM t tw (mCas (mClear (m)) (adr (Mm.c m) 3 (Wk.T x % 65536 - 1)) (Wk.V x) (pEntry (wU (Wk.T x / 65536 + 1)) (-1) 0))))) (some (.tup [.agg (encW { x with line := 42 }), I 0, B true], (objs LM t tw (mCas (mClear (m)) (adr (Mm.c m) 3 (Wk.T x % 65536 - 1)) (Wk.V x) (pEntry (wU (Wk.T x / 65536 + 1)) (-1) 0))))))) none) (br (q == 45) (br (uB (Wk.T x / 65536)) (br (mCasB (mClear (m)) (adr (Mm.c m) 3 (Wk.T x % 65536 - 1)) (Wk.V x)) (some (.tup [.agg (encW { x with line := 0, B := 0 }), I 1, B true], (objs LM t tw (mCas (mClear (m)) (adr (Mm.c m) 3 (Wk.T x % 65536 - 1)) (Wk.V x) (pEntry (Wk.T x / 65536) (w64' (Wk.B x - 1)) 1))))) (some (.tup [.agg (encW { x with line := 44 }), I 0, B true], (objs LM t tw (mCas (mClear (m)) (adr (Mm.c m) 3 (Wk.T x % 65536 - 1)) (Wk.V x) (pEntry (Wk.T x / 65536) (w64' (Wk.B x - 1)) 1)))))) none) (some (.tup [.agg (encW { x with line := q }), I 0, B false], (objs LM t tw (mClear (m))))))))))))) (br (q == 40) (br (uB (mLoadV (m) (adr (Mm.c m) 3 (w64' (Wk.I x - 1))))) (some (.tup [.agg (encW { x with line := 41, G := mLoadV (m) (adr (Mm.c m) 3 (w64' (Wk.I x - 1))) / 1048576 }), I 0, B true], (objs LM t tw (mLoad (m) (adr (Mm.c m) 3 (w64' (Wk.I x - 1))))))) none) (br (q == 41) (br (uB (Wk.G x)) (br (uB (Wk.G x)) (some (.tup [.agg (encW { x with line := 0, B := 0, I := 0, T := pTicket (w64' (Wk.I x - 1)) (Wk.G x) }), I 1, B true], (objs LM t tw (mStore (m) (adr (Mm.c m) 3 (w64' (Wk.I x - 1))) (pEntry (Wk.G x) (w64' (Wk.B x - 1)) 1))))) none) none) (br (q == 42) (br (uB (mLoadV (m) (adr (Mm.c m) 3 (Wk.T x % 65536 - 1)))) (br (mLoadV (m) (adr (Mm.c m) 3 (Wk.T x % 65536 - 1)) % 16 == 1) (br (mLoadV (m) (adr (Mm.c m) 3 (Wk.T x % 65536 - 1)) / 1048576 == Wk.T x / 65536) (some (.tup [.agg (encW { x with line := 0, C := IntKind.wrap .i64 (mLoadV (m) (adr (Mm.c m) 3 (Wk.T x % 65536 - 1)) / 16 % 65536 - 1 + 1), V := mLoadV (m) (adr (Mm.c m) 3 (Wk.T x % 65536 - 1)) }), I 1, B true], (objs LM t tw (mLoad (m) (adr (Mm.c m) 3 (Wk.T x % 65536 - 1)))))) (some (.tup [.agg (encW { x with line := 0 }), I 2, B true], (objs LM t tw (mLoad (m) (adr (Mm.c m) 3 (Wk.T x % 65536 - 1))))))) (some (.tup [.agg (encW { x with line := 0 }), I 2, B true], (objs LM t tw (mLoad (m) (adr (Mm.c m) 3 (Wk.T x % 65536 - 1))))))) none) (br (q == 44) (br (uB (mLoadV (m) (adr (Mm.c m) 3 (Wk.T x % 65536 - 1)))) (br (mLoadV (m) (adr (Mm.c m) 3 (Wk.T x % 65536 - 1)) % 16 == 1) (br (mLoadV (m) (adr (Mm.c m) 3 (Wk.T x % 65536 - 1)) / 1048576 == Wk.T x / 65536) (some (.tup [.agg (encW { x with line := 0, C := IntKind.wrap .i64 (mLoadV (m) (adr (Mm.c m) 3 (Wk.T x % 65536 - 1)) / 16 % 65536 - 1 + 1), V := mLoadV (m) (adr (Mm.c m) 3 (Wk.T x % 65536 - 1)) }), I 1, B true], (objs LM t tw (mLoad (m) (adr (Mm.c m) 3 (Wk.T x % 65536 - 1)))))) (some (.tup [.agg (encW { x with line := 0 }), I 2, B true], (objs LM t tw (mLoad (m) (adr (Mm.c m) 3 (Wk.T x % 65536 - 1))))))) (some (.tup [.agg (encW { x with line := 0 }), I 2, B true], (objs LM t tw (mLoad (m) (adr (Mm.c m) 3 (Wk.T x % 65536 - 1))))))) none) (br (q == 46) (br (uB (mLoadV (m) (adr (Mm.c m) 3 (Wk.T x % 65536 - 1)))) (br (mLoadV (m) (adr (Mm.c m) 3 (Wk.T x % 65536 - 1)) % 16 == 1) (br (mLoadV (m) (adr (Mm.c m) 3 (Wk.T x % 65536 - 1)) / 1048576 == Wk.T x / 65536) (some (.tup [.agg (encW { x with line := 0, C := IntKind.wrap .i64 (mLoadV (m) (adr (Mm.c m) 3 (Wk.T x % 65536 - 1)) / 16 % 65536 - 1 + 1), V := mLoadV (m) (adr (Mm.c m) 3 (Wk.T x % 65536 - 1)) }), I 1, B true], (objs LM t tw (mLoad (m) (adr (Mm.c m) 3 (Wk.T x % 65536 - 1)))))) (some (.tup [.agg (encW { x with line := 0 }), I 2, B true], (objs LM t tw (mLoad (m) (adr (Mm.c m) 3 (Wk.T x % 65536 - 1))))))) (some (.tup [.agg (encW { x with line := 0 }), I 2, B true], (objs LM t tw (mLoad (m) (adr (Mm.c m) 3 (Wk.T x % 65536 - 1))))))) none) (br (q == 60) (br (uB (mLoadV (m) (adr (Mm.c m) 3 (Wk.T x % 65536 - 1)))) (br (mLoadV (m) (adr (Mm.c m) 3 (Wk.T x % 65536 - 1)) % 16 == 1) (br (mLoadV (m) (adr (Mm.c m) 3 (Wk.T x % 65536 - 1)) / 1048576 == Wk.T x / 65536) (some (.tup [.agg (encW { x with line := 0, C := IntKind.wrap .i64 (mLoadV (m) (adr (Mm.c m) 3 (Wk.T x % 65536 - 1)) / 16 % 65536 - 1 + 1), V := mLoadV (m) (adr (Mm.c m) 3 (Wk.T x % 65536 - 1)) }), I 1, B true], (objs LM t tw (mLoad (m) (adr (Mm.c m) 3 (Wk.T x % 65536 - 1)))))) (some (.tup [.agg (encW { x with line := 0 }), I 2, B true], (objs LM t tw (mLoad (m) (adr (Mm.c m) 3 (Wk.T x % 65536 - 1))))))) (some (.tup [.agg (encW { x with line := 0 }), I 2, B true], (objs LM t tw (mLoad (m) (adr (Mm.c m) 3 (Wk.T x % 65536 - 1))))))) none) (br (q == 43) (br (uB (wU (Wk.T x / 65536 + 1))) (br (decide (Wk.T x / 65536 ≥ Cf.l (Mm.c m))) (br (uB (Wk.T x / 65536)) (br (mCasB (m) (adr (Mm.c m) 3 (Wk.T x % 65536 - 1)) (Wk.V x)) (some (.tup [.agg (encW { x with line := 0, I := 0 }), I 1, B true], (objs LM t tw (mCas (m) (adr (Mm.c m) 3 (Wk.T x % 65536 - 1)) (Wk.V x) (pEntry (Wk.T x / 65536) (-1) 2))))) (some (.tup [.agg (encW { x with line := 42 }), I 0, B true], (objs LM t tw (mCas (m) (adr (Mm.c m) 3 (Wk.T x % 65536 - 1)) (Wk.V x) (pEntry (Wk.T x / 65536) (-1) 2)))))) none) (br (mCasB (m) (adr (Mm.c m) 3 (Wk.T x % 65536 - 1)) (Wk.V x)) (some (.tup [.agg (encW { x with line := 0, I := IntKind.wrap .i64 (Wk.T x % 65536 - 1 + 1) }), I 1, B true], (objs LM t tw (mCas (m) (adr (Mm.c m) 3 (Wk.T x % 65536 - 1)) (Wk.V x) (pEntry (wU (Wk.T x / 65536 + 1)) (-1) 0))))) (some (.tup [.agg (encW { x with line := 42 }), I 0, B true], (objs LM t tw (mCas (m) (adr (Mm.c m) 3 (Wk.T x % 65536 - 1)) (Wk.V x) (pEntry (wU (Wk.T x / 65536 + 1)) (-1) 0))))))) none) (br (q == 45) (br (uB (Wk.T x / 65536)) (br (mCasB (m) (adr (Mm.c m) 3 (Wk.T x % 65536 - 1)) (Wk.V x)) (some (.tup [.agg (encW { x with line := 0, B := 0 }), I 1, B true], (objs LM t tw (mCas (m) (adr (Mm.c m) 3 (Wk.T x % 65536 - 1)) (Wk.V x) (pEntry (Wk.T x / 65536) (w64' (Wk.B x - 1)) 1))))) (some (.tup [.agg (encW { x with line := 44 }), I 0, B true], (objs LM t tw (mCas (m) (adr (Mm.c m) 3 (Wk.T x % 65536 - 1)) (Wk.V x) (pEntry (Wk.T x / 65536) (w64' (Wk.B x - 1)) 1)))))) none) (some (.tup [.agg (encW { x with line := q }), I 0, B false], (objs LM t tw m))))))))))))) (br (q == 60) (br (q == 40) (br (uB (mLoadV (mClear (m)) (adr (Mm.c m) 3 (w64' (Wk.I x - 1))))) (some (.tup [.agg (encW { x with line := 41, G := mLoadV (mClear (m)) (adr (Mm.c m) 3 (w64' (Wk.I x - 1))) / 1048576 }), I 0, B true], (objs LM t tw (mLoad (mClear (m)) (adr (Mm.c m) 3 (w64' (Wk.I x - 1))))))) none) (br (q == 41) (br (uB (Wk.G x)) (br (uB (Wk.G x)) (some (.tup [.agg (encW { x with line := 0, B := 0, I := 0, T := pTicket (w64' (Wk.I x - 1)) (Wk.G x) }), I 1, B true], (objs LM t tw (mStore (mClear (m)) (adr (Mm.c m) 3 (w64' (Wk.I x - 1))) (pEntry (Wk.G x) (w64' (Wk.B x - 1)) 1))))) none) none) (br (q == 42) (br (uB (mLoadV (mClear (m)) (adr (Mm.c m) 3 (Wk.T x % 65536 - 1)))) (br (mLoadV (mClear (m)) (adr (Mm.c m) 3 (Wk.T x % 65536 - 1)) % 16 == 1) (br (mLoadV (mClear (m)) (adr (Mm.c m) 3 (Wk.T x % 65536 - 1)) / 1048576 == Wk.T x / 65536) (some (.tup [.agg (encW { x with line := 0, C := IntKind.wrap .i64 (mLoadV (mClear (m)) (adr (Mm.c m) 3 (Wk.T x % 65536 - 1)) / 16 % 65536 - 1 + 1), V := mLoadV (mClear (m)) (adr (Mm.c m) 3 (Wk.T x % 65536 - 1)) }), I 1, B true], (objs LM t tw (mLoad (mClear (m)) (adr (Mm.c m) 3 (Wk.T x % 65536 - 1)))))) (some (.tup [.agg (encW { x with line := 0 }), I 2, B true], (objs LM t tw (mLoad (mClear (m)) (adr (Mm.c m) 3 (Wk.T x % 65536 - 1))))))) (some (.tup [.agg (encW { x with line := 0 }), I 2, B true], (objs LM t tw (mLoad (mClear (m)) (adr (Mm.c m) 3 (Wk.T x % 65536 - 1))))))) none) (br (q == 44) (br (uB (mLoadV (mClear (m)) (adr (Mm.c m) 3 (Wk.T x % 65536 - 1)))) (br (mLoadV (mClear (m)) (adr (Mm.c m) 3 (Wk.T x % 65536 - 1)) % 16 == 1) (br (mLoadV (mClear (m)) (adr (Mm.c m) 3 (Wk.T x % 65536 - 1)) / 1048576 == Wk.T x / 65536) (some (.tup [.agg (encW { x with line := 0, C := IntKind.wrap .i64 (mLoadV (mClear (m)) (adr (Mm.c m) 3 (Wk.T x % 65536 - 1)) / 16 % 65536 - 1 + 1), V := mLoadV (mClear (m)) (adr (Mm.c m) 3 (Wk.T x % 65536 - 1)) }), I 1, B true], (objs LM t tw (mLoad (mClear (m)) (adr (Mm.c m) 3 (Wk.T x % 65536 - 1)))))) (some (.tup [.agg (encW { x with line := 0 }), I 2, B true], (objs LM t tw (mLoad (mClear (m)) (adr (Mm.c m) 3 (Wk.T x % 65536 - 1))))))) (some (.tup [.agg (encW { x with line := 0 }), I 2, B true], (objs LM t tw (mLoad (mClear (m)) (adr (Mm.c m) 3 (Wk.T x % 65536 - 1))))))) none) (br (q == 46) (br (uB (mLoadV (mClear (m)) (adr (Mm.c m) 3 (Wk.T x % 65536 - 1)))) (br (mLoadV (mClear (m)) (adr (Mm.c m) 3 (Wk.T x % 65536 - 1)) % 16 == 1) (br (mLoadV (mClear (m)) (adr (Mm.c m) 3 (Wk.T x % 65536 - 1)) / 1048576 == Wk.T x / 65536) (some (.tup [.agg (encW { x with line := 0, C := IntKind.wrap .i64 (mLoadV (mClear (m)) (adr (Mm.c m) 3 (Wk.T x % 65536 - 1)) / 16 % 65536 - 1 + 1), V := mLoadV (mClear (m)) (adr (Mm.c m) 3 (Wk.T x % 65536 - 1)) }), I 1, B true], (objs LM t tw (mLoad (mClear (m)) (adr (Mm.c m) 3 (Wk.T x % 65536 - 1)))))) (some (.tup [.agg (encW { x with line := 0 }), I 2, B true], (objs LM t tw (mLoad (mClear (m)) (adr (Mm.c m) 3 (Wk.T x % 65536 - 1))))))) (some (.tup [.agg (encW { x with line := 0 }), I 2, B true], (objs LM t tw (mLoad (mClear (m)) (adr (Mm.c m) 3 (Wk.T x % 65536 - 1))))))) none) (br (q == 60) (br (uB (mLoadV (mClear (m)) (adr (Mm.c m) 3 (Wk.T x % 65536 - 1)))) (br (mLoadV (mClear (m)) (adr (Mm.c m) 3 (Wk.T x % 65536 - 1)) % 16 == 1) (br (mLoadV (mClear (m)) (adr (Mm.c m) 3 (Wk.T x % 65536 - 1)) / 1048576 == Wk.T x / 65536) (some (.tup [.agg (encW { x with line := 0, C := IntKind.wrap .i64 (mLoadV (mClear (m)) (adr (Mm.c m) 3 (Wk.T x % 65536 - 1)) / 16 % 65536 - 1 + 1), V := mLoadV (mClear (m)) (adr (Mm.c m) 3 (Wk.T x % 65536 - 1)) }), I 1, B true], (objs LM t tw (mLoad (mClear (m)) (adr (Mm.c m) 3 (Wk.T x % 65536 - 1)))))) (some (.tup [.agg (encW { x with line := 0 }), I 2, B true], (objs LM t tw (mLoad (mClear (m)) (adr (Mm.c m) 3 (Wk.T x % 65536 - 1))))))) (some (.tup [.agg (encW { x with line := 0 }), I 2, B true], (objs LM t tw (mLoad (mClear (m)) (adr (Mm.c m) 3 (Wk.T x % 65536 - 1))))))) none) (br (q == 43) (br (uB (wU (Wk.T x / 65536 + 1))) (br (decide (Wk.T x / 65536 ≥ Cf.l (Mm.c m))) (br (uB (Wk.T x / 65536)) (br (mCasB (mClear (m)) (adr (Mm.c m) 3 (Wk.T x % 65536 - 1)) (Wk.V x)) (some (.tup [.agg (encW { x with line := 0, I := 0 }), I 1, B true], (objs LM t tw (mCas (mClear (m)) (adr (Mm.c m) 3 (Wk.T x % 65536 - 1)) (Wk.V x) (pEntry (Wk.T x / 65536) (-1) 2))))) (some (.tup [.agg (encW { x with line := 42 }), I 0, B true], (objs LM t tw (mCas (mClear (m)) (adr (Mm.c m) 3 (Wk.T x % 65536 - 1)) (Wk.V x) (pEntry (Wk.T x / 65536) (-1) 2)))))) none) (br (mCasB (mClear (m)) (adr (Mm.c m) 3 (Wk.T x % 65536 - 1)) (Wk.V x)) (some (.tup [.agg (encW { x with line := 0, I := IntKind.wrap .i64 (Wk.T x % 65536 - 1 + 1) }), I 1, B true], (objs LM t tw (mCas (mClear (m)) (adr (Mm.c m) 3 (Wk.T x % 65536 - 1)) (Wk.V x) (pEntry (wU (Wk.T x / 65536 + 1)) (-1) 0))))) (some (.tup [.agg (encW { x with line := 42 }), I 0, B true], (objs LM t tw (mCas (mClear (m)) (adr (Mm.c m) 3 (Wk.T x % 65536 - 1)) (Wk.V x) (pEntry (wU (Wk.T x / 65536 + 1)) (-1) 0))))))) none) (br (q == 45) (br (uB (Wk.T x / 65536)) (br (mCasB (mClear (m)) (adr (Mm.c m) 3 (Wk.T x % 65536 - 1)) (Wk.V x)) (some (.tup [.agg (encW { x with line := 0, B := 0 }), I 1, B true], (objs LM t tw (mCas (mClear (m)) (adr (Mm.c m) 3 (Wk.T x % 65536 - 1)) (Wk.V x) (pEntry (Wk.T x / 65536) (w64' (Wk.B x - 1)) 1))))) (some (.tup [.agg (encW { x with line := 44 }), I 0, B true], (objs LM t tw (mCas (mClear (m)) (adr (Mm.c m) 3 (Wk.T x % 65536 - 1)) (Wk.V x) (pEntry (Wk.T x / 65536) (w64' (Wk.B x - 1)) 1)))))) none) (some (.tup [.agg (encW { x with line := q }), I 0, B false], (objs LM t tw (mClear (m))))))))))))) (br (q == 40) (br (uB (mLoadV (m) (adr (Mm.c m) 3 (w64' (Wk.I x - 1))))) (some (.tup [.agg (encW { x with line := 41, G := mLoadV (m) (adr (Mm.c m) 3 (w64' (Wk.I x - 1))) / 1048576 }), I 0, B true], (objs LM t tw (mLoad (m) (adr (Mm.c m) 3 (w64' (Wk.I x - 1))))))) none) (br (q == 41) (br (uB (Wk.G x)) (br (uB (Wk.G x)) (some (.tup [.agg (encW { x with line := 0, B := 0, I := 0, T := pTicket (w64' (Wk.I x - 1)) (Wk.G x) }), I 1, B true], (objs LM t tw (mStore (m) (adr (Mm.c m) 3 (w64' (Wk.I x - 1))) (pEntry (Wk.G x) (w64' (Wk.B x - 1)) 1))))) none) none) (br (q == 42) (br (uB (mLoadV (m) (adr (Mm.c m) 3 (Wk.T x % 65536 - 1)))) (br (mLoadV (m) (adr (Mm.c m) 3 (Wk.T x % 65536 - 1)) % 16 == 1) (br (mLoadV (m) (adr (Mm.c m) 3 (Wk.T x % 65536 - 1)) / 1048576 == Wk.T x / 65536) (some (.tup [.agg (encW { x with line := 0, C := IntKind.wrap .i64 (mLoadV (m) (adr (Mm.c m) 3 (Wk.T x % 65536 - 1)) / 16 % 65536 - 1 + 1), V := mLoadV (m) (adr (Mm.c m) 3 (Wk.T x % 65536 - 1)) }), I 1, B true], (objs LM t tw (mLoad (m) (adr (Mm.c m) 3 (Wk.T x % 65536 - 1)))))) (some (.tup [.agg (encW { x with line := 0 }), I 2, B true], (objs LM t tw (mLoad (m) (adr (Mm.c m) 3 (Wk.T x % 65536 - 1))))))) (some (.tup [.agg (encW { x with line := 0 }), I 2, B true], (objs LM t tw (mLoad (m) (adr (Mm.c m) 3 (Wk.T x % 65536 - 1))))))) none) (br (q == 44) (br (uB (mLoadV (m) (adr (Mm.c m) 3 (Wk.T x % 65536 - 1)))) (br (mLoadV (m) (adr (Mm.c m) 3 (Wk.T x % 65536 - 1)) % 16 == 1) (br (mLoadV (m) (adr (Mm.c m) 3 (Wk.T x % 65536 - 1)) / 1048576 == Wk.T x / 65536) (some (.tup [.agg (encW { x with line := 0, C := IntKind.wrap .i64 (mLoadV (m) (adr (Mm.c m) 3 (Wk.T x % 65536 - 1)) / 16 % 65536 - 1 + 1), V := mLoadV (m) (adr (Mm.c m) 3 (Wk.T x % 65536 - 1)) }), I 1, B true], (objs LM t tw (mLoad (m) (adr (Mm.c m) 3 (Wk.T x % 65536 - 1)))))) (some (.tup [.agg (encW { x with line := 0 }), I 2, B true], (objs LM t tw (mLoad (m) (adr (Mm.c m) 3 (Wk.T x % 65536 - 1))))))) (some (.tup [.agg (encW { x with line := 0 }), I 2, B true], (objs LM t tw (mLoad (m) (adr (Mm.c m) 3 (Wk.T x % 65536 - 1))))))) none) (br (q == 46) (br (uB (mLoadV (m) (adr (Mm.c m) 3 (Wk.T x % 65536 - 1)))) (br (mLoadV (m) (adr (Mm.c m) 3 (Wk.T x % 65536 - 1)) % 16 == 1) (br (mLoadV (m) (adr (Mm.c m) 3 (Wk.T x % 65536 - 1)) / 1048576 == Wk.T x / 65536) (some (.tup [.agg (encW { x with line := 0, C := IntKind.wrap .i64 (mLoadV (m) (adr (Mm.c m) 3 (Wk.T x % 65536 - 1)) / 16 % 65536 - 1 + 1), V := mLoadV (m) (adr (Mm.c m) 3 (Wk.T x % 65536 - 1)) }), I 1, B true], (objs LM t tw (mLoad (m) (adr (Mm.c m) 3 (Wk.T x % 65536 - 1)))))) (some (.tup [.agg (encW { x with line := 0 }), I 2, B true], (objs LM t tw (mLoad (m) (adr (Mm.c m) 3 (Wk.T x % 65536 - 1))))))) (some (.tup [.agg (encW { x with line := 0 }), I 2, B true], (objs LM t tw (mLoad (m) (adr (Mm.c m) 3 (Wk.T x % 65536 - 1))))))) none) (br (q == 60) (br (uB (mLoadV (m) (adr (Mm.c m) 3 (Wk.T x % 65536 - 1)))) (br (mLoadV (m) (adr (Mm.c m) 3 (Wk.T x % 65536 - 1)) % 16 == 1) (br (mLoadV (m) (adr (Mm.c m) 3 (Wk.T x % 65536 - 1)) / 1048576 == Wk.T x / 65536) (some (.tup [.agg (encW { x with line := 0, C := IntKind.wrap .i64 (mLoadV (m) (adr (Mm.c m) 3 (Wk.T x % 65536 - 1)) / 16 % 65536 - 1 + 1), V := mLoadV (m) (adr (Mm.c m) 3 (Wk.T x % 65536 - 1)) }), I 1, B true], (objs LM t tw (mLoad (m) (adr (Mm.c m) 3 (Wk.T x % 65536 - 1)))))) (some (.tup [.agg (encW { x with line := 0 }), I 2, B true], (objs LM t tw (mLoad (m) (adr (Mm.c m) 3 (Wk.T x % 65536 - 1))))))) (some (.tup [.agg (encW { x with line := 0 }), I 2, B true], (objs LM t tw (mLoad (m) (adr (Mm.c m) 3 (Wk.T x % 65536 - 1))))))) none) (br (q == 43) (br (uB (wU (Wk.T x / 65536 + 1))) (br (decide (Wk.T x / 65536 ≥ Cf.l (Mm.c m))) (br (uB (Wk.T x / 65536)) (br (mCasB (m) (adr (Mm.c m) 3 (Wk.T x % 65536 - 1)) (Wk.V x)) (some (.tup [.agg (encW { x with line := 0, I := 0 }), I 1, B true], (objs LM t tw (mCas (m) (adr (Mm.c m) 3 (Wk.T x % 65536 - 1)) (Wk.V x) (pEntry (Wk.T x / 65536) (-1) 2))))) (some (.tup [.agg (encW { x with line := 42 }), I 0, B true], (objs LM t tw (mCas (m) (adr (Mm.c m) 3 (Wk.T x % 65536 - 1)) (Wk.V x) (pEntry (Wk.T x / 65536) (-1) 2)))))) none) (br (mCasB (m) (adr (Mm.c m) 3 (Wk.T x % 65536 - 1)) (Wk.V x)) (some (.tup [.agg (encW { x with line := 0, I := IntKind.wrap .i64 (Wk.T x % 65536 - 1 + 1) }), I 1, B true], (objs LM t tw (mCas (m) (adr (Mm.c m) 3 (Wk.T x % 65536 - 1)) (Wk.V x) (pEntry (wU (Wk.T x / 65536 + 1)) (-1) 0))))) (some (.tup [.agg (encW { x with line := 42 }), I 0, B true], (objs LM t tw (mCas (m) (adr (Mm.c m) 3 (Wk.T x % 65536 - 1)) (Wk.V x) (pEntry (wU (Wk.T x / 65536 + 1)) (-1) 0))))))) none) (br (q == 45) (br (uB (Wk.T x / 65536)) (br (mCasB (m) (adr (Mm.c m) 3 (Wk.T x % 65536 - 1)) (Wk.V x)) (some (.tup [.agg (encW { x with line := 0, B := 0 }), I 1, B true], (objs LM t tw (mCas (m) (adr (Mm.c m) 3 (Wk.T x % 65536 - 1)) (Wk.V x) (pEntry (Wk.T x / 65536) (w64' (Wk.B x - 1)) 1))))) (some (.tup [.agg (encW { x with line := 44 }), I 0, B true], (objs LM t tw (mCas (m) (adr (Mm.c m) 3 (Wk.T x % 65536 - 1)) (Wk.V x) (pEntry (Wk.T x / 65536) (w64' (Wk.B x - 1)) 1)))))) none) (some (.tup [.agg (encW { x with line := q }), I 0, B false], (objs LM t tw m))))))))))))) none) := by kernel_rfl
theorem nNP_41 (m : Mm) (x : Wk) (t tw : Nat) :
    sxFn (E1029 (Ω := SV × SH)) (An A1029 2) C1029 [.ptr 0 0, .agg (I 41 :: encT x)] (objs LM t tw m) (KT 2) =
    br (uB (Wk.T x)) (br (uB (Wk.G x)) (br (uB (Wk.G x)) (some (.tup [.agg (encW { x with line := 0, B := 0, I := 0, T := pTicket (w64' (Wk.I x - 1)) (Wk.G x) }), I 1, B true], (objs LM t tw (mStore (mClear (m)) (adr (Mm.c m) 3 (w64' (Wk.I x - 1))) (pEntry (Wk.G x) (w64' (Wk.B x - 1)) 1))))) none) none) none := by kernel_rfl
theorem nNN_21 (m : Mm) (x : Wk) (t tw : Nat) :
    sxFn (E1030 (Ω := SV × SH)) (An A1030 2) C1030 [.ptr 0 0, .agg (I 21 :: encT x)] (objs LN t tw m) (KT 2) =
    br (okM (m) && okW ({ x with line := 21 })) (some (.tup [.agg (encW (SR.x (stepS (m) ({ x with line := 21 })))), I (SR.way (stepS (m) ({ x with line := 21 }))), B true], (objs LN t tw (SR.m (stepS (m) ({ x with line := 21 })))))) none := by kernel_rfl
theorem nNN_43 (m : Mm) (x : Wk) (t tw : Nat) :
    sxFn (E1030 (Ω := SV × SH)) (An A1030 2) C1030 [.ptr 0 0, .agg (I 43 :: encT x)] (objs LN t tw m) (KT 2) =
    br (uB (Wk.T x)) (br (uB (wU (Wk.T x / 65536 + 1))) (br (decide (Wk.T x / 65536 ≥ Cf.l (Mm.c m))) (br (uB (Wk.T x / 65536)) (br (!mCasB (m) (adr (Mm.c m) 3 (Wk.T x % 65536 - 1)) (Wk.V x)) (some (.tup [.agg (encW { x with line := 42 }), I 0, B true], (objs LN t tw (mCas (m) (adr (Mm.c m) 3 (Wk.T x % 65536 - 1)) (Wk.V x) (pEntry (Wk.T x / 65536) (-1) 2))))) (some (.tup [.agg (encW { x with line := 0, I := 0 }), I 1, B true], (objs LN t tw (mCas (m) (adr (Mm.c m) 3 (Wk.T x % 65536 - 1)) (Wk.V x) (pEntry (Wk.T x / 65536) (-1) 2)))))) none) (br (!mCasB (m) (adr (Mm.c m) 3 (Wk.T x % 65536 - 1)) (Wk.V x)) (some (.tup [.agg (encW { x with line := 42 }), I 0, B true], (objs LN t tw (mCas (m) (adr (Mm.c m) 3 (Wk.T x % 65536 - 1)) (Wk.V x) (pEntry (wU (Wk.T x / 65536 + 1)) (-1) 0))))) (some (.tup [.agg (encW { x with line := 0, I := IntKind.wrap .i64 (Wk.T x % 65536 - 1 + 1) }), I 1, B true], (objs LN t tw (mCas (m) (adr (Mm.c m) 3 (Wk.T x % 65536 - 1)) (Wk.V x) (pEntry (wU (Wk.T x / 65536 + 1)) (-1) 0))))))) none) none := by kernel_rfl

theorem nNP_20 (m : Mm) (x : Wk) (t tw : Nat) :
    sxFn (E1029 (Ω := SV × SH)) (An A1029 2) C1029 [.ptr 0 0, .agg (I 20 :: encT x)] (objs LM t tw m) (KT 2) =
    br (okM (m) && okW ({ x with line := 20 })) (br (SR.way (stepS (m) ({ x with line := 20 })) == 1) (br (SR.way (stepS (m) ({ x with line := 20 })) == 1) (some (.tup [.agg (encW { (SR.x (stepS (m) ({ x with line := 20 }))) with line := 40, I := IntKind.wrap .i64 (Wk.H (SR.x (stepS (m) ({ x with line := 20 })))) }), I 0, B true], (objs LM t tw (SR.m (stepS (m) ({ x with line := 20 })))))) (some (.tup [.agg (encW (SR.x (stepS (m) ({ x with line := 20 })))), I (SR.way (stepS (m) ({ x with line := 20 }))), B true], (objs LM t tw (SR.m (stepS (m) ({ x with line := 20 }))))))) (br (SR.way (stepS (m) ({ x with line := 20 })) == 1) (some (.tup [.agg (encW { (SR.x (stepS (m) ({ x with line := 20 }))) with line := 40, I := IntKind.wrap .i64 (Wk.H (SR.x (stepS (m) ({ x with line := 20 })))) }), I 0, B true], (objs LM t tw (SR.m (stepS (m) ({ x with line := 20 })))))) (some (.tup [.agg (encW (SR.x (stepS (m) ({ x with line := 20 })))), I (SR.way (stepS (m) ({ x with line := 20 }))), B true], (objs LM t tw (SR.m (stepS (m) ({ x with line := 20 })))))))) none := by kernel_rfl
theorem nNP_42 (m : Mm) (x : Wk) (t tw : Nat) :
    sxFn (E1029 (Ω := SV × SH)) (An A1029 2) C1029 [.ptr 0 0, .agg (I 42 :: encT x)] (objs LM t tw m) (KT 2) =
    br (uB (Wk.T x)) (br (uB (mLoadV (mClear (m)) (adr (Mm.c m) 3 (Wk.T x % 65536 - 1)))) (br (mLoadV (mClear (m)) (adr (Mm.c m) 3 (Wk.T x % 65536 - 1)) % 16 == 1) (br (mLoadV (mClear (m)) (adr (Mm.c m) 3 (Wk.T x % 65536 - 1)) / 1048576 == Wk.T x / 65536) (some (.tup [.agg (encW { x with line := 0, C := IntKind.wrap .i64 (mLoadV (mClear (m)) (adr (Mm.c m) 3 (Wk.T x % 65536 - 1)) / 16 % 65536 - 1 + 1), V := mLoadV (mClear (m)) (adr (Mm.c m) 3 (Wk.T x % 65536 - 1)) }), I 1, B true], (objs LM t tw (mLoad (mClear (m)) (adr (Mm.c m) 3 (Wk.T x % 65536 - 1)))))) (some (.tup [.agg (encW { x with line := 0 }), I 2, B true], (objs LM t tw (mLoad (mClear (m)) (adr (Mm.c m) 3 (Wk.T x % 65536 - 1))))))) (some (.tup [.agg (encW { x with line := 0 }), I 2, B true], (objs LM t tw (mLoad (mClear (m)) (adr (Mm.c m) 3 (Wk.T x % 65536 - 1))))))) none) none := by kernel_rfl
theorem nNN_22 (m : Mm) (x : Wk) (t tw : Nat) :
    sxFn (E1030 (Ω := SV × SH)) (An A1030 2) C1030 [.ptr 0 0, .agg (I 22 :: encT x)] (objs LN t tw m) (KT 2) =
    br (okM (m) && okW ({ x with line := 22 })) (br (SR.way (stepS (m) ({ x with line := 22 })) == 1) (some (.tup [.agg (encW { (SR.x (stepS (m) ({ x with line := 22 }))) with line := 40, I := IntKind.wrap .i64 (Wk.H (SR.x (stepS (m) ({ x with line := 22 })))) }), I 0, B true], (objs LN t tw (SR.m (stepS (m) ({ x with line := 22 })))))) (br (SR.way (stepS (m) ({ x with line := 22 })) == 1) (some (.tup [.agg (encW { (SR.x (stepS (m) ({ x with line := 22 }))) with I := 0 }), I (SR.way (stepS (m) ({ x with line := 22 }))), B true], (objs LN t tw (SR.m (stepS (m) ({ x with line := 22 })))))) (some (.tup [.agg (encW (SR.x (stepS (m) ({ x with line := 22 })))), I (SR.way (stepS (m) ({ x with line := 22 }))), B true], (objs LN t tw (SR.m (stepS (m) ({ x with line := 22 })))))))) none := by kernel_rfl
theorem nNN_44 (m : Mm) (x : Wk) (t tw : Nat) :
    sxFn (E1030 (Ω := SV × SH)) (An A1030 2) C1030 [.ptr 0 0, .agg (I 44 :: encT x)] (objs LN t tw m) (KT 2) =
    br (uB (Wk.T x)) (br (uB (Wk.T x)) (br (uB (mLoadV (m) (adr (Mm.c m) 3 (Wk.T x % 65536 - 1)))) (br (!mLoadV (m) (adr (Mm.c m) 3 (Wk.T x % 65536 - 1)) % 16 == 1) (some (.tup [.agg (encW { x with line := 0 }), I 2, B true], (objs LN t tw (mLoad (m) (adr (Mm.c m) 3 (Wk.T x % 65536 - 1)))))) (br (!mLoadV (m) (adr (Mm.c m) 3 (Wk.T x % 65536 - 1)) / 1048576 == Wk.T x / 65536) (some (.tup [.agg (encW { x with line := 0 }), I 2, B true], (objs LN t tw (mLoad (m) (adr (Mm.c m) 3 (Wk.T x % 65536 - 1)))))) (some (.tup [.agg (encW { x with line := 0, C := IntKind.wrap .i64 (mLoadV (m) (adr (Mm.c m) 3 (Wk.T x % 65536 - 1)) / 16 % 65536 - 1 + 1), V := mLoadV (m) (adr (Mm.c m) 3 (Wk.T x % 65536 - 1)) }), I 1, B true], (objs LN t tw (mLoad (m) (adr (Mm.c m) 3 (Wk.T x % 65536 - 1)))))))) none) none) none := by kernel_rfl

theorem nNP_21 (m : Mm) (x : Wk) (t tw : Nat) :
    sxFn (E1029 (Ω := SV × SH)) (An A1029 2) C1029 [.ptr 0 0, .agg (I 21 :: encT x)] (objs LM t tw m) (KT 2) =
    br (okM (m) && okW ({ x with line := 21 })) (some (.tup [.agg (encW (SR.x (stepS (m) ({ x with line := 21 })))), I (SR.way (stepS (m) ({ x with line := 21 }))), B true], (objs LM t tw (SR.m (stepS (m) ({ x with line := 21 })))))) none := by kernel_rfl
theorem nNP_43 (m : Mm) (x : Wk) (t tw : Nat) :
    sxFn (E1029 (Ω := SV × SH)) (An A1029 2) C1029 [.ptr 0 0, .agg (I 43 :: encT x)] (objs LM t tw m) (KT 2) =
    br (uB (Wk.T x)) (br (uB (wU (Wk.T x / 65536 + 1))) (br (decide (Wk.T x / 65536 ≥ Cf.l (Mm.c m))) (br (uB (Wk.T x / 65536)) (br (mCasB (mClear (m)) (adr (Mm.c m) 3 (Wk.T x % 65536 - 1)) (Wk.V x)) (some (.tup [.agg (encW { x with line := 0, I := 0 }), I 1, B true], (objs LM t tw (mCas (mClear (m)) (adr (Mm.c m) 3 (Wk.T x % 65536 - 1)) (Wk.V x) (pEntry (Wk.T x / 65536) (-1) 2))))) (some (.tup [.agg (encW { x with line := 42 }), I 0, B true], (objs LM t tw (mCas (mClear (m)) (adr (Mm.c m) 3 (Wk.T x % 65536 - 1)) (Wk.V x) (pEntry (Wk.T x / 65536) (-1) 2)))))) none) (br (mCasB (mClear (m)) (adr (Mm.c m) 3 (Wk.T x % 65536 - 1)) (Wk.V x)) (some (.tup [.agg (encW { x with line := 0, I := IntKind.wrap .i64 (Wk.T x % 65536 - 1 + 1) }), I 1, B true], (objs LM t tw (mCas (mClear (m)) (adr (Mm.c m) 3 (Wk.T x % 65536 - 1)) (Wk.V x) (pEntry (wU (Wk.T x / 65536 + 1)) (-1) 0))))) (some (.tup [.agg (encW { x with line := 42 }), I 0, B true], (objs LM t tw (mCas (mClear (m)) (adr (Mm.c m) 3 (Wk.T x % 65536 - 1)) (Wk.V x) (pEntry (wU (Wk.T x / 65536 + 1)) (-1) 0))))))) none) none := by kernel_rfl
theorem nNN_23 (m : Mm) (x : Wk) (t tw : Nat) :
    sxFn (E1030 (Ω := SV × SH)) (An A1030 2) C1030 [.ptr 0 0, .agg (I 23 :: encT x)] (objs LN t tw m) (KT 2) =
    br (okM (m) && okW ({ x with line := 23 })) (some (.tup [.agg (encW (SR.x (stepS (m) ({ x with line := 23 })))), I (SR.way (stepS (m) ({ x with line := 23 }))), B true], (objs LN t tw (SR.m (stepS (m) ({ x with line := 23 })))))) none := by kernel_rfl
theorem nNN_45 (m : Mm) (x : Wk) (t tw : Nat) :
    sxFn (E1030 (Ω := SV × SH)) (An A1030 2) C1030 [.ptr 0 0, .agg (I 45 :: encT x)] (objs LN t tw m) (KT 2) =
    br (uB (Wk.T x)) (br (uB (Wk.T x / 65536)) (br (!mCasB (m) (adr (Mm.c m) 3 (Wk.T x % 65536 - 1)) (Wk.V x)) (some (.tup [.agg (encW { x with line := 44 }), I 0, B true], (objs LN t tw (mCas (m) (adr (Mm.c m) 3 (Wk.T x % 65536 - 1)) (Wk.V x) (pEntry (Wk.T x / 65536) (w64' (Wk.B x - 1)) 1))))) (some (.tup [.agg (encW { x with line := 0, B := 0 }), I 1, B true], (objs LN t tw (mCas (m) (adr (Mm.c m) 3 (Wk.T x % 65536 - 1)) (Wk.V x) (pEntry (Wk.T x / 65536) (w64' (Wk.B x - 1)) 1)))))) none) none := by kernel_rfl

theorem nNP_22 (m : Mm) (x : Wk) (t tw : Nat) :
    sxFn (E1029 (Ω := SV × SH)) (An A1029 2) C1029 [.ptr 0 0, .agg (I 22 :: encT x)] (objs LM t tw m) (KT 2) =
    br (okM (m) && okW ({ x with line := 22 })) (br (SR.way (stepS (m) ({ x with line := 22 })) == 1) (br (SR.way (stepS (m) ({ x with line := 22 })) == 1) (some (.tup [.agg (encW { (SR.x (stepS (m) ({ x with line := 22 }))) with line := 40, I := IntKind.wrap .i64 (Wk.H (SR.x (stepS (m) ({ x with line := 22 })))) }), I 0, B true], (objs LM t tw (SR.m (stepS (m) ({ x with line := 22 })))))) (some (.tup [.agg (encW (SR.x (stepS (m) ({ x with line := 22 })))), I (SR.way (stepS (m) ({ x with line := 22 }))), B true], (objs LM t tw (SR.m (stepS (m) ({ x with line := 22 }))))))) (br (SR.way (stepS (m) ({ x with line := 22 })) == 1) (some (.tup [.agg (encW { (SR.x (stepS (m) ({ x with line := 22 }))) with line := 40, I := IntKind.wrap .i64 (Wk.H (SR.x (stepS (m) ({ x with line := 22 })))) }), I 0, B true], (objs LM t tw (SR.m (stepS (m) ({ x with line := 22 })))))) (some (.tup [.agg (encW (SR.x (stepS (m) ({ x with line := 22 })))), I (SR.way (stepS (m) ({ x with line := 22 }))), B true], (objs LM t tw (SR.m (stepS (m) ({ x with line := 22 })))))))) none := by kernel_rfl
theorem nNP_44 (m : Mm) (x : Wk) (t tw : Nat) :
    sxFn (E1029 (Ω := SV × SH)) (An A1029 2) C1029 [.ptr 0 0, .agg (I 44 :: encT x)] (objs LM t tw m) (KT 2) =
    br (uB (Wk.T x)) (br (uB (mLoadV (mClear (m)) (adr (Mm.c m) 3 (Wk.T x % 65536 - 1)))) (br (mLoadV (mClear (m)) (adr (Mm.c m) 3 (Wk.T x % 65536 - 1)) % 16 == 1) (br (mLoadV (mClear (m)) (adr (Mm.c m) 3 (Wk.T x % 65536 - 1)) / 1048576 == Wk.T x / 65536) (some (.tup [.agg (encW { x with line := 0, C := IntKind.wrap .i64 (mLoadV (mClear (m)) (adr (Mm.c m) 3 (Wk.T x % 65536 - 1)) / 16 % 65536 - 1 + 1), V := mLoadV (mClear (m)) (adr (Mm.c m) 3 (Wk.T x % 65536 - 1)) }), I 1, B true], (objs LM t tw (mLoad (mClear (m)) (adr (Mm.c m) 3 (Wk.T x % 65536 - 1)))))) (some (.tup [.agg (encW { x with line := 0 }), I 2, B true], (objs LM t tw (mLoad (mClear (m)) (adr (Mm.c m) 3 (Wk.T x % 65536 - 1))))))) (some (.tup [.agg (encW { x with line := 0 }), I 2, B true], (objs LM t tw (mLoad (mClear (m)) (adr (Mm.c m) 3 (Wk.T x % 65536 - 1))))))) none) none := by kernel_rfl
theorem nNN_24 (m : Mm) (x : Wk) (t tw : Nat) :
    sxFn (E1030 (Ω := SV × SH)) (An A1030 2) C1030 [.ptr 0 0, .agg (I 24 :: encT x)] (objs LN t tw m) (KT 2) =
    br (okM (m) && okW ({ x with line := 24 })) (some (.tup [.agg (encW (SR.x (stepS (m) ({ x with line := 24 })))), I (SR.way (stepS (m) ({ x with line := 24 }))), B true], (objs LN t tw (SR.m (stepS (m) ({ x with line := 24 })))))) none := by kernel_rfl
theorem nNN_46 (m : Mm) (x : Wk) (t tw : Nat) :
    sxFn (E1030 (Ω := SV × SH)) (An A1030 2) C1030 [.ptr 0 0, .agg (I 46 :: encT x)] (objs LN t tw m) (KT 2) =
    br (uB (Wk.T x)) (br (uB (Wk.T x)) (br (uB (mLoadV (m) (adr (Mm.c m) 3 (Wk.T x % 65536 - 1)))) (br (!mLoadV (m) (adr (Mm.c m) 3 (Wk.T x % 65536 - 1)) % 16 == 1) (some (.tup [.agg (encW { x with line := 0 }), I 2, B true], (objs LN t tw (mLoad (m) (adr (Mm.c m) 3 (Wk.T x % 65536 - 1)))))) (br (!mLoadV (m) (adr (Mm.c m) 3 (Wk.T x % 65536 - 1)) / 1048576 == Wk.T x / 65536) (some (.tup [.agg (encW { x with line := 0 }), I 2, B true], (objs LN t tw (mLoad (m) (adr (Mm.c m) 3 (Wk.T x % 65536 - 1)))))) (some (.tup [.agg (encW { x with line := 0, C := IntKind.wrap .i64 (mLoadV (m) (adr (Mm.c m) 3 (Wk.T x % 65536 - 1)) / 16 % 65536 - 1 + 1), V := mLoadV (m) (adr (Mm.c m) 3 (Wk.T x % 65536 - 1)) }), I 1, B true], (objs LN t tw (mLoad (m) (adr (Mm.c m) 3 (Wk.T x % 65536 - 1)))))))) none) none) none := by kernel_rfl

theorem nNP_23 (m : Mm) (x : Wk) (t tw : Nat) :
    sxFn (E1029 (Ω := SV × SH)) (An A1029 2) C1029 [.ptr 0 0, .agg (I 23 :: encT x)] (objs LM t tw m) (KT 2) =
    br (okM (m) && okW ({ x with line := 23 })) (some (.tup [.agg (encW (SR.x (stepS (m) ({ x with line := 23 })))), I (SR.way (stepS (m) ({ x with line := 23 }))), B true], (objs LM t tw (SR.m (stepS (m) ({ x with line := 23 })))))) none := by kernel_rfl
theorem nNP_45 (m : Mm) (x : Wk) (t tw : Nat) :
    sxFn (E1029 (Ω := SV × SH)) (An A1029 2) C1029 [.ptr 0 0, .agg (I 45 :: encT x)] (objs LM t tw m) (KT 2) =
    br (uB (Wk.T x)) (br (uB (Wk.T x / 65536)) (br (mCasB (mClear (m)) (adr (Mm.c m) 3 (Wk.T x % 65536 - 1)) (Wk.V x)) (some (.tup [.agg (encW { x with line := 0, B := 0 }), I 1, B true], (objs LM t tw (mCas (mClear (m)) (adr (Mm.c m) 3 (Wk.T x % 65536 - 1)) (Wk.V x) (pEntry (Wk.T x / 65536) (w64' (Wk.B x - 1)) 1))))) (some (.tup [.agg (encW { x with line := 44 }), I 0, B true], (objs LM t tw (mCas (mClear (m)) (adr (Mm.c m) 3 (Wk.T x % 65536 - 1)) (Wk.V x) (pEntry (Wk.T x / 65536) (w64' (Wk.B x - 1)) 1)))))) none) none := by kernel_rfl
theorem nNN_25 (m : Mm) (x : Wk) (t tw : Nat) :
    sxFn (E1030 (Ω := SV × SH)) (An A1030 2) C1030 [.ptr 0 0, .agg (I 25 :: encT x)] (objs LN t tw m) (KT 2) =
    br (okM (m) && okW ({ x with line := 25 })) (br (SR.way (stepS (m) ({ x with line := 25 })) == 1) (br (SR.way (stepS (m) ({ x with line := 25 })) == 1) (some (.tup [.agg (encW { (SR.x (stepS (m) ({ x with line := 25 }))) with I := 0 }), I (SR.way (stepS (m) ({ x with line := 25 }))), B true], (objs LN t tw (SR.m (stepS (m) ({ x with line := 25 })))))) (some (.tup [.agg (encW (SR.x (stepS (m) ({ x with line := 25 })))), I (SR.way (stepS (m) ({ x with line := 25 }))), B true], (objs LN t tw (SR.m (stepS (m) ({ x with line := 25 }))))))) (br (SR.way (stepS (m) ({ x with line := 25 })) == 1) (some (.tup [.agg (encW { (SR.x (stepS (m) ({ x with line := 25 }))) with I := 0 }), I (SR.way (stepS (m) ({ x with line := 25 }))), B true], (objs LN t tw (SR.m (stepS (m) ({ x with line := 25 })))))) (some (.tup [.agg (encW (SR.x (stepS (m) ({ x with line := 25 })))), I (SR.way (stepS (m) ({ x with line := 25 }))), B true], (objs LN t tw (SR.m (stepS (m) ({ x with line := 25 })))))))) none := by kernel_rfl
theorem nNN_60 (m : Mm) (x : Wk) (t tw : Nat) :
    sxFn (E1030 (Ω := SV × SH)) (An A1030 2) C1030 [.ptr 0 0, .agg (I 60 :: encT x)] (objs LN t tw m) (KT 2) =
    br (uB (Wk.T x)) (br (uB (Wk.T x)) (br (uB (mLoadV (m) (adr (Mm.c m) 3 (Wk.T x % 65536 - 1)))) (br (!mLoadV (m) (adr (Mm.c m) 3 (Wk.T x % 65536 - 1)) % 16 == 1) (some (.tup [.agg (encW { x with line := 0 }), I 2, B true], (objs LN t tw (mLoad (m) (adr (Mm.c m) 3 (Wk.T x % 65536 - 1)))))) (br (!mLoadV (m) (adr (Mm.c m) 3 (Wk.T x % 65536 - 1)) / 1048576 == Wk.T x / 65536) (some (.tup [.agg (encW { x with line := 0 }), I 2, B true], (objs LN t tw (mLoad (m) (adr (Mm.c m) 3 (Wk.T x % 65536 - 1)))))) (some (.tup [.agg (encW { x with line := 0, C := IntKind.wrap .i64 (mLoadV (m) (adr (Mm.c m) 3 (Wk.T x % 65536 - 1)) / 16 % 65536 - 1 + 1), V := mLoadV (m) (adr (Mm.c m) 3 (Wk.T x % 65536 - 1)) }), I 1, B true], (objs LN t tw (mLoad (m) (adr (Mm.c m) 3 (Wk.T x % 65536 - 1)))))))) none) none) none := by kernel_rfl

theorem nNP_24 (m : Mm) (x : Wk) (t tw : Nat) :
    sxFn (E1029 (Ω := SV × SH)) (An A1029 2) C1029 [.ptr 0 0, .agg (I 24 :: encT x)] (objs LM t tw m) (KT 2) =
    br (okM (m) && okW ({ x with line := 24 })) (some (.tup [.agg (encW (SR.x (stepS (m) ({ x with line := 24 })))), I (SR.way (stepS (m) ({ x with line := 24 }))), B true], (objs LM t tw (SR.m (stepS (m) ({ x with line := 24 })))))) none := by kernel_rfl
theorem nNP_46 (m : Mm) (x : Wk) (t tw : Nat) :
    sxFn (E1029 (Ω := SV × SH)) (An A1029 2) C1029 [.ptr 0 0, .agg (I 46 :: encT x)] (objs LM t tw m) (KT 2) =
    br (uB (Wk.T x)) (br (uB (mLoadV (mClear (m)) (adr (Mm.c m) 3 (Wk.T x % 65536 - 1)))) (br (mLoadV (mClear (m)) (adr (Mm.c m) 3 (Wk.T x % 65536 - 1)) % 16 == 1) (br (mLoadV (mClear (m)) (adr (Mm.c m) 3 (Wk.T x % 65536 - 1)) / 1048576 == Wk.T x / 65536) (some (.tup [.agg (encW { x with line := 0, C := IntKind.wrap .i64 (mLoadV (mClear (m)) (adr (Mm.c m) 3 (Wk.T x % 65536 - 1)) / 16 % 65536 - 1 + 1), V := mLoadV (mClear (m)) (adr (Mm.c m) 3 (Wk.T x % 65536 - 1)) }), I 1, B true], (objs LM t tw (mLoad (mClear (m)) (adr (Mm.c m) 3 (Wk.T x % 65536 - 1)))))) (some (.tup [.agg (encW { x with line := 0 }), I 2, B true], (objs LM t tw (mLoad (mClear (m)) (adr (Mm.c m) 3 (Wk.T x % 65536 - 1))))))) (some (.tup [.agg (encW { x with line := 0 }), I 2, B true], (objs LM t tw (mLoad (mClear (m)) (adr (Mm.c m) 3 (Wk.T x % 65536 - 1))))))) none) none := by kernel_rfl
theorem nNN_40 (m : Mm) (x : Wk) (t tw : Nat) :
    sxFn (E1030 (Ω := SV × SH)) (An A1030 2) C1030 [.ptr 0 0, .agg (I 40 :: encT x)] (objs LN t tw m) (KT 2) =
    br (uB (Wk.T x)) (br (uB (mLoadV (m) (adr (Mm.c m) 3 (w64' (Wk.I x - 1))))) (some (.tup [.agg (encW { x with line := 41, G := mLoadV (m) (adr (Mm.c m) 3 (w64' (Wk.I x - 1))) / 1048576 }), I 0, B true], (objs LN t tw (mLoad (m) (adr (Mm.c m) 3 (w64' (Wk.I x - 1))))))) none) none := by kernel_rfl

theorem nNP_25 (m : Mm) (x : Wk) (t tw : Nat) :
    sxFn (E1029 (Ω := SV × SH)) (An A1029 2) C1029 [.ptr 0 0, .agg (I 25 :: encT x)] (objs LM t tw m) (KT 2) =
    br (okM (m) && okW ({ x with line := 25 })) (br (SR.way (stepS (m) ({ x with line := 25 })) == 1) (some (.tup [.agg (encW { (SR.x (stepS (m) ({ x with line := 25 }))) with I := 0 }), I (SR.way (stepS (m) ({ x with line := 25 }))), B true], (objs LM t tw (SR.m (stepS (m) ({ x with line := 25 })))))) (br (SR.way (stepS (m) ({ x with line := 25 })) == 1) (some (.tup [.agg (encW { (SR.x (stepS (m) ({ x with line := 25 }))) with line := 40, I := IntKind.wrap .i64 (Wk.H (SR.x (stepS (m) ({ x with line := 25 })))) }), I 0, B true], (objs LM t tw (SR.m (stepS (m) ({ x with line := 25 })))))) (some (.tup [.agg (encW (SR.x (stepS (m) ({ x with line := 25 })))), I (SR.way (stepS (m) ({ x with line := 25 }))), B true], (objs LM t tw (SR.m (stepS (m) ({ x with line := 25 })))))))) none := by kernel_rfl
theorem nNP_60 (m : Mm) (x : Wk) (t tw : Nat) :
    sxFn (E1029 (Ω := SV × SH)) (An A1029 2) C1029 [.ptr 0 0, .agg (I 60 :: encT x)] (objs LM t tw m) (KT 2) =
    br (uB (Wk.T x)) (br (uB (mLoadV (mClear (m)) (adr (Mm.c m) 3 (Wk.T x % 65536 - 1)))) (br (mLoadV (mClear (m)) (adr (Mm.c m) 3 (Wk.T x % 65536 - 1)) % 16 == 1) (br (mLoadV (mClear (m)) (adr (Mm.c m) 3 (Wk.T x % 65536 - 1)) / 1048576 == Wk.T x / 65536) (some (.tup [.agg (encW { x with line := 0, C := IntKind.wrap .i64 (mLoadV (mClear (m)) (adr (Mm.c m) 3 (Wk.T x % 65536 - 1)) / 16 % 65536 - 1 + 1), V := mLoadV (mClear (m)) (adr (Mm.c m) 3 (Wk.T x % 65536 - 1)) }), I 1, B true], (objs LM t tw (mLoad (mClear (m)) (adr (Mm.c m) 3 (Wk.T x % 65536 - 1)))))) (some (.tup [.agg (encW { x with line := 0 }), I 2, B true], (objs LM t tw (mLoad (mClear (m)) (adr (Mm.c m) 3 (Wk.T x % 65536 - 1))))))) (some (.tup [.agg (encW { x with line := 0 }), I 2, B true], (objs LM t tw (mLoad (mClear (m)) (adr (Mm.c m) 3 (Wk.T x % 65536 - 1))))))) none) none := by kernel_rfl
theorem nNN_41 (m : Mm) (x : Wk) (t tw : Nat) :
    sxFn (E1030 (Ω := SV × SH)) (An A1030 2) C1030 [.ptr 0 0, .agg (I 41 :: encT x)] (objs LN t tw m) (KT 2) =
    br (uB (Wk.T x)) (br (uB (Wk.G x)) (br (uB (Wk.G x)) (some (.tup [.agg (encW { x with line := 0, B := 0, I := 0, T := pTicket (w64' (Wk.I x - 1)) (Wk.G x) }), I 1, B true], (objs LN t tw (mStore (m) (adr (Mm.c m) 3 (w64' (Wk.I x - 1))) (pEntry (Wk.G x) (w64' (Wk.B x - 1)) 1))))) none) none) none := by kernel_rfl

theorem br_sameN {α : Type} {c : Bool} {x : α} : br c x x = x := by cases c <;> rfl
abbrev ONP (q : Int) : Prop := ∀ (m : Mm) (x : Wk) (t tw : TypeId), sxFn (E1029 (Ω := SV × SH)) (An A1029 2) C1029 [.ptr 0 0, .agg (I q :: encT x)] (objs LM t tw m) (KT 2) = br (uB x.T) (some (.tup [.agg (I q :: encT x), I 0, B false], objs LM t tw m)) none
theorem oNP_neg (n : Nat) : ONP (Int.negSucc n) := fun m x t tw => by
  have hq : Int.negSucc n < 0 := Int.negSucc_lt_zero n
  generalize (Int.negSucc n : Int) = q at hq ⊢
  rw [nNP_any]
  simp only [decide_eq_true (show q < 20 by omega), decide_eq_true (show q ≤ 20 by omega), decide_eq_false (show ¬ q > 20 by omega), decide_eq_false (show ¬ q ≥ 20 by omega), decide_eq_true (show q < 22 by omega), decide_eq_true (show q ≤ 22 by omega), decide_eq_false (show ¬ q > 22 by omega), decide_eq_false (show ¬ q ≥ 22 by omega), decide_eq_true (show q < 25 by omega), decide_eq_true (show q ≤ 25 by omega), decide_eq_false (show ¬ q > 25 by omega), decide_eq_false (show ¬ q ≥ 25 by omega), decide_eq_true (show q < 40 by omega), decide_eq_true (show q ≤ 40 by omega), decide_eq_false (show ¬ q > 40 by omega), decide_eq_false (show ¬ q ≥ 40 by omega), decide_eq_true (show q < 46 by omega), decide_eq_true (show q ≤ 46 by omega), decide_eq_false (show ¬ q > 46 by omega), decide_eq_false (show ¬ q ≥ 46 by omega), beq_false_of_ne (show q ≠ 20 by omega), beq_false_of_ne (show q ≠ 21 by omega), beq_false_of_ne (show q ≠ 22 by omega), beq_false_of_ne (show q ≠ 23 by omega), beq_false_of_ne (show q ≠ 24 by omega), beq_false_of_ne (show q ≠ 25 by omega), beq_false_of_ne (show q ≠ 40 by omega), beq_false_of_ne (show q ≠ 41 by omega), beq_false_of_ne (show q ≠ 42 by omega), beq_false_of_ne (show q ≠ 43 by omega), beq_false_of_ne (show q ≠ 44 by omega), beq_false_of_ne (show q ≠ 45 by omega), beq_false_of_ne (show q ≠ 46 by omega), beq_false_of_ne (show q ≠ 60 by omega), br_t, br_f, br_sameN]
  all_goals rfl
theorem oNP_top (n : Nat) : ONP (Int.ofNat (n + 61)) := fun m x t tw => by
  have hq : Int.ofNat (n + 61) ≥ 61 := by simp only [ge_iff_le, Int.ofNat_eq_natCast]; omega
  generalize (Int.ofNat (n + 61) : Int) = q at hq ⊢
  rw [nNP_any]
  simp only [decide_eq_false (show ¬ q < 20 by omega), decide_eq_false (show ¬ q ≤ 20 by omega), decide_eq_true (show q > 20 by omega), decide_eq_true (show q ≥ 20 by omega), decide_eq_false (show ¬ q < 22 by omega), decide_eq_false (show ¬ q ≤ 22 by omega), decide_eq_true (show q > 22 by omega), decide_eq_true (show q ≥ 22 by omega), decide_eq_false (show ¬ q < 25 by omega), decide_eq_false (show ¬ q ≤ 25 by omega), decide_eq_true (show q > 25 by omega), decide_eq_true (show q ≥ 25 by omega), decide_eq_false (show ¬ q < 40 by omega), decide_eq_false (show ¬ q ≤ 40 by omega), decide_eq_true (show q > 40 by omega), decide_eq_true (show q ≥ 40 by omega), decide_eq_false (show ¬ q < 46 by omega), decide_eq_false (show ¬ q ≤ 46 by omega), decide_eq_true (show q > 46 by omega), decide_eq_true (show q ≥ 46 by omega), beq_false_of_ne (show q ≠ 20 by omega), beq_false_of_ne (show q ≠ 21 by omega), beq_false_of_ne (show q ≠ 22 by omega), beq_false_of_ne (show q ≠ 23 by omega), beq_false_of_ne (show q ≠ 24 by omega), beq_false_of_ne (show q ≠ 25 by omega), beq_false_of_ne (show q ≠ 40 by omega), beq_false_of_ne (show q ≠ 41 by omega), beq_false_of_ne (show q ≠ 42 by omega), beq_false_of_ne (show q ≠ 43 by omega), beq_false_of_ne (show q ≠ 44 by omega), beq_false_of_ne (show q ≠ 45 by omega), beq_false_of_ne (show q ≠ 46 by omega), beq_false_of_ne (show q ≠ 60 by omega), br_t, br_f, br_sameN]
  all_goals rfl
theorem oNP_0 : ONP (Int.ofNat 0) := fun m x t tw => by kernel_rfl
theorem oNP_1 : ONP (Int.ofNat 1) := fun m x t tw => by kernel_rfl
theorem oNP_2 : ONP (Int.ofNat 2) := fun m x t tw => by kernel_rfl
theorem oNP_3 : ONP (Int.ofNat 3) := fun m x t tw => by kernel_rfl
theorem oNP_4 : ONP (Int.ofNat 4) := fun m x t tw => by kernel_rfl
theorem oNP_5 : ONP (Int.ofNat 5) := fun m x t tw => by kernel_rfl
theorem oNP_6 : ONP (Int.ofNat 6) := fun m x t tw => by kernel_rfl
theorem oNP_7 : ONP (Int.ofNat 7) := fun m x t tw => by kernel_rfl
theorem oNP_8 : ONP (Int.ofNat 8) := fun m x t tw => by kernel_rfl
theorem oNP_9 : ONP (Int.ofNat 9) := fun m x t tw => by kernel_rfl
theorem oNP_10 : ONP (Int.ofNat 10) := fun m x t tw => by kernel_rfl
theorem oNP_11 : ONP (Int.ofNat 11) := fun m x t tw => by kernel_rfl
theorem oNP_12 : ONP (Int.ofNat 12) := fun m x t tw => by kernel_rfl
theorem oNP_13 : ONP (Int.ofNat 13) := fun m x t tw => by kernel_rfl
theorem oNP_14 : ONP (Int.ofNat 14) := fun m x t tw => by kernel_rfl
theorem oNP_15 : ONP (Int.ofNat 15) := fun m x t tw => by kernel_rfl
theorem oNP_16 : ONP (Int.ofNat 16) := fun m x t tw => by kernel_rfl
theorem oNP_17 : ONP (Int.ofNat 17) := fun m x t tw => by kernel_rfl
theorem oNP_18 : ONP (Int.ofNat 18) := fun m x t tw => by kernel_rfl
theorem oNP_19 : ONP (Int.ofNat 19) := fun m x t tw => by kernel_rfl
theorem oNP_26 : ONP (Int.ofNat 26) := fun m x t tw => by kernel_rfl
theorem oNP_27 : ONP (Int.ofNat 27) := fun m x t tw => by kernel_rfl
theorem oNP_28 : ONP (Int.ofNat 28) := fun m x t tw => by kernel_rfl
theorem oNP_29 : ONP (Int.ofNat 29) := fun m x t tw => by kernel_rfl
theorem oNP_30 : ONP (Int.ofNat 30) := fun m x t tw => by kernel_rfl
theorem oNP_31 : ONP (Int.ofNat 31) := fun m x t tw => by kernel_rfl
theorem oNP_32 : ONP (Int.ofNat 32) := fun m x t tw => by kernel_rfl
theorem oNP_33 : ONP (Int.ofNat 33) := fun m x t tw => by kernel_rfl
theorem oNP_34 : ONP (Int.ofNat 34) := fun m x t tw => by kernel_rfl
theorem oNP_35 : ONP (Int.ofNat 35) := fun m x t tw => by kernel_rfl
theorem oNP_36 : ONP (Int.ofNat 36) := fun m x t tw => by kernel_rfl
theorem oNP_37 : ONP (Int.ofNat 37) := fun m x t tw => by kernel_rfl
theorem oNP_38 : ONP (Int.ofNat 38) := fun m x t tw => by kernel_rfl
theorem oNP_39 : ONP (Int.ofNat 39) := fun m x t tw => by kernel_rfl
theorem oNP_47 : ONP (Int.ofNat 47) := fun m x t tw => by kernel_rfl
theorem oNP_48 : ONP (Int.ofNat 48) := fun m x t tw => by kernel_rfl
theorem oNP_49 : ONP (Int.ofNat 49) := fun m x t tw => by kernel_rfl
theorem oNP_50 : ONP (Int.ofNat 50) := fun m x t tw => by kernel_rfl
theorem oNP_51 : ONP (Int.ofNat 51) := fun m x t tw => by kernel_rfl
theorem oNP_52 : ONP (Int.ofNat 52) := fun m x t tw => by kernel_rfl
theorem oNP_53 : ONP (Int.ofNat 53) := fun m x t tw => by kernel_rfl
theorem oNP_54 : ONP (Int.ofNat 54) := fun m x t tw => by kernel_rfl
theorem oNP_55 : ONP (Int.ofNat 55) := fun m x t tw => by kernel_rfl
theorem oNP_56 : ONP (Int.ofNat 56) := fun m x t tw => by kernel_rfl
theorem oNP_57 : ONP (Int.ofNat 57) := fun m x t tw => by kernel_rfl
theorem oNP_58 : ONP (Int.ofNat 58) := fun m x t tw => by kernel_rfl
theorem oNP_59 : ONP (Int.ofNat 59) := fun m x t tw => by kernel_rfl
abbrev ONN (q : Int) : Prop := ∀ (m : Mm) (x : Wk) (t tw : TypeId), sxFn (E1030 (Ω := SV × SH)) (An A1030 2) C1030 [.ptr 0 0, .agg (I q :: encT x)] (objs LN t tw m) (KT 2) = some (.tup [.agg (I q :: encT x), I 0, B false], objs LN t tw m)
theorem oNN_neg (n : Nat) : ONN (Int.negSucc n) := fun m x t tw => by
  have hq : Int.negSucc n < 0 := Int.negSucc_lt_zero n
  generalize (Int.negSucc n : Int) = q at hq ⊢
  rw [nNN_any]
  simp only [decide_eq_true (show q < 20 by omega), decide_eq_true (show q ≤ 20 by omega), decide_eq_false (show ¬ q > 20 by omega), decide_eq_false (show ¬ q ≥ 20 by omega), decide_eq_true (show q < 22 by omega), decide_eq_true (show q ≤ 22 by omega), decide_eq_false (show ¬ q > 22 by omega), decide_eq_false (show ¬ q ≥ 22 by omega), decide_eq_true (show q < 25 by omega), decide_eq_true (show q ≤ 25 by omega), decide_eq_false (show ¬ q > 25 by omega), decide_eq_false (show ¬ q ≥ 25 by omega), decide_eq_true (show q < 40 by omega), decide_eq_true (show q ≤ 40 by omega), decide_eq_false (show ¬ q > 40 by omega), decide_eq_false (show ¬ q ≥ 40 by omega), decide_eq_true (show q < 46 by omega), decide_eq_true (show q ≤ 46 by omega), decide_eq_false (show ¬ q > 46 by omega), decide_eq_false (show ¬ q ≥ 46 by omega), beq_false_of_ne (show q ≠ 20 by omega), beq_false_of_ne (show q ≠ 21 by omega), beq_false_of_ne (show q ≠ 22 by omega), beq_false_of_ne (show q ≠ 23 by omega), beq_false_of_ne (show q ≠ 24 by omega), beq_false_of_ne (show q ≠ 25 by omega), beq_false_of_ne (show q ≠ 40 by omega), beq_false_of_ne (show q ≠ 41 by omega), beq_false_of_ne (show q ≠ 42 by omega), beq_false_of_ne (show q ≠ 43 by omega), beq_false_of_ne (show q ≠ 44 by omega), beq_false_of_ne (show q ≠ 45 by omega), beq_false_of_ne (show q ≠ 46 by omega), beq_false_of_ne (show q ≠ 60 by omega), br_t, br_f, br_sameN]
  all_goals rfl
theorem oNN_top (n : Nat) : ONN (Int.ofNat (n + 61)) := fun m x t tw => by
  have hq : Int.ofNat (n + 61) ≥ 61 := by simp only [ge_iff_le, Int.ofNat_eq_natCast]; omega
  generalize (Int.ofNat (n + 61) : Int) = q at hq ⊢
  rw [nNN_any]
  simp only [decide_eq_false (show ¬ q < 20 by omega), decide_eq_false (show ¬ q ≤ 20 by omega), decide_eq_true (show q > 20 by omega), decide_eq_true (show q ≥ 20 by omega), decide_eq_false (show ¬ q < 22 by omega), decide_eq_false (show ¬ q ≤ 22 by omega), decide_eq_true (show q > 22 by omega), decide_eq_true (show q ≥ 22 by omega), decide_eq_false (show ¬ q < 25 by omega), decide_eq_false (show ¬ q ≤ 25 by omega), decide_eq_true (show q > 25 by omega), decide_eq_true (show q ≥ 25 by omega), decide_eq_false (show ¬ q < 40 by omega), decide_eq_false (show ¬ q ≤ 40 by omega), decide_eq_true (show q > 40 by omega), decide_eq_true (show q ≥ 40 by omega), decide_eq_false (show ¬ q < 46 by omega), decide_eq_false (show ¬ q ≤ 46 by omega), decide_eq_true (show q > 46 by omega), decide_eq_true (show q ≥ 46 by omega), beq_false_of_ne (show q ≠ 20 by omega), beq_false_of_ne (show q ≠ 21 by omega), beq_false_of_ne (show q ≠ 22 by omega), beq_false_of_ne (show q ≠ 23 by omega), beq_false_of_ne (show q ≠ 24 by omega), beq_false_of_ne (show q ≠ 25 by omega), beq_false_of_ne (show q ≠ 40 by omega), beq_false_of_ne (show q ≠ 41 by omega), beq_false_of_ne (show q ≠ 42 by omega), beq_false_of_ne (show q ≠ 43 by omega), beq_false_of_ne (show q ≠ 44 by omega), beq_false_of_ne (show q ≠ 45 by omega), beq_false_of_ne (show q ≠ 46 by omega), beq_false_of_ne (show q ≠ 60 by omega), br_t, br_f, br_sameN]
  all_goals rfl
theorem oNN_0 : ONN (Int.ofNat 0) := fun m x t tw => by kernel_rfl
theorem oNN_1 : ONN (Int.ofNat 1) := fun m x t tw => by kernel_rfl
theorem oNN_2 : ONN (Int.ofNat 2) := fun m x t tw => by kernel_rfl
theorem oNN_3 : ONN (Int.ofNat 3) := fun m x t tw => by kernel_rfl
theorem oNN_4 : ONN (Int.ofNat 4) := fun m x t tw => by kernel_rfl
theorem oNN_5 : ONN (Int.ofNat 5) := fun m x t tw => by kernel_rfl
theorem oNN_6 : ONN (Int.ofNat 6) := fun m x t tw => by kernel_rfl
theorem oNN_7 : ONN (Int.ofNat 7) := fun m x t tw => by kernel_rfl
theorem oNN_8 : ONN (Int.ofNat 8) := fun m x t tw => by kernel_rfl
theorem oNN_9 : ONN (Int.ofNat 9) := fun m x t tw => by kernel_rfl
theorem oNN_10 : ONN (Int.ofNat 10) := fun m x t tw => by kernel_rfl
theorem oNN_11 : ONN (Int.ofNat 11) := fun m x t tw => by kernel_rfl
theorem oNN_12 : ONN (Int.ofNat 12) := fun m x t tw => by kernel_rfl
theorem oNN_13 : ONN (Int.ofNat 13) := fun m x t tw => by kernel_rfl
theorem oNN_14 : ONN (Int.ofNat 14) := fun m x t tw => by kernel_rfl
theorem oNN_15 : ONN (Int.ofNat 15) := fun m x t tw => by kernel_rfl
theorem oNN_16 : ONN (Int.ofNat 16) := fun m x t tw => by kernel_rfl
theorem oNN_17 : ONN (Int.ofNat 17) := fun m x t tw => by kernel_rfl
theorem oNN_18 : ONN (Int.ofNat 18) := fun m x t tw => by kernel_rfl
theorem oNN_19 : ONN (Int.ofNat 19) := fun m x t tw => by kernel_rfl
theorem oNN_26 : ONN (Int.ofNat 26) := fun m x t tw => by kernel_rfl
theorem oNN_27 : ONN (Int.ofNat 27) := fun m x t tw => by kernel_rfl
theorem oNN_28 : ONN (Int.ofNat 28) := fun m x t tw => by kernel_rfl
theorem oNN_29 : ONN (Int.ofNat 29) := fun m x t tw => by kernel_rfl
theorem oNN_30 : ONN (Int.ofNat 30) := fun m x t tw => by kernel_rfl
theorem oNN_31 : ONN (Int.ofNat 31) := fun m x t tw => by kernel_rfl
theorem oNN_32 : ONN (Int.ofNat 32) := fun m x t tw => by kernel_rfl
theorem oNN_33 : ONN (Int.ofNat 33) := fun m x t tw => by kernel_rfl
theorem oNN_34 : ONN (Int.ofNat 34) := fun m x t tw => by kernel_rfl
theorem oNN_35 : ONN (Int.ofNat 35) := fun m x t tw => by kernel_rfl
theorem oNN_36 : ONN (Int.ofNat 36) := fun m x t tw => by kernel_rfl
theorem oNN_37 : ONN (Int.ofNat 37) := fun m x t tw => by kernel_rfl
theorem oNN_38 : ONN (Int.ofNat 38) := fun m x t tw => by kernel_rfl
theorem oNN_39 : ONN (Int.ofNat 39) := fun m x t tw => by kernel_rfl
theorem oNN_47 : ONN (Int.ofNat 47) := fun m x t tw => by kernel_rfl
theorem oNN_48 : ONN (Int.ofNat 48) := fun m x t tw => by kernel_rfl
theorem oNN_49 : ONN (Int.ofNat 49) := fun m x t tw => by kernel_rfl
theorem oNN_50 : ONN (Int.ofNat 50) := fun m x t tw => by kernel_rfl
theorem oNN_51 : ONN (Int.ofNat 51) := fun m x t tw => by kernel_rfl
theorem oNN_52 : ONN (Int.ofNat 52) := fun m x t tw => by kernel_rfl
theorem oNN_53 : ONN (Int.ofNat 53) := fun m x t tw => by kernel_rfl
theorem oNN_54 : ONN (Int.ofNat 54) := fun m x t tw => by kernel_rfl
theorem oNN_55 : ONN (Int.ofNat 55) := fun m x t tw => by kernel_rfl
theorem oNN_56 : ONN (Int.ofNat 56) := fun m x t tw => by kernel_rfl
theorem oNN_57 : ONN (Int.ofNat 57) := fun m x t tw => by kernel_rfl
theorem oNN_58 : ONN (Int.ofNat 58) := fun m x t tw => by kernel_rfl
theorem oNN_59 : ONN (Int.ofNat 59) := fun m x t tw => by kernel_rfl
theorem mN_no {m : Mm} {x : Wk} (h : x.line ≠ 20 ∧ x.line ≠ 21 ∧ x.line ≠ 22 ∧ x.line ≠ 23 ∧ x.line ≠ 24 ∧ x.line ≠ 25 ∧ x.line ≠ 40 ∧ x.line ≠ 41 ∧ x.line ≠ 42 ∧ x.line ≠ 43 ∧ x.line ≠ 44 ∧ x.line ≠ 45 ∧ x.line ≠ 46 ∧ x.line ≠ 60) : stepN m x = ⟨m, x, 0, false⟩ := by
  have h1 : ¬ (20 ≤ x.line ∧ x.line ≤ 25) := by omega
  simp only [stepN, h, h1, ↓reduceIte, or_self]
theorem vNP_20 {m : Mm} {x : Wk} {t tw : TypeId} (hm : okM m = true) (hx : okW x = true) : sxFn (E1029 (Ω := SV × SH)) (An A1029 2) C1029 [.ptr 0 0, .agg (I 20 :: encT x)] (objs LM t tw m) (KT 2) = some (.tup [.agg (encW (stepN m { x with line := 20 }).x), I (stepN m { x with line := 20 }).way, B (stepN m { x with line := 20 }).ok], objs LM t tw (stepN m { x with line := 20 }).m) := by
  obtain ⟨b1, b2, b3, b4, b5, b6, b7, b8, b9, b10, b11, b12⟩ := okW_all hx
  have hu := okM_u hm
  rw [nNP_20]
  try simp only [clrV, clrL, clrS, clrB, clrC, clrA, clrAV, b1, b2, b3, b4, b5, b6, b7, b8, b9, b10, b11, b12, uB_load hu, tmod_load hu, tdiv_load hu (show (0 : Int) < 2 by decide), cfg_a1 hm, low32, w64_low, vers b9, uB_vers b9, nn (uB_load hu), nn b3, nn b8, nn b9, nn b11, nn b12, ge_iff_le, Bool.and_true, Bool.true_and, br_t, vers16 b12, uB_vers16 b12, uB_16 b12, w64_c, okW_line, hm, hx, Bool.and_self]
  simp only [stepN, Int.reduceEq, ↓reduceIte, lookN, liveV, nextV, tE, tG, Int.reduceLE, and_self, and_true, and_false, or_self, or_true, or_false, true_or, false_or, decide_true, decide_false]
  cases h0 : ((stepS m { x with line := 20 }).way == 1) <;> simp only [h0, br_t, br_f, cond_true, cond_false, Bool.not_true, Bool.not_false, Bool.true_and, Bool.false_and, Bool.and_true, Bool.and_false, decide_true, decide_false] <;> first | rfl | (rw [eq_of_beq h0]; done) | (rw [eq_of_beq h0]; rfl)
theorem vNP_21 {m : Mm} {x : Wk} {t tw : TypeId} (hm : okM m = true) (hx : okW x = true) : sxFn (E1029 (Ω := SV × SH)) (An A1029 2) C1029 [.ptr 0 0, .agg (I 21 :: encT x)] (objs LM t tw m) (KT 2) = some (.tup [.agg (encW (stepN m { x with line := 21 }).x), I (stepN m { x with line := 21 }).way, B (stepN m { x with line := 21 }).ok], objs LM t tw (stepN m { x with line := 21 }).m) := by
  obtain ⟨b1, b2, b3, b4, b5, b6, b7, b8, b9, b10, b11, b12⟩ := okW_all hx
  have hu := okM_u hm
  rw [nNP_21]
  try simp only [clrV, clrL, clrS, clrB, clrC, clrA, clrAV, b1, b2, b3, b4, b5, b6, b7, b8, b9, b10, b11, b12, uB_load hu, tmod_load hu, tdiv_load hu (show (0 : Int) < 2 by decide), cfg_a1 hm, low32, w64_low, vers b9, uB_vers b9, nn (uB_load hu), nn b3, nn b8, nn b9, nn b11, nn b12, ge_iff_le, Bool.and_true, Bool.true_and, br_t, vers16 b12, uB_vers16 b12, uB_16 b12, w64_c, okW_line, hm, hx, Bool.and_self]
  simp only [stepN, Int.reduceEq, ↓reduceIte, lookN, liveV, nextV, tE, tG, Int.reduceLE, and_self, and_true, and_false, or_self, or_true, or_false, true_or, false_or, decide_true, decide_false]
  all_goals rfl
theorem vNP_22 {m : Mm} {x : Wk} {t tw : TypeId} (hm : okM m = true) (hx : okW x = true) : sxFn (E1029 (Ω := SV × SH)) (An A1029 2) C1029 [.ptr 0 0, .agg (I 22 :: encT x)] (objs LM t tw m) (KT 2) = some (.tup [.agg (encW (stepN m { x with line := 22 }).x), I (stepN m { x with line := 22 }).way, B (stepN m { x with line := 22 }).ok], objs LM t tw (stepN m { x with line := 22 }).m) := by
  obtain ⟨b1, b2, b3, b4, b5, b6, b7, b8, b9, b10, b11, b12⟩ := okW_all hx
  have hu := okM_u hm
  rw [nNP_22]
  try simp only [clrV, clrL, clrS, clrB, clrC, clrA, clrAV, b1, b2, b3, b4, b5, b6, b7, b8, b9, b10, b11, b12, uB_load hu, tmod_load hu, tdiv_load hu (show (0 : Int) < 2 by decide), cfg_a1 hm, low32, w64_low, vers b9, uB_vers b9, nn (uB_load hu), nn b3, nn b8, nn b9, nn b11, nn b12, ge_iff_le, Bool.and_true, Bool.true_and, br_t, vers16 b12, uB_vers16 b12, uB_16 b12, w64_c, okW_line, hm, hx, Bool.and_self]
  simp only [stepN, Int.reduceEq, ↓reduceIte, lookN, liveV, nextV, tE, tG, Int.reduceLE, and_self, and_true, and_false, or_self, or_true, or_false, true_or, false_or, decide_true, decide_false]
  cases h0 : ((stepS m { x with line := 22 }).way == 1) <;> simp only [h0, br_t, br_f, cond_true, cond_false, Bool.not_true, Bool.not_false, Bool.true_and, Bool.false_and, Bool.and_true, Bool.and_false, decide_true, decide_false] <;> first | rfl | (rw [eq_of_beq h0]; done) | (rw [eq_of_beq h0]; rfl)
theorem vNP_23 {m : Mm} {x : Wk} {t tw : TypeId} (hm : okM m = true) (hx : okW x = true) : sxFn (E1029 (Ω := SV × SH)) (An A1029 2) C1029 [.ptr 0 0, .agg (I 23 :: encT x)] (objs LM t tw m) (KT 2) = some (.tup [.agg (encW (stepN m { x with line := 23 }).x), I (stepN m { x with line := 23 }).way, B (stepN m { x with line := 23 }).ok], objs LM t tw (stepN m { x with line := 23 }).m) := by
  obtain ⟨b1, b2, b3, b4, b5, b6, b7, b8, b9, b10, b11, b12⟩ := okW_all hx
  have hu := okM_u hm
  rw [nNP_23]
  try simp only [clrV, clrL, clrS, clrB, clrC, clrA, clrAV, b1, b2, b3, b4, b5, b6, b7, b8, b9, b10, b11, b12, uB_load hu, tmod_load hu, tdiv_load hu (show (0 : Int) < 2 by decide), cfg_a1 hm, low32, w64_low, vers b9, uB_vers b9, nn (uB_load hu), nn b3, nn b8, nn b9, nn b11, nn b12, ge_iff_le, Bool.and_true, Bool.true_and, br_t, vers16 b12, uB_vers16 b12, uB_16 b12, w64_c, okW_line, hm, hx, Bool.and_self]
  simp only [stepN, Int.reduceEq, ↓reduceIte, lookN, liveV, nextV, tE, tG, Int.reduceLE, and_self, and_true, and_false, or_self, or_true, or_false, true_or, false_or, decide_true, decide_false]
  all_goals rfl
theorem vNP_24 {m : Mm} {x : Wk} {t tw : TypeId} (hm : okM m = true) (hx : okW x = true) : sxFn (E1029 (Ω := SV × SH)) (An A1029 2) C1029 [.ptr 0 0, .agg (I 24 :: encT x)] (objs LM t tw m) (KT 2) = some (.tup [.agg (encW (stepN m { x with line := 24 }).x), I (stepN m { x with line := 24 }).way, B (stepN m { x with line := 24 }).ok], objs LM t tw (stepN m { x with line := 24 }).m) := by
  obtain ⟨b1, b2, b3, b4, b5, b6, b7, b8, b9, b10, b11, b12⟩ := okW_all hx
  have hu := okM_u hm
  rw [nNP_24]
  try simp only [clrV, clrL, clrS, clrB, clrC, clrA, clrAV, b1, b2, b3, b4, b5, b6, b7, b8, b9, b10, b11, b12, uB_load hu, tmod_load hu, tdiv_load hu (show (0 : Int) < 2 by decide), cfg_a1 hm, low32, w64_low, vers b9, uB_vers b9, nn (uB_load hu), nn b3, nn b8, nn b9, nn b11, nn b12, ge_iff_le, Bool.and_true, Bool.true_and, br_t, vers16 b12, uB_vers16 b12, uB_16 b12, w64_c, okW_line, hm, hx, Bool.and_self]
  simp only [stepN, Int.reduceEq, ↓reduceIte, lookN, liveV, nextV, tE, tG, Int.reduceLE, and_self, and_true, and_false, or_self, or_true, or_false, true_or, false_or, decide_true, decide_false]
  all_goals rfl
theorem vNP_25 {m : Mm} {x : Wk} {t tw : TypeId} (hm : okM m = true) (hx : okW x = true) : sxFn (E1029 (Ω := SV × SH)) (An A1029 2) C1029 [.ptr 0 0, .agg (I 25 :: encT x)] (objs LM t tw m) (KT 2) = some (.tup [.agg (encW (stepN m { x with line := 25 }).x), I (stepN m { x with line := 25 }).way, B (stepN m { x with line := 25 }).ok], objs LM t tw (stepN m { x with line := 25 }).m) := by
  obtain ⟨b1, b2, b3, b4, b5, b6, b7, b8, b9, b10, b11, b12⟩ := okW_all hx
  have hu := okM_u hm
  rw [nNP_25]
  try simp only [clrV, clrL, clrS, clrB, clrC, clrA, clrAV, b1, b2, b3, b4, b5, b6, b7, b8, b9, b10, b11, b12, uB_load hu, tmod_load hu, tdiv_load hu (show (0 : Int) < 2 by decide), cfg_a1 hm, low32, w64_low, vers b9, uB_vers b9, nn (uB_load hu), nn b3, nn b8, nn b9, nn b11, nn b12, ge_iff_le, Bool.and_true, Bool.true_and, br_t, vers16 b12, uB_vers16 b12, uB_16 b12, w64_c, okW_line, hm, hx, Bool.and_self]
  simp only [stepN, Int.reduceEq, ↓reduceIte, lookN, liveV, nextV, tE, tG, Int.reduceLE, and_self, and_true, and_false, or_self, or_true, or_false, true_or, false_or, decide_true, decide_false]
  cases h0 : ((stepS m { x with line := 25 }).way == 1) <;> simp only [h0, br_t, br_f, cond_true, cond_false, Bool.not_true, Bool.not_false, Bool.true_and, Bool.false_and, Bool.and_true, Bool.and_false, decide_true, decide_false] <;> first | rfl | (rw [eq_of_beq h0]; done) | (rw [eq_of_beq h0]; rfl)
theorem vNP_40 {m : Mm} {x : Wk} {t tw : TypeId} (hm : okM m = true) (hx : okW x = true) : sxFn (E1029 (Ω := SV × SH)) (An A1029 2) C1029 [.ptr 0 0, .agg (I 40 :: encT x)] (objs LM t tw m) (KT 2) = some (.tup [.agg (encW (stepN m { x with line := 40 }).x), I (stepN m { x with line := 40 }).way, B (stepN m { x with line := 40 }).ok], objs LM t tw (stepN m { x with line := 40 }).m) := by
  obtain ⟨b1, b2, b3, b4, b5, b6, b7, b8, b9, b10, b11, b12⟩ := okW_all hx
  have hu := okM_u hm
  rw [nNP_40]
  try simp only [clrV, clrL, clrS, clrB, clrC, clrA, clrAV, b1, b2, b3, b4, b5, b6, b7, b8, b9, b10, b11, b12, uB_load hu, tmod_load hu, tdiv_load hu (show (0 : Int) < 2 by decide), cfg_a1 hm, low32, w64_low, vers b9, uB_vers b9, nn (uB_load hu), nn b3, nn b8, nn b9, nn b11, nn b12, ge_iff_le, Bool.and_true, Bool.true_and, br_t, vers16 b12, uB_vers16 b12, uB_16 b12, w64_c, okW_line, hm, hx, Bool.and_self]
  simp only [stepN, Int.reduceEq, ↓reduceIte, lookN, liveV, nextV, tE, tG, Int.reduceLE, and_self, and_true, and_false, or_self, or_true, or_false, true_or, false_or, decide_true, decide_false]
  all_goals rfl
theorem vNP_41 {m : Mm} {x : Wk} {t tw : TypeId} (hm : okM m = true) (hx : okW x = true) : sxFn (E1029 (Ω := SV × SH)) (An A1029 2) C1029 [.ptr 0 0, .agg (I 41 :: encT x)] (objs LM t tw m) (KT 2) = some (.tup [.agg (encW (stepN m { x with line := 41 }).x), I (stepN m { x with line := 41 }).way, B (stepN m { x with line := 41 }).ok], objs LM t tw (stepN m { x with line := 41 }).m) := by
  obtain ⟨b1, b2, b3, b4, b5, b6, b7, b8, b9, b10, b11, b12⟩ := okW_all hx
  have hu := okM_u hm
  rw [nNP_41]
  try simp only [clrV, clrL, clrS, clrB, clrC, clrA, clrAV, b1, b2, b3, b4, b5, b6, b7, b8, b9, b10, b11, b12, uB_load hu, tmod_load hu, tdiv_load hu (show (0 : Int) < 2 by decide), cfg_a1 hm, low32, w64_low, vers b9, uB_vers b9, nn (uB_load hu), nn b3, nn b8, nn b9, nn b11, nn b12, ge_iff_le, Bool.and_true, Bool.true_and, br_t, vers16 b12, uB_vers16 b12, uB_16 b12, w64_c, okW_line, hm, hx, Bool.and_self]
  simp only [stepN, Int.reduceEq, ↓reduceIte, lookN, liveV, nextV, tE, tG, Int.reduceLE, and_self, and_true, and_false, or_self, or_true, or_false, true_or, false_or, decide_true, decide_false]
  all_goals rfl
theorem vNP_42 {m : Mm} {x : Wk} {t tw : TypeId} (hm : okM m = true) (hx : okW x = true) : sxFn (E1029 (Ω := SV × SH)) (An A1029 2) C1029 [.ptr 0 0, .agg (I 42 :: encT x)] (objs LM t tw m) (KT 2) = some (.tup [.agg (encW (stepN m { x with line := 42 }).x), I (stepN m { x with line := 42 }).way, B (stepN m { x with line := 42 }).ok], objs LM t tw (stepN m { x with line := 42 }).m) := by
  obtain ⟨b1, b2, b3, b4, b5, b6, b7, b8, b9, b10, b11, b12⟩ := okW_all hx
  have hu := okM_u hm
  rw [nNP_42]
  try simp only [clrV, clrL, clrS, clrB, clrC, clrA, clrAV, b1, b2, b3, b4, b5, b6, b7, b8, b9, b10, b11, b12, uB_load hu, tmod_load hu, tdiv_load hu (show (0 : Int) < 2 by decide), cfg_a1 hm, low32, w64_low, vers b9, uB_vers b9, nn (uB_load hu), nn b3, nn b8, nn b9, nn b11, nn b12, ge_iff_le, Bool.and_true, Bool.true_and, br_t, vers16 b12, uB_vers16 b12, uB_16 b12, w64_c, okW_line, hm, hx, Bool.and_self]
  simp only [stepN, Int.reduceEq, ↓reduceIte, lookN, liveV, nextV, tE, tG, Int.reduceLE, and_self, and_true, and_false, or_self, or_true, or_false, true_or, false_or, decide_true, decide_false]
  cases h0 : (mLoadV m (adr m.c 3 (x.T % 65536 - 1)) % 16 == 1) <;> cases h1 : (mLoadV m (adr m.c 3 (x.T % 65536 - 1)) / 1048576 == x.T / 65536) <;> simp only [h0, h1, br_t, br_f, cond_true, cond_false, Bool.not_true, Bool.not_false, Bool.true_and, Bool.false_and, Bool.and_true, Bool.and_false, decide_true, decide_false] <;> first | rfl | (rw [eq_of_beq h0]; done) | (rw [eq_of_beq h0]; rfl)
theorem vNP_43 {m : Mm} {x : Wk} {t tw : TypeId} (hm : okM m = true) (hx : okW x = true) : sxFn (E1029 (Ω := SV × SH)) (An A1029 2) C1029 [.ptr 0 0, .agg (I 43 :: encT x)] (objs LM t tw m) (KT 2) = some (.tup [.agg (encW (stepN m { x with line := 43 }).x), I (stepN m { x with line := 43 }).way, B (stepN m { x with line := 43 }).ok], objs LM t tw (stepN m { x with line := 43 }).m) := by
  obtain ⟨b1, b2, b3, b4, b5, b6, b7, b8, b9, b10, b11, b12⟩ := okW_all hx
  have hu := okM_u hm
  rw [nNP_43]
  try simp only [clrV, clrL, clrS, clrB, clrC, clrA, clrAV, b1, b2, b3, b4, b5, b6, b7, b8, b9, b10, b11, b12, uB_load hu, tmod_load hu, tdiv_load hu (show (0 : Int) < 2 by decide), cfg_a1 hm, low32, w64_low, vers b9, uB_vers b9, nn (uB_load hu), nn b3, nn b8, nn b9, nn b11, nn b12, ge_iff_le, Bool.and_true, Bool.true_and, br_t, vers16 b12, uB_vers16 b12, uB_16 b12, w64_c, okW_line, hm, hx, Bool.and_self]
  simp only [stepN, Int.reduceEq, ↓reduceIte, lookN, liveV, nextV, tE, tG, Int.reduceLE, and_self, and_true, and_false, or_self, or_true, or_false, true_or, false_or, decide_true, decide_false]
  cases h0 : (decide (m.c.l ≤ x.T / 65536)) <;> cases h1 : (mCasB m (adr m.c 3 (x.T % 65536 - 1)) x.V) <;> simp only [h0, h1, br_t, br_f, cond_true, cond_false, Bool.not_true, Bool.not_false, Bool.true_and, Bool.false_and, Bool.and_true, Bool.and_false, decide_true, decide_false] <;> first | rfl | (rw [eq_of_beq h0]; done) | (rw [eq_of_beq h0]; rfl)
theorem vNP_44 {m : Mm} {x : Wk} {t tw : TypeId} (hm : okM m = true) (hx : okW x = true) : sxFn (E1029 (Ω := SV × SH)) (An A1029 2) C1029 [.ptr 0 0, .agg (I 44 :: encT x)] (objs LM t tw m) (KT 2) = some (.tup [.agg (encW (stepN m { x with line := 44 }).x), I (stepN m { x with line := 44 }).way, B (stepN m { x with line := 44 }).ok], objs LM t tw (stepN m { x with line := 44 }).m) := by
  obtain ⟨b1, b2, b3, b4, b5, b6, b7, b8, b9, b10, b11, b12⟩ := okW_all hx
  have hu := okM_u hm
  rw [nNP_44]
  try simp only [clrV, clrL, clrS, clrB, clrC, clrA, clrAV, b1, b2, b3, b4, b5, b6, b7, b8, b9, b10, b11, b12, uB_load hu, tmod_load hu, tdiv_load hu (show (0 : Int) < 2 by decide), cfg_a1 hm, low32, w64_low, vers b9, uB_vers b9, nn (uB_load hu), nn b3, nn b8, nn b9, nn b11, nn b12, ge_iff_le, Bool.and_true, Bool.true_and, br_t, vers16 b12, uB_vers16 b12, uB_16 b12, w64_c, okW_line, hm, hx, Bool.and_self]
  simp only [stepN, Int.reduceEq, ↓reduceIte, lookN, liveV, nextV, tE, tG, Int.reduceLE, and_self, and_true, and_false, or_self, or_true, or_false, true_or, false_or, decide_true, decide_false]
  cases h0 : (mLoadV m (adr m.c 3 (x.T % 65536 - 1)) % 16 == 1) <;> cases h1 : (mLoadV m (adr m.c 3 (x.T % 65536 - 1)) / 1048576 == x.T / 65536) <;> simp only [h0, h1, br_t, br_f, cond_true, cond_false, Bool.not_true, Bool.not_false, Bool.true_and, Bool.false_and, Bool.and_true, Bool.and_false, decide_true, decide_false] <;> first | rfl | (rw [eq_of_beq h0]; done) | (rw [eq_of_beq h0]; rfl)
theorem vNP_45 {m : Mm} {x : Wk} {t tw : TypeId} (hm : okM m = true) (hx : okW x = true) : sxFn (E1029 (Ω := SV × SH)) (An A1029 2) C1029 [.ptr 0 0, .agg (I 45 :: encT x)] (objs LM t tw m) (KT 2) = some (.tup [.agg (encW (stepN m { x with line := 45 }).x), I (stepN m { x with line := 45 }).way, B (stepN m { x with line := 45 }).ok], objs LM t tw (stepN m { x with line := 45 }).m) := by
  obtain ⟨b1, b2, b3, b4, b5, b6, b7, b8, b9, b10, b11, b12⟩ := okW_all hx
  have hu := okM_u hm
  rw [nNP_45]
  try simp only [clrV, clrL, clrS, clrB, clrC, clrA, clrAV, b1, b2, b3, b4, b5, b6, b7, b8, b9, b10, b11, b12, uB_load hu, tmod_load hu, tdiv_load hu (show (0 : Int) < 2 by decide), cfg_a1 hm, low32, w64_low, vers b9, uB_vers b9, nn (uB_load hu), nn b3, nn b8, nn b9, nn b11, nn b12, ge_iff_le, Bool.and_true, Bool.true_and, br_t, vers16 b12, uB_vers16 b12, uB_16 b12, w64_c, okW_line, hm, hx, Bool.and_self]
  simp only [stepN, Int.reduceEq, ↓reduceIte, lookN, liveV, nextV, tE, tG, Int.reduceLE, and_self, and_true, and_false, or_self, or_true, or_false, true_or, false_or, decide_true, decide_false]
  cases h0 : (mCasB m (adr m.c 3 (x.T % 65536 - 1)) x.V) <;> simp only [h0, br_t, br_f, cond_true, cond_false, Bool.not_true, Bool.not_false, Bool.true_and, Bool.false_and, Bool.and_true, Bool.and_false, decide_true, decide_false] <;> first | rfl | (rw [eq_of_beq h0]; done) | (rw [eq_of_beq h0]; rfl)
theorem vNP_46 {m : Mm} {x : Wk} {t tw : TypeId} (hm : okM m = true) (hx : okW x = true) : sxFn (E1029 (Ω := SV × SH)) (An A1029 2) C1029 [.ptr 0 0, .agg (I 46 :: encT x)] (objs LM t tw m) (KT 2) = some (.tup [.agg (encW (stepN m { x with line := 46 }).x), I (stepN m { x with line := 46 }).way, B (stepN m { x with line := 46 }).ok], objs LM t tw (stepN m { x with line := 46 }).m) := by
  obtain ⟨b1, b2, b3, b4, b5, b6, b7, b8, b9, b10, b11, b12⟩ := okW_all hx
  have hu := okM_u hm
  rw [nNP_46]
  try simp only [clrV, clrL, clrS, clrB, clrC, clrA, clrAV, b1, b2, b3, b4, b5, b6, b7, b8, b9, b10, b11, b12, uB_load hu, tmod_load hu, tdiv_load hu (show (0 : Int) < 2 by decide), cfg_a1 hm, low32, w64_low, vers b9, uB_vers b9, nn (uB_load hu), nn b3, nn b8, nn b9, nn b11, nn b12, ge_iff_le, Bool.and_true, Bool.true_and, br_t, vers16 b12, uB_vers16 b12, uB_16 b12, w64_c, okW_line, hm, hx, Bool.and_self]
  simp only [stepN, Int.reduceEq, ↓reduceIte, lookN, liveV, nextV, tE, tG, Int.reduceLE, and_self, and_true, and_false, or_self, or_true, or_false, true_or, false_or, decide_true, decide_false]
  cases h0 : (mLoadV m (adr m.c 3 (x.T % 65536 - 1)) % 16 == 1) <;> cases h1 : (mLoadV m (adr m.c 3 (x.T % 65536 - 1)) / 1048576 == x.T / 65536) <;> simp only [h0, h1, br_t, br_f, cond_true, cond_false, Bool.not_true, Bool.not_false, Bool.true_and, Bool.false_and, Bool.and_true, Bool.and_false, decide_true, decide_false] <;> first | rfl | (rw [eq_of_beq h0]; done) | (rw [eq_of_beq h0]; rfl)
theorem vNP_60 {m : Mm} {x : Wk} {t tw : TypeId} (hm : okM m = true) (hx : okW x = true) : sxFn (E1029 (Ω := SV × SH)) (An A1029 2) C1029 [.ptr 0 0, .agg (I 60 :: encT x)] (objs LM t tw m) (KT 2) = some (.tup [.agg (encW (stepN m { x with line := 60 }).x), I (stepN m { x with line := 60 }).way, B (stepN m { x with line := 60 }).ok], objs LM t tw (stepN m { x with line := 60 }).m) := by
  obtain ⟨b1, b2, b3, b4, b5, b6, b7, b8, b9, b10, b11, b12⟩ := okW_all hx
  have hu := okM_u hm
  rw [nNP_60]
  try simp only [clrV, clrL, clrS, clrB, clrC, clrA, clrAV, b1, b2, b3, b4, b5, b6, b7, b8, b9, b10, b11, b12, uB_load hu, tmod_load hu, tdiv_load hu (show (0 : Int) < 2 by decide), cfg_a1 hm, low32, w64_low, vers b9, uB_vers b9, nn (uB_load hu), nn b3, nn b8, nn b9, nn b11, nn b12, ge_iff_le, Bool.and_true, Bool.true_and, br_t, vers16 b12, uB_vers16 b12, uB_16 b12, w64_c, okW_line, hm, hx, Bool.and_self]
  simp only [stepN, Int.reduceEq, ↓reduceIte, lookN, liveV, nextV, tE, tG, Int.reduceLE, and_self, and_true, and_false, or_self, or_true, or_false, true_or, false_or, decide_true, decide_false]
  cases h0 : (mLoadV m (adr m.c 3 (x.T % 65536 - 1)) % 16 == 1) <;> cases h1 : (mLoadV m (adr m.c 3 (x.T % 65536 - 1)) / 1048576 == x.T / 65536) <;> simp only [h0, h1, br_t, br_f, cond_true, cond_false, Bool.not_true, Bool.not_false, Bool.true_and, Bool.false_and, Bool.and_true, Bool.and_false, decide_true, decide_false] <;> first | rfl | (rw [eq_of_beq h0]; done) | (rw [eq_of_beq h0]; rfl)
theorem vNP {m : Mm} {x : Wk} {t tw : TypeId} (hm : okM m = true) (hx : okW x = true) : sxFn (E1029 (Ω := SV × SH)) (An A1029 2) C1029 [.ptr 0 0, .agg (encW x)] (objs LM t tw m) (KT 2) = some (.tup [.agg (encW (stepN m x).x), I (stepN m x).way, B (stepN m x).ok], objs LM t tw (stepN m x).m) := by
  have no : ∀ q : Int, x.line = q → ONP q → (x.line ≠ 20 ∧ x.line ≠ 21 ∧ x.line ≠ 22 ∧ x.line ≠ 23 ∧ x.line ≠ 24 ∧ x.line ≠ 25 ∧ x.line ≠ 40 ∧ x.line ≠ 41 ∧ x.line ≠ 42 ∧ x.line ≠ 43 ∧ x.line ≠ 44 ∧ x.line ≠ 45 ∧ x.line ≠ 46 ∧ x.line ≠ 60) → sxFn (E1029 (Ω := SV × SH)) (An A1029 2) C1029 [.ptr 0 0, .agg (encW x)] (objs LM t tw m) (KT 2) = some (.tup [.agg (encW (stepN m x).x), I (stepN m x).way, B (stepN m x).ok], objs LM t tw (stepN m x).m) := fun q hq ho hn => by
    rw [mN_no hn]
    have := ho m x t tw
    rw [(okW_all hx).2.2.2.2.2.2.2.2.2.2.2, br_t] at this
    rw [← hq] at this
    exact this
  have ye : ∀ q : Int, x.line = q → (sxFn (E1029 (Ω := SV × SH)) (An A1029 2) C1029 [.ptr 0 0, .agg (I q :: encT x)] (objs LM t tw m) (KT 2) = some (.tup [.agg (encW (stepN m { x with line := q }).x), I (stepN m { x with line := q }).way, B (stepN m { x with line := q }).ok], objs LM t tw (stepN m { x with line := q }).m)) → sxFn (E1029 (Ω := SV × SH)) (An A1029 2) C1029 [.ptr 0 0, .agg (encW x)] (objs LM t tw m) (KT 2) = some (.tup [.agg (encW (stepN m x).x), I (stepN m x).way, B (stepN m x).ok], objs LM t tw (stepN m x).m) := fun q hq h => by
    have e1 : { x with line := q } = x := by rw [← hq]
    have e : I q :: encT x = encW x := by simp only [encW]; rw [hq]
    rw [e1, e] at h
    exact h
  rcases hl : x.line with n | n
  · by_cases hn : 61 ≤ n
    · obtain ⟨k, rfl⟩ : ∃ k, n = k + 61 := ⟨n - 61, by omega⟩
      exact no _ hl (oNP_top k) (by rw [hl]; simp only [Int.ofNat_eq_natCast, ne_eq]; omega)
    · have : n < 61 := by omega
      match n, hl, this with
      | 0, hl, _ => exact no _ hl oNP_0 (by rw [hl]; simp only [Int.ofNat_eq_natCast, ne_eq]; omega)
      | 1, hl, _ => exact no _ hl oNP_1 (by rw [hl]; simp only [Int.ofNat_eq_natCast, ne_eq]; omega)
      | 2, hl, _ => exact no _ hl oNP_2 (by rw [hl]; simp only [Int.ofNat_eq_natCast, ne_eq]; omega)
      | 3, hl, _ => exact no _ hl oNP_3 (by rw [hl]; simp only [Int.ofNat_eq_natCast, ne_eq]; omega)
      | 4, hl, _ => exact no _ hl oNP_4 (by rw [hl]; simp only [Int.ofNat_eq_natCast, ne_eq]; omega)
      | 5, hl, _ => exact no _ hl oNP_5 (by rw [hl]; simp only [Int.ofNat_eq_natCast, ne_eq]; omega)
      | 6, hl, _ => exact no _ hl oNP_6 (by rw [hl]; simp only [Int.ofNat_eq_natCast, ne_eq]; omega)
      | 7, hl, _ => exact no _ hl oNP_7 (by rw [hl]; simp only [Int.ofNat_eq_natCast, ne_eq]; omega)
      | 8, hl, _ => exact no _ hl oNP_8 (by rw [hl]; simp only [Int.ofNat_eq_natCast, ne_eq]; omega)
      | 9, hl, _ => exact no _ hl oNP_9 (by rw [hl]; simp only [Int.ofNat_eq_natCast, ne_eq]; omega)
      | 10, hl, _ => exact no _ hl oNP_10 (by rw [hl]; simp only [Int.ofNat_eq_natCast, ne_eq]; omega)
      | 11, hl, _ => exact no _ hl oNP_11 (by rw [hl]; simp only [Int.ofNat_eq_natCast, ne_eq]; omega)
      | 12, hl, _ => exact no _ hl oNP_12 (by rw [hl]; simp only [Int.ofNat_eq_natCast, ne_eq]; omega)
      | 13, hl, _ => exact no _ hl oNP_13 (by rw [hl]; simp only [Int.ofNat_eq_natCast, ne_eq]; omega)
      | 14, hl, _ => exact no _ hl oNP_14 (by rw [hl]; simp only [Int.ofNat_eq_natCast, ne_eq]; omega)
      | 15, hl, _ => exact no _ hl oNP_15 (by rw [hl]; simp only [Int.ofNat_eq_natCast, ne_eq]; omega)
      | 16, hl, _ => exact no _ hl oNP_16 (by rw [hl]; simp only [Int.ofNat_eq_natCast, ne_eq]; omega)
      | 17, hl, _ => exact no _ hl oNP_17 (by rw [hl]; simp only [Int.ofNat_eq_natCast, ne_eq]; omega)
      | 18, hl, _ => exact no _ hl oNP_18 (by rw [hl]; simp only [Int.ofNat_eq_natCast, ne_eq]; omega)
      | 19, hl, _ => exact no _ hl oNP_19 (by rw [hl]; simp only [Int.ofNat_eq_natCast, ne_eq]; omega)
      | 20, hl, _ => exact ye 20 hl (vNP_20 hm hx)
      | 21, hl, _ => exact ye 21 hl (vNP_21 hm hx)
      | 22, hl, _ => exact ye 22 hl (vNP_22 hm hx)
      | 23, hl, _ => exact ye 23 hl (vNP_23 hm hx)
      | 24, hl, _ => exact ye 24 hl (vNP_24 hm hx)
      | 25, hl, _ => exact ye 25 hl (vNP_25 hm hx)
      | 26, hl, _ => exact no _ hl oNP_26 (by rw [hl]; simp only [Int.ofNat_eq_natCast, ne_eq]; omega)
      | 27, hl, _ => exact no _ hl oNP_27 (by rw [hl]; simp only [Int.ofNat_eq_natCast, ne_eq]; omega)
      | 28, hl, _ => exact no _ hl oNP_28 (by rw [hl]; simp only [Int.ofNat_eq_natCast, ne_eq]; omega)
      | 29, hl, _ => exact no _ hl oNP_29 (by rw [hl]; simp only [Int.ofNat_eq_natCast, ne_eq]; omega)
      | 30, hl, _ => exact no _ hl oNP_30 (by rw [hl]; simp only [Int.ofNat_eq_natCast, ne_eq]; omega)
      | 31, hl, _ => exact no _ hl oNP_31 (by rw [hl]; simp only [Int.ofNat_eq_natCast, ne_eq]; omega)
      | 32, hl, _ => exact no _ hl oNP_32 (by rw [hl]; simp only [Int.ofNat_eq_natCast, ne_eq]; omega)
      | 33, hl, _ => exact no _ hl oNP_33 (by rw [hl]; simp only [Int.ofNat_eq_natCast, ne_eq]; omega)
      | 34, hl, _ => exact no _ hl oNP_34 (by rw [hl]; simp only [Int.ofNat_eq_natCast, ne_eq]; omega)
      | 35, hl, _ => exact no _ hl oNP_35 (by rw [hl]; simp only [Int.ofNat_eq_natCast, ne_eq]; omega)
      | 36, hl, _ => exact no _ hl oNP_36 (by rw [hl]; simp only [Int.ofNat_eq_natCast, ne_eq]; omega)
      | 37, hl, _ => exact no _ hl oNP_37 (by rw [hl]; simp only [Int.ofNat_eq_natCast, ne_eq]; omega)
      | 38, hl, _ => exact no _ hl oNP_38 (by rw [hl]; simp only [Int.ofNat_eq_natCast, ne_eq]; omega)
      | 39, hl, _ => exact no _ hl oNP_39 (by rw [hl]; simp only [Int.ofNat_eq_natCast, ne_eq]; omega)
      | 40, hl, _ => exact ye 40 hl (vNP_40 hm hx)
      | 41, hl, _ => exact ye 41 hl (vNP_41 hm hx)
      | 42, hl, _ => exact ye 42 hl (vNP_42 hm hx)
      | 43, hl, _ => exact ye 43 hl (vNP_43 hm hx)
      | 44, hl, _ => exact ye 44 hl (vNP_44 hm hx)
      | 45, hl, _ => exact ye 45 hl (vNP_45 hm hx)
      | 46, hl, _ => exact ye 46 hl (vNP_46 hm hx)
      | 47, hl, _ => exact no _ hl oNP_47 (by rw [hl]; simp only [Int.ofNat_eq_natCast, ne_eq]; omega)
      | 48, hl, _ => exact no _ hl oNP_48 (by rw [hl]; simp only [Int.ofNat_eq_natCast, ne_eq]; omega)
      | 49, hl, _ => exact no _ hl oNP_49 (by rw [hl]; simp only [Int.ofNat_eq_natCast, ne_eq]; omega)
      | 50, hl, _ => exact no _ hl oNP_50 (by rw [hl]; simp only [Int.ofNat_eq_natCast, ne_eq]; omega)
      | 51, hl, _ => exact no _ hl oNP_51 (by rw [hl]; simp only [Int.ofNat_eq_natCast, ne_eq]; omega)
      | 52, hl, _ => exact no _ hl oNP_52 (by rw [hl]; simp only [Int.ofNat_eq_natCast, ne_eq]; omega)
      | 53, hl, _ => exact no _ hl oNP_53 (by rw [hl]; simp only [Int.ofNat_eq_natCast, ne_eq]; omega)
      | 54, hl, _ => exact no _ hl oNP_54 (by rw [hl]; simp only [Int.ofNat_eq_natCast, ne_eq]; omega)
      | 55, hl, _ => exact no _ hl oNP_55 (by rw [hl]; simp only [Int.ofNat_eq_natCast, ne_eq]; omega)
      | 56, hl, _ => exact no _ hl oNP_56 (by rw [hl]; simp only [Int.ofNat_eq_natCast, ne_eq]; omega)
      | 57, hl, _ => exact no _ hl oNP_57 (by rw [hl]; simp only [Int.ofNat_eq_natCast, ne_eq]; omega)
      | 58, hl, _ => exact no _ hl oNP_58 (by rw [hl]; simp only [Int.ofNat_eq_natCast, ne_eq]; omega)
      | 59, hl, _ => exact no _ hl oNP_59 (by rw [hl]; simp only [Int.ofNat_eq_natCast, ne_eq]; omega)
      | 60, hl, _ => exact ye 60 hl (vNP_60 hm hx)
      | n + 61, _, h => exact absurd h (by omega)
  · exact no _ hl (oNP_neg n) (by rw [hl]; simp only [ne_eq]; omega)
theorem vNN_20 {m : Mm} {x : Wk} {t tw : TypeId} (hm : okM m = true) (hx : okW x = true) : sxFn (E1030 (Ω := SV × SH)) (An A1030 2) C1030 [.ptr 0 0, .agg (I 20 :: encT x)] (objs LN t tw m) (KT 2) = some (.tup [.agg (encW (stepN m { x with line := 20 }).x), I (stepN m { x with line := 20 }).way, B (stepN m { x with line := 20 }).ok], objs LN t tw (stepN m { x with line := 20 }).m) := by
  obtain ⟨b1, b2, b3, b4, b5, b6, b7, b8, b9, b10, b11, b12⟩ := okW_all hx
  have hu := okM_u hm
  rw [nNN_20]
  try simp only [clrV, clrL, clrS, clrB, clrC, clrA, clrAV, b1, b2, b3, b4, b5, b6, b7, b8, b9, b10, b11, b12, uB_load hu, tmod_load hu, tdiv_load hu (show (0 : Int) < 2 by decide), cfg_a1 hm, low32, w64_low, vers b9, uB_vers b9, nn (uB_load hu), nn b3, nn b8, nn b9, nn b11, nn b12, ge_iff_le, Bool.and_true, Bool.true_and, br_t, vers16 b12, uB_vers16 b12, uB_16 b12, w64_c, okW_line, hm, hx, Bool.and_self]
  simp only [stepN, Int.reduceEq, ↓reduceIte, lookN, liveV, nextV, tE, tG, Int.reduceLE, and_self, and_true, and_false, or_self, or_true, or_false, true_or, false_or, decide_true, decide_false]
  cases h0 : ((stepS m { x with line := 20 }).way == 1) <;> simp only [h0, br_t, br_f, cond_true, cond_false, Bool.not_true, Bool.not_false, Bool.true_and, Bool.false_and, Bool.and_true, Bool.and_false, decide_true, decide_false] <;> first | rfl | (rw [eq_of_beq h0]; done) | (rw [eq_of_beq h0]; rfl)
theorem vNN_21 {m : Mm} {x : Wk} {t tw : TypeId} (hm : okM m = true) (hx : okW x = true) : sxFn (E1030 (Ω := SV × SH)) (An A1030 2) C1030 [.ptr 0 0, .agg (I 21 :: encT x)] (objs LN t tw m) (KT 2) = some (.tup [.agg (encW (stepN m { x with line := 21 }).x), I (stepN m { x with line := 21 }).way, B (stepN m { x with line := 21 }).ok], objs LN t tw (stepN m { x with line := 21 }).m) := by
  obtain ⟨b1, b2, b3, b4, b5, b6, b7, b8, b9, b10, b11, b12⟩ := okW_all hx
  have hu := okM_u hm
  rw [nNN_21]
  try simp only [clrV, clrL, clrS, clrB, clrC, clrA, clrAV, b1, b2, b3, b4, b5, b6, b7, b8, b9, b10, b11, b12, uB_load hu, tmod_load hu, tdiv_load hu (show (0 : Int) < 2 by decide), cfg_a1 hm, low32, w64_low, vers b9, uB_vers b9, nn (uB_load hu), nn b3, nn b8, nn b9, nn b11, nn b12, ge_iff_le, Bool.and_true, Bool.true_and, br_t, vers16 b12, uB_vers16 b12, uB_16 b12, w64_c, okW_line, hm, hx, Bool.and_self]
  simp only [stepN, Int.reduceEq, ↓reduceIte, lookN, liveV, nextV, tE, tG, Int.reduceLE, and_self, and_true, and_false, or_self, or_true, or_false, true_or, false_or, decide_true, decide_false]
  all_goals rfl
theorem vNN_22 {m : Mm} {x : Wk} {t tw : TypeId} (hm : okM m = true) (hx : okW x = true) : sxFn (E1030 (Ω := SV × SH)) (An A1030 2) C1030 [.ptr 0 0, .agg (I 22 :: encT x)] (objs LN t tw m) (KT 2) = some (.tup [.agg (encW (stepN m { x with line := 22 }).x), I (stepN m { x with line := 22 }).way, B (stepN m { x with line := 22 }).ok], objs LN t tw (stepN m { x with line := 22 }).m) := by
  obtain ⟨b1, b2, b3, b4, b5, b6, b7, b8, b9, b10, b11, b12⟩ := okW_all hx
  have hu := okM_u hm
  rw [nNN_22]
  try simp only [clrV, clrL, clrS, clrB, clrC, clrA, clrAV, b1, b2, b3, b4, b5, b6, b7, b8, b9, b10, b11, b12, uB_load hu, tmod_load hu, tdiv_load hu (show (0 : Int) < 2 by decide), cfg_a1 hm, low32, w64_low, vers b9, uB_vers b9, nn (uB_load hu), nn b3, nn b8, nn b9, nn b11, nn b12, ge_iff_le, Bool.and_true, Bool.true_and, br_t, vers16 b12, uB_vers16 b12, uB_16 b12, w64_c, okW_line, hm, hx, Bool.and_self]
  simp only [stepN, Int.reduceEq, ↓reduceIte, lookN, liveV, nextV, tE, tG, Int.reduceLE, and_self, and_true, and_false, or_self, or_true, or_false, true_or, false_or, decide_true, decide_false]
  cases h0 : ((stepS m { x with line := 22 }).way == 1) <;> simp only [h0, br_t, br_f, cond_true, cond_false, Bool.not_true, Bool.not_false, Bool.true_and, Bool.false_and, Bool.and_true, Bool.and_false, decide_true, decide_false] <;> first | rfl | (rw [eq_of_beq h0]; done) | (rw [eq_of_beq h0]; rfl)
theorem vNN_23 {m : Mm} {x : Wk} {t tw : TypeId} (hm : okM m = true) (hx : okW x = true) : sxFn (E1030 (Ω := SV × SH)) (An A1030 2) C1030 [.ptr 0 0, .agg (I 23 :: encT x)] (objs LN t tw m) (KT 2) = some (.tup [.agg (encW (stepN m { x with line := 23 }).x), I (stepN m { x with line := 23 }).way, B (stepN m { x with line := 23 }).ok], objs LN t tw (stepN m { x with line := 23 }).m) := by
  obtain ⟨b1, b2, b3, b4, b5, b6, b7, b8, b9, b10, b11, b12⟩ := okW_all hx
  have hu := okM_u hm
  rw [nNN_23]
  try simp only [clrV, clrL, clrS, clrB, clrC, clrA, clrAV, b1, b2, b3, b4, b5, b6, b7, b8, b9, b10, b11, b12, uB_load hu, tmod_load hu, tdiv_load hu (show (0 : Int) < 2 by decide), cfg_a1 hm, low32, w64_low, vers b9, uB_vers b9, nn (uB_load hu), nn b3, nn b8, nn b9, nn b11, nn b12, ge_iff_le, Bool.and_true, Bool.true_and, br_t, vers16 b12, uB_vers16 b12, uB_16 b12, w64_c, okW_line, hm, hx, Bool.and_self]
  simp only [stepN, Int.reduceEq, ↓reduceIte, lookN, liveV, nextV, tE, tG, Int.reduceLE, and_self, and_true, and_false, or_self, or_true, or_false, true_or, false_or, decide_true, decide_false]
  all_goals rfl
theorem vNN_24 {m : Mm} {x : Wk} {t tw : TypeId} (hm : okM m = true) (hx : okW x = true) : sxFn (E1030 (Ω := SV × SH)) (An A1030 2) C1030 [.ptr 0 0, .agg (I 24 :: encT x)] (objs LN t tw m) (KT 2) = some (.tup [.agg (encW (stepN m { x with line := 24 }).x), I (stepN m { x with line := 24 }).way, B (stepN m { x with line := 24 }).ok], objs LN t tw (stepN m { x with line := 24 }).m) := by
  obtain ⟨b1, b2, b3, b4, b5, b6, b7, b8, b9, b10, b11, b12⟩ := okW_all hx
  have hu := okM_u hm
  rw [nNN_24]
  try simp only [clrV, clrL, clrS, clrB, clrC, clrA, clrAV, b1, b2, b3, b4, b5, b6, b7, b8, b9, b10, b11, b12, uB_load hu, tmod_load hu, tdiv_load hu (show (0 : Int) < 2 by decide), cfg_a1 hm, low32, w64_low, vers b9, uB_vers b9, nn (uB_load hu), nn b3, nn b8, nn b9, nn b11, nn b12, ge_iff_le, Bool.and_true, Bool.true_and, br_t, vers16 b12, uB_vers16 b12, uB_16 b12, w64_c, okW_line, hm, hx, Bool.and_self]
  simp only [stepN, Int.reduceEq, ↓reduceIte, lookN, liveV, nextV, tE, tG, Int.reduceLE, and_self, and_true, and_false, or_self, or_true, or_false, true_or, false_or, decide_true, decide_false]
  all_goals rfl
theorem vNN_25 {m : Mm} {x : Wk} {t tw : TypeId} (hm : okM m = true) (hx : okW x = true) : sxFn (E1030 (Ω := SV × SH)) (An A1030 2) C1030 [.ptr 0 0, .agg (I 25 :: encT x)] (objs LN t tw m) (KT 2) = some (.tup [.agg (encW (stepN m { x with line := 25 }).x), I (stepN m { x with line := 25 }).way, B (stepN m { x with line := 25 }).ok], objs LN t tw (stepN m { x with line := 25 }).m) := by
  obtain ⟨b1, b2, b3, b4, b5, b6, b7, b8, b9, b10, b11, b12⟩ := okW_all hx
  have hu := okM_u hm
  rw [nNN_25]
  try simp only [clrV, clrL, clrS, clrB, clrC, clrA, clrAV, b1, b2, b3, b4, b5, b6, b7, b8, b9, b10, b11, b12, uB_load hu, tmod_load hu, tdiv_load hu (show (0 : Int) < 2 by decide), cfg_a1 hm, low32, w64_low, vers b9, uB_vers b9, nn (uB_load hu), nn b3, nn b8, nn b9, nn b11, nn b12, ge_iff_le, Bool.and_true, Bool.true_and, br_t, vers16 b12, uB_vers16 b12, uB_16 b12, w64_c, okW_line, hm, hx, Bool.and_self]
  simp only [stepN, Int.reduceEq, ↓reduceIte, lookN, liveV, nextV, tE, tG, Int.reduceLE, and_self, and_true, and_false, or_self, or_true, or_false, true_or, false_or, decide_true, decide_false]
  cases h0 : ((stepS m { x with line := 25 }).way == 1) <;> simp only [h0, br_t, br_f, cond_true, cond_false, Bool.not_true, Bool.not_false, Bool.true_and, Bool.false_and, Bool.and_true, Bool.and_false, decide_true, decide_false] <;> first | rfl | (rw [eq_of_beq h0]; done) | (rw [eq_of_beq h0]; rfl)
theorem vNN_40 {m : Mm} {x : Wk} {t tw : TypeId} (hm : okM m = true) (hx : okW x = true) : sxFn (E1030 (Ω := SV × SH)) (An A1030 2) C1030 [.ptr 0 0, .agg (I 40 :: encT x)] (objs LN t tw m) (KT 2) = some (.tup [.agg (encW (stepN m { x with line := 40 }).x), I (stepN m { x with line := 40 }).way, B (stepN m { x with line := 40 }).ok], objs LN t tw (stepN m { x with line := 40 }).m) := by
  obtain ⟨b1, b2, b3, b4, b5, b6, b7, b8, b9, b10, b11, b12⟩ := okW_all hx
  have hu := okM_u hm
  rw [nNN_40]
  try simp only [clrV, clrL, clrS, clrB, clrC, clrA, clrAV, b1, b2, b3, b4, b5, b6, b7, b8, b9, b10, b11, b12, uB_load hu, tmod_load hu, tdiv_load hu (show (0 : Int) < 2 by decide), cfg_a1 hm, low32, w64_low, vers b9, uB_vers b9, nn (uB_load hu), nn b3, nn b8, nn b9, nn b11, nn b12, ge_iff_le, Bool.and_true, Bool.true_and, br_t, vers16 b12, uB_vers16 b12, uB_16 b12, w64_c, okW_line, hm, hx, Bool.and_self]
  simp only [stepN, Int.reduceEq, ↓reduceIte, lookN, liveV, nextV, tE, tG, Int.reduceLE, and_self, and_true, and_false, or_self, or_true, or_false, true_or, false_or, decide_true, decide_false]
  all_goals rfl
theorem vNN_41 {m : Mm} {x : Wk} {t tw : TypeId} (hm : okM m = true) (hx : okW x = true) : sxFn (E1030 (Ω := SV × SH)) (An A1030 2) C1030 [.ptr 0 0, .agg (I 41 :: encT x)] (objs LN t tw m) (KT 2) = some (.tup [.agg (encW (stepN m { x with line := 41 }).x), I (stepN m { x with line := 41 }).way, B (stepN m { x with line := 41 }).ok], objs LN t tw (stepN m { x with line := 41 }).m) := by
  obtain ⟨b1, b2, b3, b4, b5, b6, b7, b8, b9, b10, b11, b12⟩ := okW_all hx
  have hu := okM_u hm
  rw [nNN_41]
  try simp only [clrV, clrL, clrS, clrB, clrC, clrA, clrAV, b1, b2, b3, b4, b5, b6, b7, b8, b9, b10, b11, b12, uB_load hu, tmod_load hu, tdiv_load hu (show (0 : Int) < 2 by decide), cfg_a1 hm, low32, w64_low, vers b9, uB_vers b9, nn (uB_load hu), nn b3, nn b8, nn b9, nn b11, nn b12, ge_iff_le, Bool.and_true, Bool.true_and, br_t, vers16 b12, uB_vers16 b12, uB_16 b12, w64_c, okW_line, hm, hx, Bool.and_self]
  simp only [stepN, Int.reduceEq, ↓reduceIte, lookN, liveV, nextV, tE, tG, Int.reduceLE, and_self, and_true, and_false, or_self, or_true, or_false, true_or, false_or, decide_true, decide_false]
  all_goals rfl
theorem vNN_42 {m : Mm} {x : Wk} {t tw : TypeId} (hm : okM m = true) (hx : okW x = true) : sxFn (E1030 (Ω := SV × SH)) (An A1030 2) C1030 [.ptr 0 0, .agg (I 42 :: encT x)] (objs LN t tw m) (KT 2) = some (.tup [.agg (encW (stepN m { x with line := 42 }).x), I (stepN m { x with line := 42 }).way, B (stepN m { x with line := 42 }).ok], objs LN t tw (stepN m { x with line := 42 }).m) := by
  obtain ⟨b1, b2, b3, b4, b5, b6, b7, b8, b9, b10, b11, b12⟩ := okW_all hx
  have hu := okM_u hm
  rw [nNN_42]
  try simp only [clrV, clrL, clrS, clrB, clrC, clrA, clrAV, b1, b2, b3, b4, b5, b6, b7, b8, b9, b10, b11, b12, uB_load hu, tmod_load hu, tdiv_load hu (show (0 : Int) < 2 by decide), cfg_a1 hm, low32, w64_low, vers b9, uB_vers b9, nn (uB_load hu), nn b3, nn b8, nn b9, nn b11, nn b12, ge_iff_le, Bool.and_true, Bool.true_and, br_t, vers16 b12, uB_vers16 b12, uB_16 b12, w64_c, okW_line, hm, hx, Bool.and_self]
  simp only [stepN, Int.reduceEq, ↓reduceIte, lookN, liveV, nextV, tE, tG, Int.reduceLE, and_self, and_true, and_false, or_self, or_true, or_false, true_or, false_or, decide_true, decide_false]
  cases h0 : (mLoadV m (adr m.c 3 (x.T % 65536 - 1)) % 16 == 1) <;> cases h1 : (mLoadV m (adr m.c 3 (x.T % 65536 - 1)) / 1048576 == x.T / 65536) <;> simp only [h0, h1, br_t, br_f, cond_true, cond_false, Bool.not_true, Bool.not_false, Bool.true_and, Bool.false_and, Bool.and_true, Bool.and_false, decide_true, decide_false] <;> first | rfl | (rw [eq_of_beq h0]; done) | (rw [eq_of_beq h0]; rfl)
theorem vNN_43 {m : Mm} {x : Wk} {t tw : TypeId} (hm : okM m = true) (hx : okW x = true) : sxFn (E1030 (Ω := SV × SH)) (An A1030 2) C1030 [.ptr 0 0, .agg (I 43 :: encT x)] (objs LN t tw m) (KT 2) = some (.tup [.agg (encW (stepN m { x with line := 43 }).x), I (stepN m { x with line := 43 }).way, B (stepN m { x with line := 43 }).ok], objs LN t tw (stepN m { x with line := 43 }).m) := by
  obtain ⟨b1, b2, b3, b4, b5, b6, b7, b8, b9, b10, b11, b12⟩ := okW_all hx
  have hu := okM_u hm
  rw [nNN_43]
  try simp only [clrV, clrL, clrS, clrB, clrC, clrA, clrAV, b1, b2, b3, b4, b5, b6, b7, b8, b9, b10, b11, b12, uB_load hu, tmod_load hu, tdiv_load hu (show (0 : Int) < 2 by decide), cfg_a1 hm, low32, w64_low, vers b9, uB_vers b9, nn (uB_load hu), nn b3, nn b8, nn b9, nn b11, nn b12, ge_iff_le, Bool.and_true, Bool.true_and, br_t, vers16 b12, uB_vers16 b12, uB_16 b12, w64_c, okW_line, hm, hx, Bool.and_self]
  simp only [stepN, Int.reduceEq, ↓reduceIte, lookN, liveV, nextV, tE, tG, Int.reduceLE, and_self, and_true, and_false, or_self, or_true, or_false, true_or, false_or, decide_true, decide_false]
  cases h0 : (decide (m.c.l ≤ x.T / 65536)) <;> cases h1 : (mCasB m (adr m.c 3 (x.T % 65536 - 1)) x.V) <;> simp only [h0, h1, br_t, br_f, cond_true, cond_false, Bool.not_true, Bool.not_false, Bool.true_and, Bool.false_and, Bool.and_true, Bool.and_false, decide_true, decide_false] <;> first | rfl | (rw [eq_of_beq h0]; done) | (rw [eq_of_beq h0]; rfl)
theorem vNN_44 {m : Mm} {x : Wk} {t tw : TypeId} (hm : okM m = true) (hx : okW x = true) : sxFn (E1030 (Ω := SV × SH)) (An A1030 2) C1030 [.ptr 0 0, .agg (I 44 :: encT x)] (objs LN t tw m) (KT 2) = some (.tup [.agg (encW (stepN m { x with line := 44 }).x), I (stepN m { x with line := 44 }).way, B (stepN m { x with line := 44 }).ok], objs LN t tw (stepN m { x with line := 44 }).m) := by
  obtain ⟨b1, b2, b3, b4, b5, b6, b7, b8, b9, b10, b11, b12⟩ := okW_all hx
  have hu := okM_u hm
  rw [nNN_44]
  try simp only [clrV, clrL, clrS, clrB, clrC, clrA, clrAV, b1, b2, b3, b4, b5, b6, b7, b8, b9, b10, b11, b12, uB_load hu, tmod_load hu, tdiv_load hu (show (0 : Int) < 2 by decide), cfg_a1 hm, low32, w64_low, vers b9, uB_vers b9, nn (uB_load hu), nn b3, nn b8, nn b9, nn b11, nn b12, ge_iff_le, Bool.and_true, Bool.true_and, br_t, vers16 b12, uB_vers16 b12, uB_16 b12, w64_c, okW_line, hm, hx, Bool.and_self]
  simp only [stepN, Int.reduceEq, ↓reduceIte, lookN, liveV, nextV, tE, tG, Int.reduceLE, and_self, and_true, and_false, or_self, or_true, or_false, true_or, false_or, decide_true, decide_false]
  cases h0 : (mLoadV m (adr m.c 3 (x.T % 65536 - 1)) % 16 == 1) <;> cases h1 : (mLoadV m (adr m.c 3 (x.T % 65536 - 1)) / 1048576 == x.T / 65536) <;> simp only [h0, h1, br_t, br_f, cond_true, cond_false, Bool.not_true, Bool.not_false, Bool.true_and, Bool.false_and, Bool.and_true, Bool.and_false, decide_true, decide_false] <;> first | rfl | (rw [eq_of_beq h0]; done) | (rw [eq_of_beq h0]; rfl)
theorem vNN_45 {m : Mm} {x : Wk} {t tw : TypeId} (hm : okM m = true) (hx : okW x = true) : sxFn (E1030 (Ω := SV × SH)) (An A1030 2) C1030 [.ptr 0 0, .agg (I 45 :: encT x)] (objs LN t tw m) (KT 2) = some (.tup [.agg (encW (stepN m { x with line := 45 }).x), I (stepN m { x with line := 45 }).way, B (stepN m { x with line := 45 }).ok], objs LN t tw (stepN m { x with line := 45 }).m) := by
  obtain ⟨b1, b2, b3, b4, b5, b6, b7, b8, b9, b10, b11, b12⟩ := okW_all hx
  have hu := okM_u hm
  rw [nNN_45]
  try simp only [clrV, clrL, clrS, clrB, clrC, clrA, clrAV, b1, b2, b3, b4, b5, b6, b7, b8, b9, b10, b11, b12, uB_load hu, tmod_load hu, tdiv_load hu (show (0 : Int) < 2 by decide), cfg_a1 hm, low32, w64_low, vers b9, uB_vers b9, nn (uB_load hu), nn b3, nn b8, nn b9, nn b11, nn b12, ge_iff_le, Bool.and_true, Bool.true_and, br_t, vers16 b12, uB_vers16 b12, uB_16 b12, w64_c, okW_line, hm, hx, Bool.and_self]
  simp only [stepN, Int.reduceEq, ↓reduceIte, lookN, liveV, nextV, tE, tG, Int.reduceLE, and_self, and_true, and_false, or_self, or_true, or_false, true_or, false_or, decide_true, decide_false]
  cases h0 : (mCasB m (adr m.c 3 (x.T % 65536 - 1)) x.V) <;> simp only [h0, br_t, br_f, cond_true, cond_false, Bool.not_true, Bool.not_false, Bool.true_and, Bool.false_and, Bool.and_true, Bool.and_false, decide_true, decide_false] <;> first | rfl | (rw [eq_of_beq h0]; done) | (rw [eq_of_beq h0]; rfl)
theorem vNN_46 {m : Mm} {x : Wk} {t tw : TypeId} (hm : okM m = true) (hx : okW x = true) : sxFn (E1030 (Ω := SV × SH)) (An A1030 2) C1030 [.ptr 0 0, .agg (I 46 :: encT x)] (objs LN t tw m) (KT 2) = some (.tup [.agg (encW (stepN m { x with line := 46 }).x), I (stepN m { x with line := 46 }).way, B (stepN m { x with line := 46 }).ok], objs LN t tw (stepN m { x with line := 46 }).m) := by
  obtain ⟨b1, b2, b3, b4, b5, b6, b7, b8, b9, b10, b11, b12⟩ := okW_all hx
  have hu := okM_u hm
  rw [nNN_46]
  try simp only [clrV, clrL, clrS, clrB, clrC, clrA, clrAV, b1, b2, b3, b4, b5, b6, b7, b8, b9, b10, b11, b12, uB_load hu, tmod_load hu, tdiv_load hu (show (0 : Int) < 2 by decide), cfg_a1 hm, low32, w64_low, vers b9, uB_vers b9, nn (uB_load hu), nn b3, nn b8, nn b9, nn b11, nn b12, ge_iff_le, Bool.and_true, Bool.true_and, br_t, vers16 b12, uB_vers16 b12, uB_16 b12, w64_c, okW_line, hm, hx, Bool.and_self]
  simp only [stepN, Int.reduceEq, ↓reduceIte, lookN, liveV, nextV, tE, tG, Int.reduceLE, and_self, and_true, and_false, or_self, or_true, or_false, true_or, false_or, decide_true, decide_false]
  cases h0 : (mLoadV m (adr m.c 3 (x.T % 65536 - 1)) % 16 == 1) <;> cases h1 : (mLoadV m (adr m.c 3 (x.T % 65536 - 1)) / 1048576 == x.T / 65536) <;> simp only [h0, h1, br_t, br_f, cond_true, cond_false, Bool.not_true, Bool.not_false, Bool.true_and, Bool.false_and, Bool.and_true, Bool.and_false, decide_true, decide_false] <;> first | rfl | (rw [eq_of_beq h0]; done) | (rw [eq_of_beq h0]; rfl)
theorem vNN_60 {m : Mm} {x : Wk} {t tw : TypeId} (hm : okM m = true) (hx : okW x = true) : sxFn (E1030 (Ω := SV × SH)) (An A1030 2) C1030 [.ptr 0 0, .agg (I 60 :: encT x)] (objs LN t tw m) (KT 2) = some (.tup [.agg (encW (stepN m { x with line := 60 }).x), I (stepN m { x with line := 60 }).way, B (stepN m { x with line := 60 }).ok], objs LN t tw (stepN m { x with line := 60 }).m) := by
  obtain ⟨b1, b2, b3, b4, b5, b6, b7, b8, b9, b10, b11, b12⟩ := okW_all hx
  have hu := okM_u hm
  rw [nNN_60]
  try simp only [clrV, clrL, clrS, clrB, clrC, clrA, clrAV, b1, b2, b3, b4, b5, b6, b7, b8, b9, b10, b11, b12, uB_load hu, tmod_load hu, tdiv_load hu (show (0 : Int) < 2 by decide), cfg_a1 hm, low32, w64_low, vers b9, uB_vers b9, nn (uB_load hu), nn b3, nn b8, nn b9, nn b11, nn b12, ge_iff_le, Bool.and_true, Bool.true_and, br_t, vers16 b12, uB_vers16 b12, uB_16 b12, w64_c, okW_line, hm, hx, Bool.and_self]
  simp only [stepN, Int.reduceEq, ↓reduceIte, lookN, liveV, nextV, tE, tG, Int.reduceLE, and_self, and_true, and_false, or_self, or_true, or_false, true_or, false_or, decide_true, decide_false]
  cases h0 : (mLoadV m (adr m.c 3 (x.T % 65536 - 1)) % 16 == 1) <;> cases h1 : (mLoadV m (adr m.c 3 (x.T % 65536 - 1)) / 1048576 == x.T / 65536) <;> simp only [h0, h1, br_t, br_f, cond_true, cond_false, Bool.not_true, Bool.not_false, Bool.true_and, Bool.false_and, Bool.and_true, Bool.and_false, decide_true, decide_false] <;> first | rfl | (rw [eq_of_beq h0]; done) | (rw [eq_of_beq h0]; rfl)
theorem vNN {m : Mm} {x : Wk} {t tw : TypeId} (hm : okM m = true) (hx : okW x = true) : sxFn (E1030 (Ω := SV × SH)) (An A1030 2) C1030 [.ptr 0 0, .agg (encW x)] (objs LN t tw m) (KT 2) = some (.tup [.agg (encW (stepN m x).x), I (stepN m x).way, B (stepN m x).ok], objs LN t tw (stepN m x).m) := by
  have no : ∀ q : Int, x.line = q → ONN q → (x.line ≠ 20 ∧ x.line ≠ 21 ∧ x.line ≠ 22 ∧ x.line ≠ 23 ∧ x.line ≠ 24 ∧ x.line ≠ 25 ∧ x.line ≠ 40 ∧ x.line ≠ 41 ∧ x.line ≠ 42 ∧ x.line ≠ 43 ∧ x.line ≠ 44 ∧ x.line ≠ 45 ∧ x.line ≠ 46 ∧ x.line ≠ 60) → sxFn (E1030 (Ω := SV × SH)) (An A1030 2) C1030 [.ptr 0 0, .agg (encW x)] (objs LN t tw m) (KT 2) = some (.tup [.agg (encW (stepN m x).x), I (stepN m x).way, B (stepN m x).ok], objs LN t tw (stepN m x).m) := fun q hq ho hn => by
    rw [mN_no hn]
    have := ho m x t tw
    rw [← hq] at this
    exact this
  have ye : ∀ q : Int, x.line = q → (sxFn (E1030 (Ω := SV × SH)) (An A1030 2) C1030 [.ptr 0 0, .agg (I q :: encT x)] (objs LN t tw m) (KT 2) = some (.tup [.agg (encW (stepN m { x with line := q }).x), I (stepN m { x with line := q }).way, B (stepN m { x with line := q }).ok], objs LN t tw (stepN m { x with line := q }).m)) → sxFn (E1030 (Ω := SV × SH)) (An A1030 2) C1030 [.ptr 0 0, .agg (encW x)] (objs LN t tw m) (KT 2) = some (.tup [.agg (encW (stepN m x).x), I (stepN m x).way, B (stepN m x).ok], objs LN t tw (stepN m x).m) := fun q hq h => by
    have e1 : { x with line := q } = x := by rw [← hq]
    have e : I q :: encT x = encW x := by simp only [encW]; rw [hq]
    rw [e1, e] at h
    exact h
  rcases hl : x.line with n | n
  · by_cases hn : 61 ≤ n
    · obtain ⟨k, rfl⟩ : ∃ k, n = k + 61 := ⟨n - 61, by omega⟩
      exact no _ hl (oNN_top k) (by rw [hl]; simp only [Int.ofNat_eq_natCast, ne_eq]; omega)
    · have : n < 61 := by omega
      match n, hl, this with
      | 0, hl, _ => exact no _ hl oNN_0 (by rw [hl]; simp only [Int.ofNat_eq_natCast, ne_eq]; omega)
      | 1, hl, _ => exact no _ hl oNN_1 (by rw [hl]; simp only [Int.ofNat_eq_natCast, ne_eq]; omega)
      | 2, hl, _ => exact no _ hl oNN_2 (by rw [hl]; simp only [Int.ofNat_eq_natCast, ne_eq]; omega)
      | 3, hl, _ => exact no _ hl oNN_3 (by rw [hl]; simp only [Int.ofNat_eq_natCast, ne_eq]; omega)
      | 4, hl, _ => exact no _ hl oNN_4 (by rw [hl]; simp only [Int.ofNat_eq_natCast, ne_eq]; omega)
      | 5, hl, _ => exact no _ hl oNN_5 (by rw [hl]; simp only [Int.ofNat_eq_natCast, ne_eq]; omega)
      | 6, hl, _ => exact no _ hl oNN_6 (by rw [hl]; simp only [Int.ofNat_eq_natCast, ne_eq]; omega)
      | 7, hl, _ => exact no _ hl oNN_7 (by rw [hl]; simp only [Int.ofNat_eq_natCast, ne_eq]; omega)
      | 8, hl, _ => exact no _ hl oNN_8 (by rw [hl]; simp only [Int.ofNat_eq_natCast, ne_eq]; omega)
      | 9, hl, _ => exact no _ hl oNN_9 (by rw [hl]; simp only [Int.ofNat_eq_natCast, ne_eq]; omega)
      | 10, hl, _ => exact no _ hl oNN_10 (by rw [hl]; simp only [Int.ofNat_eq_natCast, ne_eq]; omega)
      | 11, hl, _ => exact no _ hl oNN_11 (by rw [hl]; simp only [Int.ofNat_eq_natCast, ne_eq]; omega)
      | 12, hl, _ => exact no _ hl oNN_12 (by rw [hl]; simp only [Int.ofNat_eq_natCast, ne_eq]; omega)
      | 13, hl, _ => exact no _ hl oNN_13 (by rw [hl]; simp only [Int.ofNat_eq_natCast, ne_eq]; omega)
      | 14, hl, _ => exact no _ hl oNN_14 (by rw [hl]; simp only [Int.ofNat_eq_natCast, ne_eq]; omega)
      | 15, hl, _ => exact no _ hl oNN_15 (by rw [hl]; simp only [Int.ofNat_eq_natCast, ne_eq]; omega)
      | 16, hl, _ => exact no _ hl oNN_16 (by rw [hl]; simp only [Int.ofNat_eq_natCast, ne_eq]; omega)
      | 17, hl, _ => exact no _ hl oNN_17 (by rw [hl]; simp only [Int.ofNat_eq_natCast, ne_eq]; omega)
      | 18, hl, _ => exact no _ hl oNN_18 (by rw [hl]; simp only [Int.ofNat_eq_natCast, ne_eq]; omega)
      | 19, hl, _ => exact no _ hl oNN_19 (by rw [hl]; simp only [Int.ofNat_eq_natCast, ne_eq]; omega)
      | 20, hl, _ => exact ye 20 hl (vNN_20 hm hx)
      | 21, hl, _ => exact ye 21 hl (vNN_21 hm hx)
      | 22, hl, _ => exact ye 22 hl (vNN_22 hm hx)
      | 23, hl, _ => exact ye 23 hl (vNN_23 hm hx)
      | 24, hl, _ => exact ye 24 hl (vNN_24 hm hx)
      | 25, hl, _ => exact ye 25 hl (vNN_25 hm hx)
      | 26, hl, _ => exact no _ hl oNN_26 (by rw [hl]; simp only [Int.ofNat_eq_natCast, ne_eq]; omega)
      | 27, hl, _ => exact no _ hl oNN_27 (by rw [hl]; simp only [Int.ofNat_eq_natCast, ne_eq]; omega)
      | 28, hl, _ => exact no _ hl oNN_28 (by rw [hl]; simp only [Int.ofNat_eq_natCast, ne_eq]; omega)
      | 29, hl, _ => exact no _ hl oNN_29 (by rw [hl]; simp only [Int.ofNat_eq_natCast, ne_eq]; omega)
      | 30, hl, _ => exact no _ hl oNN_30 (by rw [hl]; simp only [Int.ofNat_eq_natCast, ne_eq]; omega)
      | 31, hl, _ => exact no _ hl oNN_31 (by rw [hl]; simp only [Int.ofNat_eq_natCast, ne_eq]; omega)
      | 32, hl, _ => exact no _ hl oNN_32 (by rw [hl]; simp only [Int.ofNat_eq_natCast, ne_eq]; omega)
      | 33, hl, _ => exact no _ hl oNN_33 (by rw [hl]; simp only [Int.ofNat_eq_natCast, ne_eq]; omega)
      | 34, hl, _ => exact no _ hl oNN_34 (by rw [hl]; simp only [Int.ofNat_eq_natCast, ne_eq]; omega)
      | 35, hl, _ => exact no _ hl oNN_35 (by rw [hl]; simp only [Int.ofNat_eq_natCast, ne_eq]; omega)
      | 36, hl, _ => exact no _ hl oNN_36 (by rw [hl]; simp only [Int.ofNat_eq_natCast, ne_eq]; omega)
      | 37, hl, _ => exact no _ hl oNN_37 (by rw [hl]; simp only [Int.ofNat_eq_natCast, ne_eq]; omega)
      | 38, hl, _ => exact no _ hl oNN_38 (by rw [hl]; simp only [Int.ofNat_eq_natCast, ne_eq]; omega)
      | 39, hl, _ => exact no _ hl oNN_39 (by rw [hl]; simp only [Int.ofNat_eq_natCast, ne_eq]; omega)
      | 40, hl, _ => exact ye 40 hl (vNN_40 hm hx)
      | 41, hl, _ => exact ye 41 hl (vNN_41 hm hx)
      | 42, hl, _ => exact ye 42 hl (vNN_42 hm hx)
      | 43, hl, _ => exact ye 43 hl (vNN_43 hm hx)
      | 44, hl, _ => exact ye 44 hl (vNN_44 hm hx)
      | 45, hl, _ => exact ye 45 hl (vNN_45 hm hx)
      | 46, hl, _ => exact ye 46 hl (vNN_46 hm hx)
      | 47, hl, _ => exact no _ hl oNN_47 (by rw [hl]; simp only [Int.ofNat_eq_natCast, ne_eq]; omega)
      | 48, hl, _ => exact no _ hl oNN_48 (by rw [hl]; simp only [Int.ofNat_eq_natCast, ne_eq]; omega)
      | 49, hl, _ => exact no _ hl oNN_49 (by rw [hl]; simp only [Int.ofNat_eq_natCast, ne_eq]; omega)
      | 50, hl, _ => exact no _ hl oNN_50 (by rw [hl]; simp only [Int.ofNat_eq_natCast, ne_eq]; omega)
      | 51, hl, _ => exact no _ hl oNN_51 (by rw [hl]; simp only [Int.ofNat_eq_natCast, ne_eq]; omega)
      | 52, hl, _ => exact no _ hl oNN_52 (by rw [hl]; simp only [Int.ofNat_eq_natCast, ne_eq]; omega)
      | 53, hl, _ => exact no _ hl oNN_53 (by rw [hl]; simp only [Int.ofNat_eq_natCast, ne_eq]; omega)
      | 54, hl, _ => exact no _ hl oNN_54 (by rw [hl]; simp only [Int.ofNat_eq_natCast, ne_eq]; omega)
      | 55, hl, _ => exact no _ hl oNN_55 (by rw [hl]; simp only [Int.ofNat_eq_natCast, ne_eq]; omega)
      | 56, hl, _ => exact no _ hl oNN_56 (by rw [hl]; simp only [Int.ofNat_eq_natCast, ne_eq]; omega)
      | 57, hl, _ => exact no _ hl oNN_57 (by rw [hl]; simp only [Int.ofNat_eq_natCast, ne_eq]; omega)
      | 58, hl, _ => exact no _ hl oNN_58 (by rw [hl]; simp only [Int.ofNat_eq_natCast, ne_eq]; omega)
      | 59, hl, _ => exact no _ hl oNN_59 (by rw [hl]; simp only [Int.ofNat_eq_natCast, ne_eq]; omega)
      | 60, hl, _ => exact ye 60 hl (vNN_60 hm hx)
      | n + 61, _, h => exact absurd h (by omega)
  · exact no _ hl (oNN_neg n) (by rw [hl]; simp only [ne_eq]; omega)
def GN (m : Mm) (l : List SV) : Option (Bool × SV × Mm) := match l with
  | [.agg c] => bif isC ctsW c then some (okM m && okW (decW c), .tup [.agg (encW (stepN m (decW c)).x), I (stepN m (decW c)).way, B (stepN m (decW c)).ok], (stepN m (decW c)).m) else none
  | _ => none
def GNn (l : List SV) : Option SV := match l with
  | [.agg c] => bif isC ctsW c then some (.tup [.agg (encW (decW c)), I 0, B false]) else none
  | _ => none
theorem nN_nil (x : Wk) : sxFn (E1029 (Ω := SV × SH)) (An A1029 0) C1029 [.d (.v (.pointer none)), .agg (encW x)] [] (KT 0) = some (.tup [.agg (encW x), I 0, B false], []) := by kernel_rfl
def S1029m {Ω : Type} : Spec Ω := memSpec [none, some ctsW] (findM LM.own) [] (memF LM GN GNn)
theorem g1029m : Good1 Try.prog 28 S1029m := memFGood (A := A1029) Try.func28 (by kernel_rfl) c1029 e1029 mix (L := LM) lay_M (fun m xs r m' t tw h => by
  unfold GN at h
  split at h
  · rename_i c
    obtain ⟨hc, h⟩ := cond_some h
    simp only [Option.some.injEq, Prod.mk.injEq, Bool.and_eq_true] at h
    obtain ⟨⟨hm, hx⟩, rfl, rfl⟩ := h
    rw [← enc_decW hc]
    rw [dec_encW]
    exact ⟨_, LeV.refl _, vNP hm hx⟩
  · cases h) (fun xs r h => by
  unfold GNn at h
  split at h
  · obtain ⟨hc, h⟩ := cond_some h
    simp only [Option.some.injEq] at h
    subst h
    rw [← enc_decW hc, dec_encW]
    exact nN_nil _
  · cases h)
def S1030m {Ω : Type} : Spec Ω := memSpec [none, some ctsW] (findM LN.own) [] (memF LN GN (fun _ => none))
theorem g1030m : Good1 Try.prog 30 S1030m := memFGood (A := A1030) Try.func30 (by kernel_rfl) c1030 e1030 mix (L := LN) lay_N (fun m xs r m' t tw h => by
  unfold GN at h
  split at h
  · rename_i c
    obtain ⟨hc, h⟩ := cond_some h
    simp only [Option.some.injEq, Prod.mk.injEq, Bool.and_eq_true] at h
    obtain ⟨⟨hm, hx⟩, rfl, rfl⟩ := h
    rw [← enc_decW hc]
    rw [dec_encW]
    exact ⟨_, LeV.refl _, vNN hm hx⟩
  · cases h) (fun xs r h => by cases h)
end Go.Sx.Pr
