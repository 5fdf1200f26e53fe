/- Pieces of the code of functions, compiled for the symbolic interpreter, each checked against the program; no conditions. -/
import Derived.Test.YthbknbmfcklebaaGreatV5
import Derived.Test.YthbknbmfcklebaaGreatRows
import Derived.KernelRfl
import Derived.Test.YthbknbmfcklebaaGreatR2
set_option linter.all false
set_option linter.unusedVariables false
set_option linter.unusedSimpArgs false
set_option linter.unnecessarySimpa false
namespace Go.Sx.Pr
open Go Go.Sx Go.Proofs
set_option maxRecDepth 100000
/-- coatcheck/coatcheckref12.Asks -/
def C1124 : CF := ⟨1, [(2, none)],
 .seq (.reg false [⟨some 1, .box 26 7 (.t 0), none, 0⟩,
   ⟨some 2, .mv (.c (.d (.v (.bool false)))), none, 0⟩])
 (.seq (.reg false [⟨some 3, .fa 0 (.t 1), none, 0⟩,
   ⟨some 4, .ld 1 false (.t 3), none, 0⟩,
   ⟨some 5, .bin .geq (.t 4) (.c (.d (.v (.int .i64 4)))), none, 0⟩,
   ⟨some 6, .mv (.t 5), none, 0⟩,
   ⟨some 7, .fa 0 (.t 1), some (6, true), 0⟩,
   ⟨some 8, .ld 1 false (.t 7), some (6, true), 0⟩,
   ⟨some 9, .bin .leq (.t 8) (.c (.d (.v (.int .i64 6)))), some (6, true), 0⟩,
   ⟨some 10, .pick (.t 6) (.t 9) (.c (.d (.v (.bool false)))), none, 0⟩,
   ⟨some 2, .mv (.t 10), none, 0⟩])
 (.ret))⟩
theorem c1124 : coF Tryz.prog Tryz.f16 = some C1124 := by kernel_rfl
def A1124 : Ann := { keep := [0, 1, 2], live := [] }
def E1124 {Ω : Type} : Env Ω := enil
theorem e1124 : GoodE Tryz.prog E1124 := GoodE.nil
def S1124 {Ω : Type} : Spec Ω := inl E1124 A1124 C1124 false
theorem g1124 : Good1 Tryz.prog 16 S1124 := Good1.inl e1124 mix Tryz.func16 (by kernel_rfl) c1124 A1124 false
/-- coatcheck/coatcheckref12.Shares -/
def C1132 : CF := ⟨1, [(2, none)],
 .seq (.reg false [⟨some 1, .box 26 7 (.t 0), none, 0⟩,
   ⟨some 2, .mv (.c (.d (.v (.bool false)))), none, 0⟩])
 (.seq (.reg false [⟨some 3, .fa 0 (.t 1), none, 0⟩,
   ⟨some 4, .ld 1 false (.t 3), none, 0⟩,
   ⟨some 5, .bin .geq (.t 4) (.c (.d (.v (.int .i64 3)))), none, 0⟩,
   ⟨some 6, .mv (.t 5), none, 0⟩,
   ⟨some 7, .fa 0 (.t 1), some (6, true), 0⟩,
   ⟨some 8, .ld 1 false (.t 7), some (6, true), 0⟩,
   ⟨some 9, .bin .leq (.t 8) (.c (.d (.v (.int .i64 6)))), some (6, true), 0⟩,
   ⟨some 10, .pick (.t 6) (.t 9) (.c (.d (.v (.bool false)))), none, 0⟩,
   ⟨some 2, .mv (.t 10), none, 0⟩])
 (.ret))⟩
theorem c1132 : coF Tryz.prog Tryz.f27 = some C1132 := by kernel_rfl
def A1132 : Ann := { keep := [0, 1, 2], live := [] }
def E1132 {Ω : Type} : Env Ω := enil
theorem e1132 : GoodE Tryz.prog E1132 := GoodE.nil
def S1132 {Ω : Type} : Spec Ω := inl E1132 A1132 C1132 false
theorem g1132 : Good1 Tryz.prog 27 S1132 := Good1.inl e1132 mix Tryz.func27 (by kernel_rfl) c1132 A1132 false
/-- coatcheck/coatcheckref13.over -/
def C1130 : CF := ⟨2, [(4, some (33, true))],
 .seq (.reg false [⟨some 2, .box 34 33 (.t 0), none, 0⟩,
   ⟨some 4, .newc 34 [.d (.v (.int .i64 0)), .d (.v (.int .i64 0)), .d (.v (.int .u64 0)), .d (.v (.int .u64 0)), .d (.v (.int .i64 0)), .d (.v (.bool false)), .d (.v (.int .i64 0)), .d (.v (.int .i64 0)), .d (.v (.bool false)), .d (.v (.int .u64 0)), .d (.v (.slice none 0 0)), .d (.v (.int .u64 0)), .d (.v (.slice none 0 0)), .d (.v (.int .u64 0)), .d (.v (.slice none 0 0)), .d (.v (.int .u64 0)), .d (.v (.slice none 0 0)), .d (.v (.slice none 0 0)), .d (.v (.int .i64 0)), .d (.v (.int .i64 0)), .d (.v (.int .i64 0)), .d (.v (.int .i64 0)), .d (.v (.int .i64 0)), .d (.v (.int .u64 0)), .d (.v (.int .u64 0)), .d (.v (.int .u64 0)), .d (.v (.int .u64 0)), .d (.v (.int .u64 0)), .d (.v (.int .i64 0)), .d (.v (.slice none 0 0)), .d (.v (.int .u64 0)), .d (.v (.int .i64 0)), .d (.v (.bool false))], none, 0⟩])
 (.seq (.reg false [⟨some 5, .mv (.t 1), none, 0⟩,
   ⟨some 6, .fa 31 (.t 2), none, 0⟩,
   ⟨none, .st 1 (.t 6) (.t 5), none, 0⟩])
 (.seq (.reg false [⟨some 7, .fa 0 (.t 2), none, 0⟩,
   ⟨none, .st 1 (.t 7) (.c (.d (.v (.int .i64 0)))), none, 0⟩])
 (.seq (.reg false [⟨some 8, .ld 33 true (.t 2), none, 0⟩,
   ⟨none, .st 33 (.t 4) (.t 8), none, 0⟩])
 (.ret))))⟩
theorem c1130 : coF Tryz.prog Tryz.f25 = some C1130 := by kernel_rfl
def A1130 : Ann := { keep := [0, 1, 2, 4], live := [] }
def E1130 {Ω : Type} : Env Ω := enil
theorem e1130 : GoodE Tryz.prog E1130 := GoodE.nil
def S1130 {Ω : Type} : Spec Ω := inl E1130 A1130 C1130 false
theorem g1130 : Good1 Tryz.prog 25 S1130 := Good1.inl e1130 mix Tryz.func25 (by kernel_rfl) c1130 A1130 false
/-- coatcheck/coatcheckref13.to -/
def C1131 : CF := ⟨2, [(4, some (33, true))],
 .seq (.reg false [⟨some 2, .box 34 33 (.t 0), none, 0⟩,
   ⟨some 4, .newc 34 [.d (.v (.int .i64 0)), .d (.v (.int .i64 0)), .d (.v (.int .u64 0)), .d (.v (.int .u64 0)), .d (.v (.int .i64 0)), .d (.v (.bool false)), .d (.v (.int .i64 0)), .d (.v (.int .i64 0)), .d (.v (.bool false)), .d (.v (.int .u64 0)), .d (.v (.slice none 0 0)), .d (.v (.int .u64 0)), .d (.v (.slice none 0 0)), .d (.v (.int .u64 0)), .d (.v (.slice none 0 0)), .d (.v (.int .u64 0)), .d (.v (.slice none 0 0)), .d (.v (.slice none 0 0)), .d (.v (.int .i64 0)), .d (.v (.int .i64 0)), .d (.v (.int .i64 0)), .d (.v (.int .i64 0)), .d (.v (.int .i64 0)), .d (.v (.int .u64 0)), .d (.v (.int .u64 0)), .d (.v (.int .u64 0)), .d (.v (.int .u64 0)), .d (.v (.int .u64 0)), .d (.v (.int .i64 0)), .d (.v (.slice none 0 0)), .d (.v (.int .u64 0)), .d (.v (.int .i64 0)), .d (.v (.bool false))], none, 0⟩])
 (.seq (.reg false [⟨some 5, .mv (.t 1), none, 0⟩,
   ⟨some 6, .fa 0 (.t 2), none, 0⟩,
   ⟨none, .st 1 (.t 6) (.t 5), none, 0⟩])
 (.seq (.reg false [⟨some 7, .ld 33 true (.t 2), none, 0⟩,
   ⟨none, .st 33 (.t 4) (.t 7), none, 0⟩])
 (.ret)))⟩
theorem c1131 : coF Tryz.prog Tryz.f26 = some C1131 := by kernel_rfl
def A1131 : Ann := { keep := [0, 1, 2, 4], live := [] }
def E1131 {Ω : Type} : Env Ω := enil
theorem e1131 : GoodE Tryz.prog E1131 := GoodE.nil
def S1131 {Ω : Type} : Spec Ω := inl E1131 A1131 C1131 false
theorem g1131 : Good1 Tryz.prog 26 S1131 := Good1.inl e1131 mix Tryz.func26 (by kernel_rfl) c1131 A1131 false
def K1157_1 : CC := .seq (.reg false [⟨some 10, .fa 10 (.t 1), none, 0⟩,
   ⟨some 11, .ld 1 false (.t 10), none, 0⟩,
   ⟨some 12, .fa 10 (.t 1), none, 0⟩,
   ⟨some 13, .ld 1 false (.t 12), none, 0⟩,
   ⟨some 14, .len (.t 13), none, 0⟩,
   ⟨some 15, .bin .sub (.t 14) (.c (.d (.v (.int .i64 1)))), none, 0⟩,
   ⟨some 16, .ixs 1 (.t 11) (.t 15), none, 0⟩,
   ⟨some 17, .ld 1 false (.t 16), none, 0⟩,
   ⟨some 4, .mv (.t 17), none, 0⟩])
 (.seq (.reg false [⟨some 18, .bsl 3 1 0 [.d (.v (.int .i64 0))] [], none, 0⟩,
   ⟨some 19, .fa 10 (.t 1), none, 0⟩,
   ⟨some 20, .ld 1 false (.t 19), none, 0⟩,
   ⟨some 21, .fa 10 (.t 1), none, 0⟩,
   ⟨some 22, .ld 1 false (.t 21), none, 0⟩,
   ⟨some 23, .len (.t 22), none, 0⟩,
   ⟨some 24, .bin .sub (.t 23) (.c (.d (.v (.int .i64 1)))), none, 0⟩,
   ⟨some 25, .slc 1 (.t 20) none (some (.t 24)) none, none, 0⟩,
   ⟨some 26, .app 3 1 8 (some .i64) (.t 18) (.t 25), none, 0⟩,
   ⟨some 27, .fa 10 (.t 1), none, 0⟩,
   ⟨none, .st 1 (.t 27) (.t 26), none, 0⟩])
 (.seq (.reg false [⟨some 28, .ld 33 true (.t 1), none, 0⟩,
   ⟨some 29, .mv (.t 4), none, 0⟩,
   ⟨none, .st 33 (.t 2) (.t 28), none, 0⟩,
   ⟨some 3, .mv (.t 29), none, 0⟩])
 (.ret)))
def K1157_2 : CC := .seq (.reg false [⟨some 5, .fa 10 (.t 1), none, 0⟩,
   ⟨some 6, .ld 1 false (.t 5), none, 0⟩,
   ⟨some 7, .len (.t 6), none, 0⟩,
   ⟨some 8, .eq .int false (.t 7) (.c (.d (.v (.int .i64 0)))), none, 0⟩])
 (.cond 8 (.seq (.reg false [⟨some 9, .ld 33 true (.t 1), none, 0⟩,
     ⟨none, .st 33 (.t 2) (.t 9), none, 0⟩,
     ⟨some 3, .mv (.c (.d (.v (.int .i64 (-1))))), none, 0⟩])
   (.ret))
   (.skip))
def K1157_3 : CC := .reg false [⟨some 1, .box 34 33 (.t 0), none, 0⟩,
   ⟨some 2, .newc 34 [.d (.v (.int .i64 0)), .d (.v (.int .i64 0)), .d (.v (.int .u64 0)), .d (.v (.int .u64 0)), .d (.v (.int .i64 0)), .d (.v (.bool false)), .d (.v (.int .i64 0)), .d (.v (.int .i64 0)), .d (.v (.bool false)), .d (.v (.int .u64 0)), .d (.v (.slice none 0 0)), .d (.v (.int .u64 0)), .d (.v (.slice none 0 0)), .d (.v (.int .u64 0)), .d (.v (.slice none 0 0)), .d (.v (.int .u64 0)), .d (.v (.slice none 0 0)), .d (.v (.slice none 0 0)), .d (.v (.int .i64 0)), .d (.v (.int .i64 0)), .d (.v (.int .i64 0)), .d (.v (.int .i64 0)), .d (.v (.int .i64 0)), .d (.v (.int .u64 0)), .d (.v (.int .u64 0)), .d (.v (.int .u64 0)), .d (.v (.int .u64 0)), .d (.v (.int .u64 0)), .d (.v (.int .i64 0)), .d (.v (.slice none 0 0)), .d (.v (.int .u64 0)), .d (.v (.int .i64 0)), .d (.v (.bool false))], none, 0⟩,
   ⟨some 3, .mv (.c (.d (.v (.int .i64 0)))), none, 0⟩]
/-- coatcheck/coatcheckref04.Take -/
def C1157 : CF := ⟨1, [(2, some (33, true)), (3, none)],
 .seq K1157_3 (.seq K1157_2 K1157_1)⟩
theorem c1157 : coF Tryz.prog Tryz.f79 = some C1157 := by kernel_rfl
def A1157 : Ann := { keep := [0, 1, 2, 3, 4, 8], live := [] }
def E1157 {Ω : Type} : Env Ω := enil
theorem e1157 : GoodE Tryz.prog E1157 := GoodE.nil
def S1157 {Ω : Type} : Spec Ω := inl E1157 A1157 C1157 false
theorem g1157 : Good1 Tryz.prog 79 S1157 := Good1.inl e1157 mix Tryz.func79 (by kernel_rfl) c1157 A1157 false
def K1138_1 : CC := .seq (.reg false [⟨some 6, .ld 33 true (.t 1), none, 0⟩,
   ⟨some 7, .call (.c (.fn (.func 79) [] [])) [.t 6], none, 0⟩,
   ⟨some 5, .mv (.t 7), none, 0⟩,
   ⟨some 8, .ext 0 (.t 5), none, 0⟩,
   ⟨some 9, .ext 1 (.t 5), none, 0⟩,
   ⟨some 3, .newc 34 [.d (.v (.int .i64 0)), .d (.v (.int .i64 0)), .d (.v (.int .u64 0)), .d (.v (.int .u64 0)), .d (.v (.int .i64 0)), .d (.v (.bool false)), .d (.v (.int .i64 0)), .d (.v (.int .i64 0)), .d (.v (.bool false)), .d (.v (.int .u64 0)), .d (.v (.slice none 0 0)), .d (.v (.int .u64 0)), .d (.v (.slice none 0 0)), .d (.v (.int .u64 0)), .d (.v (.slice none 0 0)), .d (.v (.int .u64 0)), .d (.v (.slice none 0 0)), .d (.v (.slice none 0 0)), .d (.v (.int .i64 0)), .d (.v (.int .i64 0)), .d (.v (.int .i64 0)), .d (.v (.int .i64 0)), .d (.v (.int .i64 0)), .d (.v (.int .u64 0)), .d (.v (.int .u64 0)), .d (.v (.int .u64 0)), .d (.v (.int .u64 0)), .d (.v (.int .u64 0)), .d (.v (.int .i64 0)), .d (.v (.slice none 0 0)), .d (.v (.int .u64 0)), .d (.v (.int .i64 0)), .d (.v (.bool false))], none, 0⟩,
   ⟨none, .st 33 (.t 3) (.t 8), none, 0⟩,
   ⟨some 4, .mv (.t 9), none, 0⟩])
 (.seq (.seq (.reg false [⟨some 10, .fa 10 (.t 1), none, 0⟩,
   ⟨some 11, .ld 1 false (.t 10), none, 0⟩,
   ⟨some 12, .len (.t 11), none, 0⟩,
   ⟨some 13, .eq .int false (.t 12) (.c (.d (.v (.int .i64 0)))), none, 0⟩])
 (.cond 13 (.seq (.reg false [⟨some 14, .fa 0 (.t 1), none, 0⟩,
     ⟨none, .st 1 (.t 14) (.c (.d (.v (.int .i64 10)))), none, 0⟩])
   (.seq (.reg false [⟨some 15, .ld 33 true (.t 1), none, 0⟩,
     ⟨none, .st 33 (.t 2) (.t 15), none, 0⟩])
   (.ret)))
   (.skip)))
 (.seq (.reg false [⟨some 16, .mv (.t 4), none, 0⟩,
   ⟨some 17, .bin .add (.t 16) (.c (.d (.v (.int .i64 1)))), none, 0⟩,
   ⟨some 18, .fa 18 (.t 3), none, 0⟩,
   ⟨none, .st 1 (.t 18) (.t 17), none, 0⟩])
 (.seq (.reg false [⟨some 19, .fa 0 (.t 3), none, 0⟩,
   ⟨none, .st 1 (.t 19) (.c (.d (.v (.int .i64 35)))), none, 0⟩])
 (.seq (.reg false [⟨some 20, .ld 33 true (.t 3), none, 0⟩,
   ⟨none, .st 33 (.t 2) (.t 20), none, 0⟩])
 (.ret)))))
def K1138_2 : CC := .reg false [⟨some 1, .box 34 33 (.t 0), none, 0⟩,
   ⟨some 2, .newc 34 [.d (.v (.int .i64 0)), .d (.v (.int .i64 0)), .d (.v (.int .u64 0)), .d (.v (.int .u64 0)), .d (.v (.int .i64 0)), .d (.v (.bool false)), .d (.v (.int .i64 0)), .d (.v (.int .i64 0)), .d (.v (.bool false)), .d (.v (.int .u64 0)), .d (.v (.slice none 0 0)), .d (.v (.int .u64 0)), .d (.v (.slice none 0 0)), .d (.v (.int .u64 0)), .d (.v (.slice none 0 0)), .d (.v (.int .u64 0)), .d (.v (.slice none 0 0)), .d (.v (.slice none 0 0)), .d (.v (.int .i64 0)), .d (.v (.int .i64 0)), .d (.v (.int .i64 0)), .d (.v (.int .i64 0)), .d (.v (.int .i64 0)), .d (.v (.int .u64 0)), .d (.v (.int .u64 0)), .d (.v (.int .u64 0)), .d (.v (.int .u64 0)), .d (.v (.int .u64 0)), .d (.v (.int .i64 0)), .d (.v (.slice none 0 0)), .d (.v (.int .u64 0)), .d (.v (.int .i64 0)), .d (.v (.bool false))], none, 0⟩]
/-- coatcheck/coatcheckref09.Begin -/
def C1138 : CF := ⟨1, [(2, some (33, true))],
 .seq K1138_2 K1138_1⟩
theorem c1138 : coF Tryz.prog Tryz.f41 = some C1138 := by kernel_rfl
def A1138 : Ann := { keep := [0, 1, 2, 3, 4, 13], live := [] }
def E1138 {Ω : Type} : Env Ω := econs 79 S1157 (enil)
theorem e1138 : GoodE Tryz.prog E1138 := GoodE.cons g1157 (GoodE.nil)
def S1138 {Ω : Type} : Spec Ω := inl E1138 A1138 C1138 false
theorem g1138 : Good1 Tryz.prog 41 S1138 := Good1.inl e1138 mix Tryz.func41 (by kernel_rfl) c1138 A1138 false
/-- coatcheck/coatcheckref13.body -/
def C1133 : CF := ⟨1, [(2, some (33, true))],
 .seq (.reg false [⟨some 1, .box 34 33 (.t 0), none, 0⟩,
   ⟨some 2, .newc 34 [.d (.v (.int .i64 0)), .d (.v (.int .i64 0)), .d (.v (.int .u64 0)), .d (.v (.int .u64 0)), .d (.v (.int .i64 0)), .d (.v (.bool false)), .d (.v (.int .i64 0)), .d (.v (.int .i64 0)), .d (.v (.bool false)), .d (.v (.int .u64 0)), .d (.v (.slice none 0 0)), .d (.v (.int .u64 0)), .d (.v (.slice none 0 0)), .d (.v (.int .u64 0)), .d (.v (.slice none 0 0)), .d (.v (.int .u64 0)), .d (.v (.slice none 0 0)), .d (.v (.slice none 0 0)), .d (.v (.int .i64 0)), .d (.v (.int .i64 0)), .d (.v (.int .i64 0)), .d (.v (.int .i64 0)), .d (.v (.int .i64 0)), .d (.v (.int .u64 0)), .d (.v (.int .u64 0)), .d (.v (.int .u64 0)), .d (.v (.int .u64 0)), .d (.v (.int .u64 0)), .d (.v (.int .i64 0)), .d (.v (.slice none 0 0)), .d (.v (.int .u64 0)), .d (.v (.int .i64 0)), .d (.v (.bool false))], none, 0⟩])
 (.seq (.seq (.reg false [⟨some 3, .fa 1 (.t 1), none, 0⟩,
   ⟨some 4, .fa 0 (.t 3), none, 0⟩,
   ⟨some 5, .ld 1 false (.t 4), none, 0⟩])
 (.block 0 (.seq (.reg false [⟨some 7, .eq .int false (.t 5) (.c (.d (.v (.int .i64 4)))), none, 0⟩,
     ⟨some 6, .mv (.t 7), none, 0⟩])
   (.cond 6 (.seq (.reg false [⟨some 8, .ld 33 true (.t 1), none, 0⟩,
       ⟨some 9, .call (.c (.fn (.func 26) [] [])) [.t 8, .c (.d (.v (.int .i64 42)))], none, 0⟩,
       ⟨none, .st 33 (.t 2) (.t 9), none, 0⟩])
     (.ret))
     (.seq (.reg false [⟨some 11, .eq .int false (.t 5) (.c (.d (.v (.int .i64 5)))), none, 0⟩,
       ⟨some 10, .mv (.t 11), none, 0⟩])
     (.cond 10 (.seq (.reg false [⟨some 12, .ld 33 true (.t 1), none, 0⟩,
         ⟨some 13, .call (.c (.fn (.func 26) [] [])) [.t 12, .c (.d (.v (.int .i64 46)))], none, 0⟩,
         ⟨none, .st 33 (.t 2) (.t 13), none, 0⟩])
       (.ret))
       (.seq (.reg false [⟨some 15, .eq .int false (.t 5) (.c (.d (.v (.int .i64 6)))), none, 0⟩,
         ⟨some 14, .mv (.t 15), none, 0⟩])
       (.cond 14 (.seq (.reg false [⟨some 16, .ld 33 true (.t 1), none, 0⟩,
           ⟨some 17, .call (.c (.fn (.func 26) [] [])) [.t 16, .c (.d (.v (.int .i64 60)))], none, 0⟩,
           ⟨none, .st 33 (.t 2) (.t 17), none, 0⟩])
         (.ret))
         (.skip)))))))))
 (.seq (.reg false [⟨some 18, .ld 33 true (.t 1), none, 0⟩,
   ⟨some 19, .call (.c (.fn (.func 41) [] [])) [.t 18], none, 0⟩,
   ⟨none, .st 33 (.t 2) (.t 19), none, 0⟩])
 (.ret)))⟩
theorem c1133 : coF Tryz.prog Tryz.f29 = some C1133 := by kernel_rfl
def A1133 : Ann := { keep := [0, 1, 2, 5, 6, 10, 14], live := [] }
def E1133 {Ω : Type} : Env Ω := econs 26 S1131 (econs 41 S1138 (enil))
theorem e1133 : GoodE Tryz.prog E1133 := GoodE.cons g1131 (GoodE.cons g1138 (GoodE.nil))
def S1133 {Ω : Type} : Spec Ω := inl E1133 A1133 C1133 false
theorem g1133 : Good1 Tryz.prog 29 S1133 := Good1.inl e1133 mix Tryz.func29 (by kernel_rfl) c1133 A1133 false
def K1120_1 : CC := .seq (.seq (.reg false [⟨some 77, .ld 7 true (.t 6), none, 0⟩,
   ⟨some 78, .call (.c (.fn (.func 27) [] [])) [.t 77], none, 0⟩,
   ⟨some 79, .un .not (.t 78), none, 0⟩])
 (.cond 79 (.seq (.reg false [⟨some 80, .ld 33 true (.t 5), none, 0⟩,
     ⟨some 81, .call (.c (.fn (.func 25) [] [])) [.t 80, .c (.d (.v (.int .i64 3)))], none, 0⟩,
     ⟨none, .st 33 (.t 8) (.t 81), none, 0⟩])
   (.ret))
   (.skip)))
 (.seq (.seq (.reg false [⟨some 82, .ld 7 true (.t 6), none, 0⟩,
   ⟨some 83, .call (.c (.fn (.func 16) [] [])) [.t 82], none, 0⟩,
   ⟨some 84, .mv (.t 83), none, 0⟩,
   ⟨some 85, .ld 8 true (.t 4), some (84, true), 0⟩,
   ⟨some 86, .mv (.t 3), some (84, true), 0⟩,
   ⟨some 87, .call (.c (.fn (.func 28) [] [])) [.t 85, .t 86], some (84, true), 0⟩,
   ⟨some 88, .un .not (.t 87), some (84, true), 0⟩,
   ⟨some 89, .pick (.t 84) (.t 88) (.c (.d (.v (.bool false)))), none, 0⟩])
 (.cond 89 (.seq (.reg false [⟨some 90, .ld 33 true (.t 5), none, 0⟩,
     ⟨some 91, .call (.c (.fn (.func 25) [] [])) [.t 90, .c (.d (.v (.int .i64 8)))], none, 0⟩,
     ⟨none, .st 33 (.t 8) (.t 91), none, 0⟩])
   (.ret))
   (.skip)))
 (.seq (.seq (.reg false [⟨some 92, .fa 8 (.t 5), none, 0⟩,
   ⟨some 93, .ld 1 false (.t 92), none, 0⟩])
 (.cond 93 (.seq (.reg false [⟨some 94, .ld 33 true (.t 5), none, 0⟩,
     ⟨some 95, .call (.c (.fn (.func 29) [] [])) [.t 94], none, 0⟩,
     ⟨none, .st 33 (.t 8) (.t 95), none, 0⟩])
   (.ret))
   (.skip)))
 (.seq (.reg false [⟨some 96, .ld 33 true (.t 5), none, 0⟩,
   ⟨some 97, .call (.c (.fn (.func 26) [] [])) [.t 96, .c (.d (.v (.int .i64 1)))], none, 0⟩,
   ⟨none, .st 33 (.t 8) (.t 97), none, 0⟩])
 (.ret))))
def K1120_2 : CC := .seq (.seq (.reg false [⟨some 28, .fa 8 (.t 5), none, 0⟩,
   ⟨some 29, .ld 1 false (.t 28), none, 0⟩])
 (.cond 29 (.seq (.reg false [⟨some 30, .ld 33 true (.t 5), none, 0⟩,
     ⟨some 31, .call (.c (.fn (.func 25) [] [])) [.t 30, .c (.d (.v (.int .i64 9)))], none, 0⟩,
     ⟨none, .st 33 (.t 8) (.t 31), none, 0⟩])
   (.ret))
   (.skip)))
 (.seq (.reg false [⟨some 32, .ld 33 true (.t 5), none, 0⟩,
   ⟨some 33, .call (.c (.fn (.func 26) [] [])) [.t 32, .c (.d (.v (.int .i64 1)))], none, 0⟩,
   ⟨none, .st 33 (.t 8) (.t 33), none, 0⟩])
 (.ret))
def K1120_3 : CC := .seq (.seq (.reg false [⟨some 36, .fa 8 (.t 5), none, 0⟩,
   ⟨some 37, .ld 1 false (.t 36), none, 0⟩,
   ⟨some 38, .un .not (.t 37), none, 0⟩])
 (.cond 38 (.seq (.reg false [⟨some 39, .ld 33 true (.t 5), none, 0⟩,
     ⟨some 40, .call (.c (.fn (.func 25) [] [])) [.t 39, .c (.d (.v (.int .i64 9)))], none, 0⟩,
     ⟨none, .st 33 (.t 8) (.t 40), none, 0⟩])
   (.ret))
   (.skip)))
 (.seq (.reg false [⟨some 41, .ld 33 true (.t 5), none, 0⟩,
   ⟨some 42, .call (.c (.fn (.func 26) [] [])) [.t 41, .c (.d (.v (.int .i64 90)))], none, 0⟩,
   ⟨none, .st 33 (.t 8) (.t 42), none, 0⟩])
 (.ret))
def K1120_4 : CC := .seq (.seq (.reg false [⟨some 45, .fa 8 (.t 5), none, 0⟩,
   ⟨some 46, .ld 1 false (.t 45), none, 0⟩,
   ⟨some 47, .un .not (.t 46), none, 0⟩,
   ⟨some 48, .mv (.t 47), none, 0⟩,
   ⟨some 49, .fa 22 (.t 5), some (48, false), 0⟩,
   ⟨some 50, .ld 1 false (.t 49), some (48, false), 0⟩,
   ⟨some 51, .eq .int false (.t 50) (.c (.d (.v (.int .i64 0)))), some (48, false), 0⟩,
   ⟨some 52, .pick (.t 48) (.c (.d (.v (.bool true)))) (.t 51), none, 0⟩])
 (.cond 52 (.seq (.reg false [⟨some 53, .ld 33 true (.t 5), none, 0⟩,
     ⟨some 54, .call (.c (.fn (.func 25) [] [])) [.t 53, .c (.d (.v (.int .i64 9)))], none, 0⟩,
     ⟨none, .st 33 (.t 8) (.t 54), none, 0⟩])
   (.ret))
   (.skip)))
 (.seq (.reg false [⟨some 55, .ld 33 true (.t 5), none, 0⟩,
   ⟨some 56, .call (.c (.fn (.func 26) [] [])) [.t 55, .c (.d (.v (.int .i64 62)))], none, 0⟩,
   ⟨none, .st 33 (.t 8) (.t 56), none, 0⟩])
 (.ret))
def K1120_5 : CC := .seq (.reg false [⟨some 58, .eq .int false (.t 25) (.c (.d (.v (.int .i64 8)))), none, 0⟩,
   ⟨some 57, .mv (.t 58), none, 0⟩])
 (.cond 57 (.seq (.reg false [⟨some 59, .ld 33 true (.t 5), none, 0⟩,
     ⟨some 60, .call (.c (.fn (.func 26) [] [])) [.t 59, .c (.d (.v (.int .i64 70)))], none, 0⟩,
     ⟨none, .st 33 (.t 8) (.t 60), none, 0⟩])
   (.ret))
   (.seq (.reg false [⟨some 62, .eq .int false (.t 25) (.c (.d (.v (.int .i64 9)))), none, 0⟩,
     ⟨some 61, .mv (.t 62), none, 0⟩])
   (.cond 61 (.seq (.seq (.reg false [⟨some 63, .fa 3 (.t 6), none, 0⟩,
       ⟨some 64, .ld 1 false (.t 63), none, 0⟩,
       ⟨some 65, .bin .lss (.t 64) (.c (.d (.v (.int .i64 0)))), none, 0⟩,
       ⟨some 66, .mv (.t 65), none, 0⟩,
       ⟨some 67, .fa 3 (.t 6), some (66, false), 0⟩,
       ⟨some 68, .ld 1 false (.t 67), some (66, false), 0⟩,
       ⟨some 69, .fa 1 (.t 4), some (66, false), 0⟩,
       ⟨some 70, .ld 1 false (.t 69), some (66, false), 0⟩,
       ⟨some 71, .bin .geq (.t 68) (.t 70), some (66, false), 0⟩,
       ⟨some 72, .pick (.t 66) (.c (.d (.v (.bool true)))) (.t 71), none, 0⟩])
     (.cond 72 (.seq (.reg false [⟨some 73, .ld 33 true (.t 5), none, 0⟩,
         ⟨some 74, .call (.c (.fn (.func 25) [] [])) [.t 73, .c (.d (.v (.int .i64 8)))], none, 0⟩,
         ⟨none, .st 33 (.t 8) (.t 74), none, 0⟩])
       (.ret))
       (.skip)))
     (.seq (.reg false [⟨some 75, .ld 33 true (.t 5), none, 0⟩,
       ⟨some 76, .call (.c (.fn (.func 26) [] [])) [.t 75, .c (.d (.v (.int .i64 36)))], none, 0⟩,
       ⟨none, .st 33 (.t 8) (.t 76), none, 0⟩])
     (.ret)))
     (.skip))))
def K1120_6 : CC := .reg false [⟨some 44, .eq .int false (.t 25) (.c (.d (.v (.int .i64 7)))), none, 0⟩,
   ⟨some 43, .mv (.t 44), none, 0⟩]
def K1120_7 : CC := .reg false [⟨some 35, .eq .int false (.t 25) (.c (.d (.v (.int .i64 2)))), none, 0⟩,
   ⟨some 34, .mv (.t 35), none, 0⟩]
def K1120_8 : CC := .reg false [⟨some 27, .eq .int false (.t 25) (.c (.d (.v (.int .i64 1)))), none, 0⟩,
   ⟨some 26, .mv (.t 27), none, 0⟩]
def K1120_9 : CC := .reg false [⟨some 24, .fa 0 (.t 6), none, 0⟩,
   ⟨some 25, .ld 1 false (.t 24), none, 0⟩]
def K1120_10 : CC := .reg false [⟨some 23, .fa 28 (.t 5), none, 0⟩,
   ⟨none, .st 1 (.t 23) (.c (.d (.v (.int .i64 0)))), none, 0⟩]
def K1120_11 : CC := .reg false [⟨some 22, .fa 21 (.t 5), none, 0⟩,
   ⟨none, .st 1 (.t 22) (.c (.d (.v (.int .i64 0)))), none, 0⟩]
def K1120_12 : CC := .reg false [⟨some 21, .fa 20 (.t 5), none, 0⟩,
   ⟨none, .st 1 (.t 21) (.c (.d (.v (.int .i64 0)))), none, 0⟩]
def K1120_13 : CC := .reg false [⟨some 20, .fa 19 (.t 5), none, 0⟩,
   ⟨none, .st 1 (.t 20) (.c (.d (.v (.int .i64 0)))), none, 0⟩]
def K1120_14 : CC := .reg false [⟨some 19, .fa 18 (.t 5), none, 0⟩,
   ⟨none, .st 1 (.t 19) (.c (.d (.v (.int .i64 0)))), none, 0⟩]
def K1120_15 : CC := .reg false [⟨some 18, .fa 32 (.t 5), none, 0⟩,
   ⟨none, .st 1 (.t 18) (.c (.d (.v (.bool false)))), none, 0⟩]
def K1120_16 : CC := .reg false [⟨some 17, .fa 31 (.t 5), none, 0⟩,
   ⟨none, .st 1 (.t 17) (.c (.d (.v (.int .i64 0)))), none, 0⟩]
def K1120_17 : CC := .reg false [⟨some 16, .fa 29 (.t 5), none, 0⟩,
   ⟨none, .st 1 (.t 16) (.c (.d (.v (.slice none 0 0)))), none, 0⟩]
def K1120_18 : CC := .seq (.reg false [⟨some 12, .ld 7 true (.t 6), none, 0⟩,
   ⟨some 13, .call (.c (.fn (.func 16) [] [])) [.t 12], none, 0⟩])
 (.cond 13 (.reg false [⟨some 14, .mv (.t 3), none, 0⟩,
     ⟨some 15, .fa 30 (.t 5), none, 0⟩,
     ⟨none, .st 1 (.t 15) (.t 14), none, 0⟩])
   (.skip))
def K1120_19 : CC := .reg false [⟨some 11, .fa 30 (.t 5), none, 0⟩,
   ⟨none, .st 1 (.t 11) (.c (.d (.v (.int .u64 0)))), none, 0⟩]
def K1120_20 : CC := .reg false [⟨some 9, .ld 7 true (.t 6), none, 0⟩,
   ⟨some 10, .fa 1 (.t 5), none, 0⟩,
   ⟨none, .st 7 (.t 10) (.t 9), none, 0⟩]
def K1120_21 : CC := .reg false [⟨some 4, .box 24 8 (.t 0), none, 0⟩,
   ⟨some 5, .box 34 33 (.t 1), none, 0⟩,
   ⟨some 6, .box 26 7 (.t 2), none, 0⟩,
   ⟨some 8, .newc 34 [.d (.v (.int .i64 0)), .d (.v (.int .i64 0)), .d (.v (.int .u64 0)), .d (.v (.int .u64 0)), .d (.v (.int .i64 0)), .d (.v (.bool false)), .d (.v (.int .i64 0)), .d (.v (.int .i64 0)), .d (.v (.bool false)), .d (.v (.int .u64 0)), .d (.v (.slice none 0 0)), .d (.v (.int .u64 0)), .d (.v (.slice none 0 0)), .d (.v (.int .u64 0)), .d (.v (.slice none 0 0)), .d (.v (.int .u64 0)), .d (.v (.slice none 0 0)), .d (.v (.slice none 0 0)), .d (.v (.int .i64 0)), .d (.v (.int .i64 0)), .d (.v (.int .i64 0)), .d (.v (.int .i64 0)), .d (.v (.int .i64 0)), .d (.v (.int .u64 0)), .d (.v (.int .u64 0)), .d (.v (.int .u64 0)), .d (.v (.int .u64 0)), .d (.v (.int .u64 0)), .d (.v (.int .i64 0)), .d (.v (.slice none 0 0)), .d (.v (.int .u64 0)), .d (.v (.int .i64 0)), .d (.v (.bool false))], none, 0⟩]
/-- coatcheck/coatcheckref13.Begin -/
def C1120 : CF := ⟨4, [(8, some (33, true))],
 .seq K1120_21 (.seq K1120_20 (.seq K1120_19 (.seq K1120_18 (.seq K1120_17 (.seq K1120_16 (.seq K1120_15 (.seq K1120_14 (.seq K1120_13 (.seq K1120_12 (.seq K1120_11 (.seq K1120_10 (.seq (.seq K1120_9 (.block 0 (.seq K1120_8 (.cond 26 K1120_2 (.seq K1120_7 (.cond 34 K1120_3 (.seq K1120_6 (.cond 43 K1120_4 K1120_5)))))))) K1120_1))))))))))))⟩
theorem c1120 : coF Tryz.prog Tryz.f10 = some C1120 := by kernel_rfl
def A1120 : Ann := { keep := [0, 1, 2, 3, 4, 5, 6, 8, 13, 25, 26, 29, 34, 38, 43, 52, 57, 61, 72, 79, 89, 93], live := [] }
def E1120 {Ω : Type} : Env Ω := econs 16 S1124 (econs 25 S1130 (econs 26 S1131 (econs 27 S1132 (econs 28 S1034c (econs 29 S1133 (enil))))))
theorem e1120 : GoodE Tryz.prog E1120 := GoodE.cons g1124 (GoodE.cons g1130 (GoodE.cons g1131 (GoodE.cons g1132 (GoodE.cons g1034c (GoodE.cons g1133 (GoodE.nil))))))
def K1118_1 : CC := .seq (.reg false [⟨some 34, .ld 33 true (.t 1), none, 0⟩,
   ⟨none, .st 33 (.t 2) (.t 34), none, 0⟩])
 (.ret)
def L1118_2 : CC := .seq (.seq (.reg false [⟨some 19, .mv (.t 3), none, 0⟩,
   ⟨some 20, .bin .lss (.t 19) (.c (.d (.v (.int .i64 3)))), none, 0⟩])
 (.cond 20 (.skip)
   (.exit 0)))
 (.seq (.block 1 (.reg false [⟨some 23, .mv (.t 3), none, 0⟩,
     ⟨some 24, .bsl 3 1 0 [.d (.v (.int .i64 0))] [], none, 0⟩,
     ⟨some 25, .mv (.t 3), none, 0⟩,
     ⟨some 26, .fa 11 (.t 1), none, 0⟩,
     ⟨some 27, .ixa 3 2 (.t 26) (.t 25), none, 0⟩,
     ⟨some 28, .fa 1 (.t 27), none, 0⟩,
     ⟨some 29, .ld 1 false (.t 28), none, 0⟩,
     ⟨some 30, .app 3 1 8 (some .i64) (.t 24) (.t 29), none, 0⟩,
     ⟨some 31, .fa 11 (.t 1), none, 0⟩,
     ⟨some 32, .ixa 3 2 (.t 31) (.t 23), none, 0⟩,
     ⟨some 33, .fa 1 (.t 32), none, 0⟩,
     ⟨none, .st 1 (.t 33) (.t 30), none, 0⟩]))
 (.reg false [⟨some 21, .mv (.t 3), none, 0⟩,
   ⟨some 22, .bin .add (.t 21) (.c (.d (.v (.int .i64 1)))), none, 0⟩,
   ⟨some 3, .mv (.t 22), none, 0⟩]))
def K1118_3 : CC := .reg false [⟨some 3, .mv (.c (.d (.v (.int .i64 0)))), none, 0⟩]
def K1118_4 : CC := .reg false [⟨some 14, .bsl 22 1 0 [.d (.v (.int .u64 0))] [], none, 0⟩,
   ⟨some 15, .fa 29 (.t 1), none, 0⟩,
   ⟨some 16, .ld 1 false (.t 15), none, 0⟩,
   ⟨some 17, .app 22 1 8 (some .u64) (.t 14) (.t 16), none, 0⟩,
   ⟨some 18, .fa 29 (.t 1), none, 0⟩,
   ⟨none, .st 1 (.t 18) (.t 17), none, 0⟩]
def K1118_5 : CC := .reg false [⟨some 9, .bsl 3 1 0 [.d (.v (.int .i64 0))] [], none, 0⟩,
   ⟨some 10, .fa 17 (.t 1), none, 0⟩,
   ⟨some 11, .ld 1 false (.t 10), none, 0⟩,
   ⟨some 12, .app 3 1 8 (some .i64) (.t 9) (.t 11), none, 0⟩,
   ⟨some 13, .fa 17 (.t 1), none, 0⟩,
   ⟨none, .st 1 (.t 13) (.t 12), none, 0⟩]
def K1118_6 : CC := .reg false [⟨some 4, .bsl 3 1 0 [.d (.v (.int .i64 0))] [], none, 0⟩,
   ⟨some 5, .fa 10 (.t 1), none, 0⟩,
   ⟨some 6, .ld 1 false (.t 5), none, 0⟩,
   ⟨some 7, .app 3 1 8 (some .i64) (.t 4) (.t 6), none, 0⟩,
   ⟨some 8, .fa 10 (.t 1), none, 0⟩,
   ⟨none, .st 1 (.t 8) (.t 7), none, 0⟩]
def K1118_7 : CC := .reg false [⟨some 1, .box 34 33 (.t 0), none, 0⟩,
   ⟨some 2, .newc 34 [.d (.v (.int .i64 0)), .d (.v (.int .i64 0)), .d (.v (.int .u64 0)), .d (.v (.int .u64 0)), .d (.v (.int .i64 0)), .d (.v (.bool false)), .d (.v (.int .i64 0)), .d (.v (.int .i64 0)), .d (.v (.bool false)), .d (.v (.int .u64 0)), .d (.v (.slice none 0 0)), .d (.v (.int .u64 0)), .d (.v (.slice none 0 0)), .d (.v (.int .u64 0)), .d (.v (.slice none 0 0)), .d (.v (.int .u64 0)), .d (.v (.slice none 0 0)), .d (.v (.slice none 0 0)), .d (.v (.int .i64 0)), .d (.v (.int .i64 0)), .d (.v (.int .i64 0)), .d (.v (.int .i64 0)), .d (.v (.int .i64 0)), .d (.v (.int .u64 0)), .d (.v (.int .u64 0)), .d (.v (.int .u64 0)), .d (.v (.int .u64 0)), .d (.v (.int .u64 0)), .d (.v (.int .i64 0)), .d (.v (.slice none 0 0)), .d (.v (.int .u64 0)), .d (.v (.int .i64 0)), .d (.v (.bool false))], none, 0⟩]
/-- coatcheck/coatcheckref04.Copy -/
def C1118 : CF := ⟨1, [(2, some (33, true))],
 .seq K1118_7 (.seq K1118_6 (.seq K1118_5 (.seq K1118_4 (.seq (.seq K1118_3 (.block 0 (.loop L1118_2))) K1118_1))))⟩
theorem c1118 : coF Tryz.prog Tryz.f7 = some C1118 := by kernel_rfl
def A1118 : Ann := { keep := [0, 1, 2, 3, 20], live := [(0, [1, 2, 3])] }
def E1118 {Ω : Type} : Env Ω := enil
theorem e1118 : GoodE Tryz.prog E1118 := GoodE.nil
end Go.Sx.Pr

/- The pure model: a worker's lists, taking and giving blocks, limbo buckets, whole operations. Plain Lean. -/
namespace Go.Sx.Pr
open Go Go.Sx Go.Sx.Md

/-! ### layer 4 -/
/-! ### layer 10 -/
/-! ### layer 9 -/
def beginT (x : Wk) : Wk := bif x.rack.length == 0 then { x with line := 10 } else { x with rack := x.rack.take (x.rack.length - 1), B := w64' (x.rack.getD (x.rack.length - 1) 0 + 1), line := 35 }
/-! ### layer 5 -/
/-! ### layer 13 -/
def overK (x : Wk) (e : Int) : Wk := { x with ret := e, line := 0 }
def bodyK (x : Wk) : Wk := bif x.kind == 4 then { x with line := 42 } else bif x.kind == 5 then { x with line := 46 } else bif x.kind == 6 then { x with line := 60 } else beginT x
structure KR where
  m : Mm
  x : Wk
  ok : Bool
end Go.Sx.Pr
