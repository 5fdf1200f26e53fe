/- Pieces of the code of functions, compiled for the symbolic interpreter, each checked against the program; no conditions. -/
import Derived.Test.YtaejdljgfmclpaaGreatSxCon3
import Derived.Test.YtaejdljgfmclpaaGreatQ2
import Derived.Test.YtaejdljgfmclpaaGreatSxCon3
import Derived.Test.YtaejdljgfmclpaaGreatQ39
import Derived.Test.YtaejdljgfmclpaaGreatQ39
import Derived.Test.YtaejdljgfmclpaaGreatQ2
import Derived.Test.YtaejdljgfmclpaaGreatRows
import Derived.KernelRfl
set_option linter.all false
set_option linter.unusedVariables false
set_option linter.unusedSimpArgs false
set_option linter.unnecessarySimpa false
namespace Go.Sx.Pr
open Go Go.Sx Go.Proofs
set_option maxRecDepth 100000
def K1083_1 : CC := .seq (.seq (.reg false [⟨some 9, .mv (.t 4), none, 0⟩,
   ⟨some 10, .eq .int false (.t 9) (.c (.d (.v (.int .i64 0)))), none, 0⟩])
 (.cond 10 (.seq (.reg false [⟨some 11, .ld 33 true (.t 1), none, 0⟩,
     ⟨none, .st 33 (.t 2) (.t 11), none, 0⟩,
     ⟨some 3, .mv (.c (.d (.v (.int .i64 (-1))))), none, 0⟩])
   (.ret))
   (.skip)))
 (.seq (.reg false [⟨some 12, .fa 10 (.t 1), none, 0⟩,
   ⟨some 13, .ld 1 false (.t 12), none, 0⟩,
   ⟨some 14, .mv (.t 4), none, 0⟩,
   ⟨some 15, .bin .sub (.t 14) (.c (.d (.v (.int .i64 1)))), none, 0⟩,
   ⟨some 16, .ixs 1 (.t 13) (.t 15), none, 0⟩,
   ⟨some 17, .ld 1 false (.t 16), none, 0⟩,
   ⟨some 5, .mv (.t 17), none, 0⟩])
 (.seq (.reg false [⟨some 18, .fa 10 (.t 1), none, 0⟩,
   ⟨some 19, .ld 1 false (.t 18), none, 0⟩,
   ⟨some 20, .mv (.t 4), none, 0⟩,
   ⟨some 21, .bin .sub (.t 20) (.c (.d (.v (.int .i64 1)))), none, 0⟩,
   ⟨some 22, .mv (.t 4), none, 0⟩,
   ⟨some 23, .bin .sub (.t 22) (.c (.d (.v (.int .i64 1)))), none, 0⟩,
   ⟨some 24, .slc 1 (.t 19) none (some (.t 21)) (some (.t 23)), none, 0⟩,
   ⟨some 25, .fa 10 (.t 1), none, 0⟩,
   ⟨none, .st 1 (.t 25) (.t 24), none, 0⟩])
 (.seq (.reg false [⟨some 26, .ld 33 true (.t 1), none, 0⟩,
   ⟨some 27, .mv (.t 5), none, 0⟩,
   ⟨none, .st 33 (.t 2) (.t 26), none, 0⟩,
   ⟨some 3, .mv (.t 27), none, 0⟩])
 (.ret))))
def K1083_2 : CC := .reg false [⟨some 6, .fa 10 (.t 1), none, 0⟩,
   ⟨some 7, .ld 1 false (.t 6), none, 0⟩,
   ⟨some 8, .len (.t 7), none, 0⟩,
   ⟨some 4, .mv (.t 8), none, 0⟩]
def K1083_3 : CC := .reg false [⟨some 1, .box 56 33 (.t 0), none, 0⟩,
   ⟨some 2, .newc 56 [.d (.v (.int .i64 0)), .d (.v (.int .i64 0)), .d (.v (.int .u64 0)), .d (.v (.int .u64 0)), .d (.v (.int .i64 0)), .d (.v (.bool false)), .d (.v (.int .i64 0)), .d (.v (.int .i64 0)), .d (.v (.bool false)), .d (.v (.int .u64 0)), .d (.v (.slice none 0 0)), .d (.v (.int .u64 0)), .d (.v (.slice none 0 0)), .d (.v (.int .u64 0)), .d (.v (.slice none 0 0)), .d (.v (.int .u64 0)), .d (.v (.slice none 0 0)), .d (.v (.slice none 0 0)), .d (.v (.int .i64 0)), .d (.v (.int .i64 0)), .d (.v (.int .i64 0)), .d (.v (.int .i64 0)), .d (.v (.int .i64 0)), .d (.v (.int .u64 0)), .d (.v (.int .u64 0)), .d (.v (.int .u64 0)), .d (.v (.int .u64 0)), .d (.v (.int .u64 0)), .d (.v (.int .i64 0)), .d (.v (.slice none 0 0)), .d (.v (.int .u64 0)), .d (.v (.int .i64 0)), .d (.v (.bool false))], none, 0⟩,
   ⟨some 3, .mv (.c (.d (.v (.int .i64 0)))), none, 0⟩]
/-- coatcheck/rack.Take -/
def C1083 : CF := ⟨1, [(2, some (33, true)), (3, none)],
 .seq K1083_3 (.seq K1083_2 K1083_1)⟩
theorem c1083 : coF Tryz.prog Tryz.f148 = some C1083 := by kernel_rfl
def A1083 : Ann := { keep := [0, 1, 2, 3, 4, 5, 10], live := [] }
def E1083 {Ω : Type} : Env Ω := enil
theorem e1083 : GoodE Tryz.prog E1083 := GoodE.nil
def S1083 {Ω : Type} : Spec Ω := inl E1083 A1083 C1083 false
theorem g1083 : Good1 Tryz.prog 148 S1083 := Good1.inl e1083 mix Tryz.func148 (by kernel_rfl) c1083 A1083 false
/-- coatcheck/take.Begin -/
def C1077 : CF := ⟨1, [(2, some (33, true))],
 .seq (.reg false [⟨some 1, .box 56 33 (.t 0), none, 0⟩,
   ⟨some 2, .newc 56 [.d (.v (.int .i64 0)), .d (.v (.int .i64 0)), .d (.v (.int .u64 0)), .d (.v (.int .u64 0)), .d (.v (.int .i64 0)), .d (.v (.bool false)), .d (.v (.int .i64 0)), .d (.v (.int .i64 0)), .d (.v (.bool false)), .d (.v (.int .u64 0)), .d (.v (.slice none 0 0)), .d (.v (.int .u64 0)), .d (.v (.slice none 0 0)), .d (.v (.int .u64 0)), .d (.v (.slice none 0 0)), .d (.v (.int .u64 0)), .d (.v (.slice none 0 0)), .d (.v (.slice none 0 0)), .d (.v (.int .i64 0)), .d (.v (.int .i64 0)), .d (.v (.int .i64 0)), .d (.v (.int .i64 0)), .d (.v (.int .i64 0)), .d (.v (.int .u64 0)), .d (.v (.int .u64 0)), .d (.v (.int .u64 0)), .d (.v (.int .u64 0)), .d (.v (.int .u64 0)), .d (.v (.int .i64 0)), .d (.v (.slice none 0 0)), .d (.v (.int .u64 0)), .d (.v (.int .i64 0)), .d (.v (.bool false))], none, 0⟩])
 (.seq (.seq (.reg false [⟨some 4, .fa 10 (.t 1), none, 0⟩,
   ⟨some 5, .ld 1 false (.t 4), none, 0⟩,
   ⟨some 6, .len (.t 5), none, 0⟩,
   ⟨some 7, .eq .int false (.t 6) (.c (.d (.v (.int .i64 0)))), none, 0⟩])
 (.cond 7 (.seq (.reg false [⟨some 8, .fa 0 (.t 1), none, 0⟩,
     ⟨none, .st 1 (.t 8) (.c (.d (.v (.int .i64 10)))), none, 0⟩])
   (.seq (.reg false [⟨some 9, .ld 33 true (.t 1), none, 0⟩,
     ⟨none, .st 33 (.t 2) (.t 9), none, 0⟩])
   (.ret)))
   (.skip)))
 (.seq (.reg false [⟨some 11, .ld 33 true (.t 1), none, 0⟩,
   ⟨some 12, .call (.c (.fn (.func 148) [] [])) [.t 11], none, 0⟩,
   ⟨some 10, .mv (.t 12), none, 0⟩,
   ⟨some 13, .ext 0 (.t 10), none, 0⟩,
   ⟨some 14, .ext 1 (.t 10), none, 0⟩,
   ⟨none, .st 33 (.t 1) (.t 13), none, 0⟩,
   ⟨some 3, .mv (.t 14), none, 0⟩])
 (.seq (.reg false [⟨some 15, .mv (.t 3), none, 0⟩,
   ⟨some 16, .bin .add (.t 15) (.c (.d (.v (.int .i64 1)))), none, 0⟩,
   ⟨some 17, .fa 18 (.t 1), none, 0⟩,
   ⟨none, .st 1 (.t 17) (.t 16), none, 0⟩,
   ⟨some 18, .fa 0 (.t 1), none, 0⟩,
   ⟨none, .st 1 (.t 18) (.c (.d (.v (.int .i64 35)))), none, 0⟩])
 (.seq (.reg false [⟨some 19, .ld 33 true (.t 1), none, 0⟩,
   ⟨none, .st 33 (.t 2) (.t 19), none, 0⟩])
 (.ret)))))⟩
theorem c1077 : coF Tryz.prog Tryz.f109 = some C1077 := by kernel_rfl
def A1077 : Ann := { keep := [0, 1, 2, 3, 7], live := [] }
def E1077 {Ω : Type} : Env Ω := econs 148 S1083 (enil)
theorem e1077 : GoodE Tryz.prog E1077 := GoodE.cons g1083 (GoodE.nil)
def S1077 {Ω : Type} : Spec Ω := inl E1077 A1077 C1077 false
theorem g1077 : Good1 Tryz.prog 109 S1077 := Good1.inl e1077 mix Tryz.func109 (by kernel_rfl) c1077 A1077 false
def K1074_1 : CC := .seq (.reg false [⟨some 6, .fa 17 (.t 1), none, 0⟩,
   ⟨some 7, .ld 1 false (.t 6), none, 0⟩,
   ⟨some 8, .len (.t 7), none, 0⟩,
   ⟨some 4, .mv (.t 8), none, 0⟩])
 (.seq (.seq (.reg false [⟨some 9, .mv (.t 4), none, 0⟩,
   ⟨some 10, .eq .int false (.t 9) (.c (.d (.v (.int .i64 0)))), none, 0⟩])
 (.cond 10 (.seq (.reg false [⟨some 11, .ld 33 true (.t 1), none, 0⟩,
     ⟨none, .st 33 (.t 2) (.t 11), none, 0⟩,
     ⟨some 3, .mv (.c (.d (.v (.int .i64 (-1))))), none, 0⟩])
   (.ret))
   (.skip)))
 (.seq (.reg false [⟨some 12, .fa 17 (.t 1), none, 0⟩,
   ⟨some 13, .ld 1 false (.t 12), none, 0⟩,
   ⟨some 14, .ixs 1 (.t 13) (.c (.d (.v (.int .i64 0)))), none, 0⟩,
   ⟨some 15, .ld 1 false (.t 14), none, 0⟩,
   ⟨some 5, .mv (.t 15), none, 0⟩])
 (.seq (.reg false [⟨some 16, .fa 17 (.t 1), none, 0⟩,
   ⟨some 17, .ld 1 false (.t 16), none, 0⟩,
   ⟨some 18, .mv (.t 4), none, 0⟩,
   ⟨some 19, .mv (.t 4), none, 0⟩,
   ⟨some 20, .slc 1 (.t 17) (some (.c (.d (.v (.int .i64 1))))) (some (.t 18)) (some (.t 19)), none, 0⟩,
   ⟨some 21, .fa 17 (.t 1), none, 0⟩,
   ⟨none, .st 1 (.t 21) (.t 20), none, 0⟩])
 (.seq (.reg false [⟨some 22, .ld 33 true (.t 1), none, 0⟩,
   ⟨some 23, .mv (.t 5), none, 0⟩,
   ⟨none, .st 33 (.t 2) (.t 22), none, 0⟩,
   ⟨some 3, .mv (.t 23), none, 0⟩])
 (.ret)))))
def K1074_2 : CC := .reg false [⟨some 1, .box 56 33 (.t 0), none, 0⟩,
   ⟨some 2, .newc 56 [.d (.v (.int .i64 0)), .d (.v (.int .i64 0)), .d (.v (.int .u64 0)), .d (.v (.int .u64 0)), .d (.v (.int .i64 0)), .d (.v (.bool false)), .d (.v (.int .i64 0)), .d (.v (.int .i64 0)), .d (.v (.bool false)), .d (.v (.int .u64 0)), .d (.v (.slice none 0 0)), .d (.v (.int .u64 0)), .d (.v (.slice none 0 0)), .d (.v (.int .u64 0)), .d (.v (.slice none 0 0)), .d (.v (.int .u64 0)), .d (.v (.slice none 0 0)), .d (.v (.slice none 0 0)), .d (.v (.int .i64 0)), .d (.v (.int .i64 0)), .d (.v (.int .i64 0)), .d (.v (.int .i64 0)), .d (.v (.int .i64 0)), .d (.v (.int .u64 0)), .d (.v (.int .u64 0)), .d (.v (.int .u64 0)), .d (.v (.int .u64 0)), .d (.v (.int .u64 0)), .d (.v (.int .i64 0)), .d (.v (.slice none 0 0)), .d (.v (.int .u64 0)), .d (.v (.int .i64 0)), .d (.v (.bool false))], none, 0⟩,
   ⟨some 3, .mv (.c (.d (.v (.int .i64 0)))), none, 0⟩]
/-- coatcheck/rack.Next -/
def C1074 : CF := ⟨1, [(2, some (33, true)), (3, none)],
 .seq K1074_2 K1074_1⟩
theorem c1074 : coF Tryz.prog Tryz.f149 = some C1074 := by kernel_rfl
def A1074 : Ann := { keep := [0, 1, 2, 3, 4, 5, 10], live := [] }
def E1074 {Ω : Type} : Env Ω := enil
theorem e1074 : GoodE Tryz.prog E1074 := GoodE.nil
def S1074 {Ω : Type} : Spec Ω := inl E1074 A1074 C1074 false
theorem g1074 : Good1 Tryz.prog 149 S1074 := Good1.inl e1074 mix Tryz.func149 (by kernel_rfl) c1074 A1074 false
def K1038_1 : CC := .seq (.seq (.reg false [⟨some 5, .fa 17 (.t 1), none, 0⟩,
   ⟨some 6, .ld 1 false (.t 5), none, 0⟩,
   ⟨some 7, .len (.t 6), none, 0⟩,
   ⟨some 8, .eq .int false (.t 7) (.c (.d (.v (.int .i64 0)))), none, 0⟩])
 (.cond 8 (.seq (.reg false [⟨some 9, .fa 0 (.t 1), none, 0⟩,
     ⟨none, .st 1 (.t 9) (.c (.d (.v (.int .i64 0)))), none, 0⟩])
   (.seq (.reg false [⟨some 10, .ld 33 true (.t 1), none, 0⟩,
     ⟨none, .st 33 (.t 2) (.t 10), none, 0⟩,
     ⟨some 3, .mv (.c (.d (.v (.int .i64 1)))), none, 0⟩])
   (.ret)))
   (.skip)))
 (.seq (.reg false [⟨some 12, .ld 33 true (.t 1), none, 0⟩,
   ⟨some 13, .call (.c (.fn (.func 149) [] [])) [.t 12], none, 0⟩,
   ⟨some 11, .mv (.t 13), none, 0⟩,
   ⟨some 14, .ext 0 (.t 11), none, 0⟩,
   ⟨some 15, .ext 1 (.t 11), none, 0⟩,
   ⟨none, .st 33 (.t 1) (.t 14), none, 0⟩,
   ⟨some 4, .mv (.t 15), none, 0⟩])
 (.seq (.reg false [⟨some 16, .mv (.t 4), none, 0⟩,
   ⟨some 17, .bin .add (.t 16) (.c (.d (.v (.int .i64 1)))), none, 0⟩,
   ⟨some 18, .fa 19 (.t 1), none, 0⟩,
   ⟨none, .st 1 (.t 18) (.t 17), none, 0⟩,
   ⟨some 19, .fa 0 (.t 1), none, 0⟩,
   ⟨none, .st 1 (.t 19) (.c (.d (.v (.int .i64 39)))), none, 0⟩])
 (.seq (.reg false [⟨some 20, .ld 33 true (.t 1), none, 0⟩,
   ⟨none, .st 33 (.t 2) (.t 20), none, 0⟩,
   ⟨some 3, .mv (.c (.d (.v (.int .i64 0)))), none, 0⟩])
 (.ret))))
def K1038_2 : CC := .reg false [⟨some 1, .box 56 33 (.t 0), none, 0⟩,
   ⟨some 2, .newc 56 [.d (.v (.int .i64 0)), .d (.v (.int .i64 0)), .d (.v (.int .u64 0)), .d (.v (.int .u64 0)), .d (.v (.int .i64 0)), .d (.v (.bool false)), .d (.v (.int .i64 0)), .d (.v (.int .i64 0)), .d (.v (.bool false)), .d (.v (.int .u64 0)), .d (.v (.slice none 0 0)), .d (.v (.int .u64 0)), .d (.v (.slice none 0 0)), .d (.v (.int .u64 0)), .d (.v (.slice none 0 0)), .d (.v (.int .u64 0)), .d (.v (.slice none 0 0)), .d (.v (.slice none 0 0)), .d (.v (.int .i64 0)), .d (.v (.int .i64 0)), .d (.v (.int .i64 0)), .d (.v (.int .i64 0)), .d (.v (.int .i64 0)), .d (.v (.int .u64 0)), .d (.v (.int .u64 0)), .d (.v (.int .u64 0)), .d (.v (.int .u64 0)), .d (.v (.int .u64 0)), .d (.v (.int .i64 0)), .d (.v (.slice none 0 0)), .d (.v (.int .u64 0)), .d (.v (.int .i64 0)), .d (.v (.bool false))], none, 0⟩,
   ⟨some 3, .mv (.c (.d (.v (.int .i64 0)))), none, 0⟩]
/-- coatcheck/give.Begin -/
def C1038 : CF := ⟨1, [(2, some (33, true)), (3, none)],
 .seq K1038_2 K1038_1⟩
theorem c1038 : coF Tryz.prog Tryz.f110 = some C1038 := by kernel_rfl
def A1038 : Ann := { keep := [0, 1, 2, 3, 4, 8], live := [] }
def E1038 {Ω : Type} : Env Ω := econs 149 S1074 (enil)
theorem e1038 : GoodE Tryz.prog E1038 := GoodE.cons g1074 (GoodE.nil)
def S1038 {Ω : Type} : Spec Ω := inl E1038 A1038 C1038 false
theorem g1038 : Good1 Tryz.prog 110 S1038 := Good1.inl e1038 mix Tryz.func110 (by kernel_rfl) c1038 A1038 false
/-- slices.Clone[[]int,int] -/
def C1076 : CF := ⟨1, [(2, none)],
 .seq (.reg false [⟨some 2, .mv (.c (.d (.v (.slice none 0 0)))), none, 0⟩])
 (.seq (.seq (.reg false [⟨some 3, .mv (.t 0), none, 0⟩,
   ⟨some 4, .eq .slc false (.t 3) (.c (.d (.v (.slice none 0 0)))), none, 0⟩])
 (.cond 4 (.seq (.reg false [⟨some 2, .mv (.c (.d (.v (.slice none 0 0)))), none, 0⟩])
   (.ret))
   (.skip)))
 (.seq (.reg false [⟨some 5, .bsl 3 1 0 [.d (.v (.int .i64 0))] [], none, 0⟩,
   ⟨some 6, .mv (.t 0), none, 0⟩,
   ⟨some 7, .app 3 1 8 (some .i64) (.t 5) (.t 6), none, 0⟩,
   ⟨some 2, .mv (.t 7), none, 0⟩])
 (.ret)))⟩
theorem c1076 : coF Tryz.prog Tryz.f63 = some C1076 := by kernel_rfl
def A1076 : Ann := { keep := [0, 2, 4], live := [] }
def E1076 {Ω : Type} : Env Ω := enil
theorem e1076 : GoodE Tryz.prog E1076 := GoodE.nil
def S1076 {Ω : Type} : Spec Ω := inl E1076 A1076 C1076 false
theorem g1076 : Good1 Tryz.prog 63 S1076 := Good1.inl e1076 mix Tryz.func63 (by kernel_rfl) c1076 A1076 false
/-- coatcheck/rack.Put -/
def C1075 : CF := ⟨3, [(6, some (33, true)), (7, none)],
 .seq (.reg false [⟨some 3, .box 24 8 (.t 0), none, 0⟩,
   ⟨some 4, .box 56 33 (.t 1), none, 0⟩,
   ⟨some 6, .newc 56 [.d (.v (.int .i64 0)), .d (.v (.int .i64 0)), .d (.v (.int .u64 0)), .d (.v (.int .u64 0)), .d (.v (.int .i64 0)), .d (.v (.bool false)), .d (.v (.int .i64 0)), .d (.v (.int .i64 0)), .d (.v (.bool false)), .d (.v (.int .u64 0)), .d (.v (.slice none 0 0)), .d (.v (.int .u64 0)), .d (.v (.slice none 0 0)), .d (.v (.int .u64 0)), .d (.v (.slice none 0 0)), .d (.v (.int .u64 0)), .d (.v (.slice none 0 0)), .d (.v (.slice none 0 0)), .d (.v (.int .i64 0)), .d (.v (.int .i64 0)), .d (.v (.int .i64 0)), .d (.v (.int .i64 0)), .d (.v (.int .i64 0)), .d (.v (.int .u64 0)), .d (.v (.int .u64 0)), .d (.v (.int .u64 0)), .d (.v (.int .u64 0)), .d (.v (.int .u64 0)), .d (.v (.int .i64 0)), .d (.v (.slice none 0 0)), .d (.v (.int .u64 0)), .d (.v (.int .i64 0)), .d (.v (.bool false))], none, 0⟩,
   ⟨some 7, .mv (.c (.d (.v (.bool false)))), none, 0⟩])
 (.seq (.seq (.reg false [⟨some 8, .fa 10 (.t 4), none, 0⟩,
   ⟨some 9, .ld 1 false (.t 8), none, 0⟩,
   ⟨some 10, .len (.t 9), none, 0⟩,
   ⟨some 11, .fa 5 (.t 3), none, 0⟩,
   ⟨some 12, .ld 1 false (.t 11), none, 0⟩,
   ⟨some 13, .bin .geq (.t 10) (.t 12), none, 0⟩])
 (.cond 13 (.seq (.reg false [⟨some 14, .ld 33 true (.t 4), none, 0⟩,
     ⟨none, .st 33 (.t 6) (.t 14), none, 0⟩,
     ⟨some 7, .mv (.c (.d (.v (.bool false)))), none, 0⟩])
   (.ret))
   (.skip)))
 (.seq (.reg false [⟨some 15, .fa 10 (.t 4), none, 0⟩,
   ⟨some 16, .ld 1 false (.t 15), none, 0⟩,
   ⟨some 17, .call (.c (.fn (.func 63) [] [])) [.t 16], none, 0⟩,
   ⟨some 18, .mv (.t 2), none, 0⟩,
   ⟨some 19, .bsl 3 1 1 [.d (.v (.int .i64 0))] [(0, 1, .t 18)], none, 0⟩,
   ⟨some 20, .app 3 1 8 (some .i64) (.t 17) (.t 19), none, 0⟩,
   ⟨some 21, .fa 10 (.t 4), none, 0⟩,
   ⟨none, .st 1 (.t 21) (.t 20), none, 0⟩])
 (.seq (.reg false [⟨some 22, .ld 33 true (.t 4), none, 0⟩,
   ⟨none, .st 33 (.t 6) (.t 22), none, 0⟩,
   ⟨some 7, .mv (.c (.d (.v (.bool true)))), none, 0⟩])
 (.ret))))⟩
theorem c1075 : coF Tryz.prog Tryz.f134 = some C1075 := by kernel_rfl
def A1075 : Ann := { keep := [0, 1, 2, 3, 4, 6, 7, 13], live := [] }
def E1075 {Ω : Type} : Env Ω := econs 63 S1076 (enil)
theorem e1075 : GoodE Tryz.prog E1075 := GoodE.cons g1076 (GoodE.nil)
def S1075 {Ω : Type} : Spec Ω := inl E1075 A1075 C1075 false
theorem g1075 : Good1 Tryz.prog 134 S1075 := Good1.inl e1075 mix Tryz.func134 (by kernel_rfl) c1075 A1075 false
def K1112_1 : CC := .seq (.reg false [⟨some 35, .mv (.t 6), none, 0⟩,
   ⟨some 2, .mv (.t 35), none, 0⟩])
 (.ret)
def L1112_2 : CC := .seq (.reg false [⟨some 28, .bin .lss (.t 27) (.t 26), none, 0⟩])
 (.seq (.cond 28 (.skip)
   (.exit 2))
 (.seq (.block 3 (.seq (.reg false [⟨some 29, .ixs 1 (.t 25) (.t 27), none, 0⟩,
     ⟨some 30, .ld 1 false (.t 29), none, 0⟩,
     ⟨some 8, .mv (.t 30), none, 0⟩])
   (.reg false [⟨some 31, .mv (.t 6), none, 0⟩,
     ⟨some 32, .mv (.t 8), none, 0⟩,
     ⟨some 33, .app 3 1 8 (some .i64) (.t 31) (.t 32), none, 0⟩,
     ⟨some 6, .mv (.t 33), none, 0⟩])))
 (.reg false [⟨some 34, .bin .add (.t 27) (.c (.d (.v (.int .i64 1)))), none, 0⟩,
   ⟨some 27, .mv (.t 34), none, 0⟩])))
def K1112_3 : CC := .reg false [⟨some 25, .mv (.t 0), none, 0⟩,
   ⟨some 26, .len (.t 25), none, 0⟩,
   ⟨some 27, .mv (.c (.d (.v (.int .i64 0)))), none, 0⟩]
def K1112_4 : CC := .reg false [⟨some 23, .mv (.t 3), none, 0⟩,
   ⟨some 24, .call (.c (.fn (.func 164) [] [])) [.c (.d (.v (.slice none 0 0))), .t 23], none, 0⟩,
   ⟨some 6, .mv (.t 24), none, 0⟩]
def L1112_5 : CC := .seq (.reg false [⟨some 12, .bin .lss (.t 11) (.t 10), none, 0⟩])
 (.seq (.cond 12 (.skip)
   (.exit 0))
 (.seq (.block 1 (.seq (.reg false [⟨some 13, .ixs 1 (.t 9) (.t 11), none, 0⟩,
     ⟨some 14, .ld 1 false (.t 13), none, 0⟩,
     ⟨some 5, .mv (.t 14), none, 0⟩])
   (.seq (.reg false [⟨some 15, .mv (.t 3), none, 0⟩,
     ⟨some 16, .mv (.t 5), none, 0⟩,
     ⟨some 17, .len (.t 16), none, 0⟩,
     ⟨some 18, .bin .add (.t 15) (.t 17), none, 0⟩,
     ⟨some 3, .mv (.t 18), none, 0⟩])
   (.seq (.reg false [⟨some 19, .mv (.t 3), none, 0⟩,
     ⟨some 20, .bin .lss (.t 19) (.c (.d (.v (.int .i64 0)))), none, 0⟩])
   (.cond 20 (.reg false [⟨some 21, .bad, none, 0⟩,
       ⟨none, .bad, none, 0⟩])
     (.skip))))))
 (.reg false [⟨some 22, .bin .add (.t 11) (.c (.d (.v (.int .i64 1)))), none, 0⟩,
   ⟨some 11, .mv (.t 22), none, 0⟩])))
def K1112_6 : CC := .reg false [⟨some 9, .mv (.t 0), none, 0⟩,
   ⟨some 10, .len (.t 9), none, 0⟩,
   ⟨some 11, .mv (.c (.d (.v (.int .i64 0)))), none, 0⟩]
def K1112_7 : CC := .reg false [⟨some 3, .mv (.c (.d (.v (.int .i64 0)))), none, 0⟩]
def K1112_8 : CC := .reg false [⟨some 2, .mv (.c (.d (.v (.slice none 0 0)))), none, 0⟩]
/-- slices.Concat[[]int,int] -/
def C1112 : CF := ⟨1, [(2, none)],
 .seq K1112_8 (.seq K1112_7 (.seq (.seq K1112_6 (.block 0 (.loop L1112_5))) (.seq K1112_4 (.seq (.seq K1112_3 (.block 2 (.loop L1112_2))) K1112_1))))⟩
theorem c1112 : coF Tryz.prog Tryz.f150 = some C1112 := by kernel_rfl
def A1112 : Ann := { keep := [0, 2, 3, 5, 6, 8, 9, 10, 11, 12, 20, 25, 26, 27, 28], live := [(0, [0, 3, 9, 10, 11]), (2, [6, 25, 26, 27])] }
def E1112 {Ω : Type} : Env Ω := econs 164 S1114 (enil)
theorem e1112 : GoodE Tryz.prog E1112 := GoodE.cons g1114 (GoodE.nil)
def S1112 {Ω : Type} : Spec Ω := inl E1112 A1112 C1112 false
theorem g1112 : Good1 Tryz.prog 150 S1112 := Good1.inl e1112 mix Tryz.func150 (by kernel_rfl) c1112 A1112 false
/-- coatcheck/rack.Hold -/
def C1105 : CF := ⟨2, [(4, some (33, true))],
 .seq (.reg false [⟨some 2, .box 56 33 (.t 0), none, 0⟩,
   ⟨some 4, .newc 56 [.d (.v (.int .i64 0)), .d (.v (.int .i64 0)), .d (.v (.int .u64 0)), .d (.v (.int .u64 0)), .d (.v (.int .i64 0)), .d (.v (.bool false)), .d (.v (.int .i64 0)), .d (.v (.int .i64 0)), .d (.v (.bool false)), .d (.v (.int .u64 0)), .d (.v (.slice none 0 0)), .d (.v (.int .u64 0)), .d (.v (.slice none 0 0)), .d (.v (.int .u64 0)), .d (.v (.slice none 0 0)), .d (.v (.int .u64 0)), .d (.v (.slice none 0 0)), .d (.v (.slice none 0 0)), .d (.v (.int .i64 0)), .d (.v (.int .i64 0)), .d (.v (.int .i64 0)), .d (.v (.int .i64 0)), .d (.v (.int .i64 0)), .d (.v (.int .u64 0)), .d (.v (.int .u64 0)), .d (.v (.int .u64 0)), .d (.v (.int .u64 0)), .d (.v (.int .u64 0)), .d (.v (.int .i64 0)), .d (.v (.slice none 0 0)), .d (.v (.int .u64 0)), .d (.v (.int .i64 0)), .d (.v (.bool false))], none, 0⟩])
 (.seq (.seq (.reg false [⟨some 5, .mv (.t 1), none, 0⟩,
   ⟨some 6, .len (.t 5), none, 0⟩,
   ⟨some 7, .bin .gtr (.t 6) (.c (.d (.v (.int .i64 0)))), none, 0⟩])
 (.cond 7 (.reg false [⟨some 8, .fa 17 (.t 2), none, 0⟩,
     ⟨some 9, .ld 1 false (.t 8), none, 0⟩,
     ⟨some 10, .mv (.t 1), none, 0⟩,
     ⟨some 11, .bsl 26 1 2 [.d (.v (.slice none 0 0))] [(0, 1, .t 9), (1, 1, .t 10)], none, 0⟩,
     ⟨some 12, .call (.c (.fn (.func 150) [] [])) [.t 11], none, 0⟩,
     ⟨some 13, .fa 17 (.t 2), none, 0⟩,
     ⟨none, .st 1 (.t 13) (.t 12), none, 0⟩])
   (.skip)))
 (.seq (.reg false [⟨some 14, .ld 33 true (.t 2), none, 0⟩,
   ⟨none, .st 33 (.t 4) (.t 14), none, 0⟩])
 (.ret)))⟩
theorem c1105 : coF Tryz.prog Tryz.f111 = some C1105 := by kernel_rfl
def A1105 : Ann := { keep := [0, 1, 2, 4, 7], live := [] }
def E1105 {Ω : Type} : Env Ω := econs 150 S1112 (enil)
theorem e1105 : GoodE Tryz.prog E1105 := GoodE.cons g1112 (GoodE.nil)
def S1105 {Ω : Type} : Spec Ω := inl E1105 A1105 C1105 false
theorem g1105 : Good1 Tryz.prog 111 S1105 := Good1.inl e1105 mix Tryz.func111 (by kernel_rfl) c1105 A1105 false
def K1141_1 : CC := .seq (.reg false [⟨some 35, .mv (.t 6), none, 0⟩,
   ⟨some 2, .mv (.t 35), none, 0⟩])
 (.ret)
def L1141_2 : CC := .seq (.reg false [⟨some 28, .bin .lss (.t 27) (.t 26), none, 0⟩])
 (.seq (.cond 28 (.skip)
   (.exit 2))
 (.seq (.block 3 (.seq (.reg false [⟨some 29, .ixs 1 (.t 25) (.t 27), none, 0⟩,
     ⟨some 30, .ld 1 false (.t 29), none, 0⟩,
     ⟨some 8, .mv (.t 30), none, 0⟩])
   (.reg false [⟨some 31, .mv (.t 6), none, 0⟩,
     ⟨some 32, .mv (.t 8), none, 0⟩,
     ⟨some 33, .app 22 1 8 (some .u64) (.t 31) (.t 32), none, 0⟩,
     ⟨some 6, .mv (.t 33), none, 0⟩])))
 (.reg false [⟨some 34, .bin .add (.t 27) (.c (.d (.v (.int .i64 1)))), none, 0⟩,
   ⟨some 27, .mv (.t 34), none, 0⟩])))
def K1141_3 : CC := .reg false [⟨some 25, .mv (.t 0), none, 0⟩,
   ⟨some 26, .len (.t 25), none, 0⟩,
   ⟨some 27, .mv (.c (.d (.v (.int .i64 0)))), none, 0⟩]
def K1141_4 : CC := .reg false [⟨some 23, .mv (.t 3), none, 0⟩,
   ⟨some 24, .call (.c (.fn (.func 114) [] [])) [.c (.d (.v (.slice none 0 0))), .t 23], none, 0⟩,
   ⟨some 6, .mv (.t 24), none, 0⟩]
def L1141_5 : CC := .seq (.reg false [⟨some 12, .bin .lss (.t 11) (.t 10), none, 0⟩])
 (.seq (.cond 12 (.skip)
   (.exit 0))
 (.seq (.block 1 (.seq (.reg false [⟨some 13, .ixs 1 (.t 9) (.t 11), none, 0⟩,
     ⟨some 14, .ld 1 false (.t 13), none, 0⟩,
     ⟨some 5, .mv (.t 14), none, 0⟩])
   (.seq (.reg false [⟨some 15, .mv (.t 3), none, 0⟩,
     ⟨some 16, .mv (.t 5), none, 0⟩,
     ⟨some 17, .len (.t 16), none, 0⟩,
     ⟨some 18, .bin .add (.t 15) (.t 17), none, 0⟩,
     ⟨some 3, .mv (.t 18), none, 0⟩])
   (.seq (.reg false [⟨some 19, .mv (.t 3), none, 0⟩,
     ⟨some 20, .bin .lss (.t 19) (.c (.d (.v (.int .i64 0)))), none, 0⟩])
   (.cond 20 (.reg false [⟨some 21, .bad, none, 0⟩,
       ⟨none, .bad, none, 0⟩])
     (.skip))))))
 (.reg false [⟨some 22, .bin .add (.t 11) (.c (.d (.v (.int .i64 1)))), none, 0⟩,
   ⟨some 11, .mv (.t 22), none, 0⟩])))
def K1141_6 : CC := .reg false [⟨some 9, .mv (.t 0), none, 0⟩,
   ⟨some 10, .len (.t 9), none, 0⟩,
   ⟨some 11, .mv (.c (.d (.v (.int .i64 0)))), none, 0⟩]
def K1141_7 : CC := .reg false [⟨some 3, .mv (.c (.d (.v (.int .i64 0)))), none, 0⟩]
def K1141_8 : CC := .reg false [⟨some 2, .mv (.c (.d (.v (.slice none 0 0)))), none, 0⟩]
/-- slices.Concat[[]uint64,uint64] -/
def C1141 : CF := ⟨1, [(2, none)],
 .seq K1141_8 (.seq K1141_7 (.seq (.seq K1141_6 (.block 0 (.loop L1141_5))) (.seq K1141_4 (.seq (.seq K1141_3 (.block 2 (.loop L1141_2))) K1141_1))))⟩
theorem c1141 : coF Tryz.prog Tryz.f83 = some C1141 := by kernel_rfl
def A1141 : Ann := { keep := [0, 2, 3, 5, 6, 8, 9, 10, 11, 12, 20, 25, 26, 27, 28], live := [(0, [0, 3, 9, 10, 11]), (2, [6, 25, 26, 27])] }
def E1141 {Ω : Type} : Env Ω := econs 114 S1158 (enil)
theorem e1141 : GoodE Tryz.prog E1141 := GoodE.cons g1158 (GoodE.nil)
def S1141 {Ω : Type} : Spec Ω := inl E1141 A1141 C1141 false
theorem g1141 : Good1 Tryz.prog 83 S1141 := Good1.inl e1141 mix Tryz.func83 (by kernel_rfl) c1141 A1141 false
/-- coatcheck/take.popped -/
def C1087 : CF := ⟨2, [(4, some (33, true)), (5, none)],
 .seq (.reg false [⟨some 3, .box 56 33 (.t 1), none, 0⟩,
   ⟨some 4, .newc 56 [.d (.v (.int .i64 0)), .d (.v (.int .i64 0)), .d (.v (.int .u64 0)), .d (.v (.int .u64 0)), .d (.v (.int .i64 0)), .d (.v (.bool false)), .d (.v (.int .i64 0)), .d (.v (.int .i64 0)), .d (.v (.bool false)), .d (.v (.int .u64 0)), .d (.v (.slice none 0 0)), .d (.v (.int .u64 0)), .d (.v (.slice none 0 0)), .d (.v (.int .u64 0)), .d (.v (.slice none 0 0)), .d (.v (.int .u64 0)), .d (.v (.slice none 0 0)), .d (.v (.slice none 0 0)), .d (.v (.int .i64 0)), .d (.v (.int .i64 0)), .d (.v (.int .i64 0)), .d (.v (.int .i64 0)), .d (.v (.int .i64 0)), .d (.v (.int .u64 0)), .d (.v (.int .u64 0)), .d (.v (.int .u64 0)), .d (.v (.int .u64 0)), .d (.v (.int .u64 0)), .d (.v (.int .i64 0)), .d (.v (.slice none 0 0)), .d (.v (.int .u64 0)), .d (.v (.int .i64 0)), .d (.v (.bool false))], none, 0⟩,
   ⟨some 5, .mv (.c (.d (.v (.int .i64 0)))), none, 0⟩])
 (.seq (.reg false [⟨some 6, .fa 23 (.t 3), none, 0⟩,
   ⟨some 7, .ld 1 false (.t 6), none, 0⟩,
   ⟨some 8, .conv .i64 (.t 7), none, 0⟩,
   ⟨some 9, .fa 18 (.t 3), none, 0⟩,
   ⟨none, .st 1 (.t 9) (.t 8), none, 0⟩,
   ⟨some 10, .fa 0 (.t 3), none, 0⟩,
   ⟨none, .st 1 (.t 10) (.c (.d (.v (.int .i64 35)))), none, 0⟩])
 (.seq (.reg false [⟨some 11, .ld 33 true (.t 3), none, 0⟩,
   ⟨none, .st 33 (.t 4) (.t 11), none, 0⟩,
   ⟨some 5, .mv (.c (.d (.v (.int .i64 0)))), none, 0⟩])
 (.ret)))⟩
theorem c1087 : coF Tryz.prog Tryz.f156 = some C1087 := by kernel_rfl
def A1087 : Ann := { keep := [1, 3, 4, 5], live := [] }
def E1087 {Ω : Type} : Env Ω := enil
theorem e1087 : GoodE Tryz.prog E1087 := GoodE.nil
def S1087 {Ω : Type} : Spec Ω := inl E1087 A1087 C1087 false
theorem g1087 : Good1 Tryz.prog 156 S1087 := Good1.inl e1087 mix Tryz.func156 (by kernel_rfl) c1087 A1087 false
/-- coatcheck/take.dry -/
def C1088 : CF := ⟨2, [(4, some (33, true)), (5, none)],
 .seq (.reg false [⟨some 3, .box 56 33 (.t 1), none, 0⟩,
   ⟨some 4, .newc 56 [.d (.v (.int .i64 0)), .d (.v (.int .i64 0)), .d (.v (.int .u64 0)), .d (.v (.int .u64 0)), .d (.v (.int .i64 0)), .d (.v (.bool false)), .d (.v (.int .i64 0)), .d (.v (.int .i64 0)), .d (.v (.bool false)), .d (.v (.int .u64 0)), .d (.v (.slice none 0 0)), .d (.v (.int .u64 0)), .d (.v (.slice none 0 0)), .d (.v (.int .u64 0)), .d (.v (.slice none 0 0)), .d (.v (.int .u64 0)), .d (.v (.slice none 0 0)), .d (.v (.slice none 0 0)), .d (.v (.int .i64 0)), .d (.v (.int .i64 0)), .d (.v (.int .i64 0)), .d (.v (.int .i64 0)), .d (.v (.int .i64 0)), .d (.v (.int .u64 0)), .d (.v (.int .u64 0)), .d (.v (.int .u64 0)), .d (.v (.int .u64 0)), .d (.v (.int .u64 0)), .d (.v (.int .i64 0)), .d (.v (.slice none 0 0)), .d (.v (.int .u64 0)), .d (.v (.int .i64 0)), .d (.v (.bool false))], none, 0⟩,
   ⟨some 5, .mv (.c (.d (.v (.int .i64 0)))), none, 0⟩])
 (.seq (.reg false [⟨some 7, .fa 25 (.t 3), none, 0⟩,
   ⟨some 8, .ld 1 false (.t 7), none, 0⟩,
   ⟨some 9, .call (.c (.fn (.func 165) [] [])) [.t 8], none, 0⟩,
   ⟨some 6, .mv (.t 9), none, 0⟩,
   ⟨some 10, .ext 0 (.t 6), none, 0⟩,
   ⟨some 11, .ext 1 (.t 6), none, 0⟩,
   ⟨some 12, .fa 26 (.t 3), none, 0⟩,
   ⟨none, .st 1 (.t 12) (.t 11), none, 0⟩])
 (.seq (.reg false [⟨some 13, .fa 28 (.t 3), none, 0⟩,
   ⟨none, .st 1 (.t 13) (.c (.d (.v (.int .i64 0)))), none, 0⟩,
   ⟨some 14, .fa 0 (.t 3), none, 0⟩,
   ⟨none, .st 1 (.t 14) (.c (.d (.v (.int .i64 33)))), none, 0⟩])
 (.seq (.reg false [⟨some 15, .ld 33 true (.t 3), none, 0⟩,
   ⟨none, .st 33 (.t 4) (.t 15), none, 0⟩,
   ⟨some 5, .mv (.c (.d (.v (.int .i64 0)))), none, 0⟩])
 (.ret))))⟩
theorem c1088 : coF Tryz.prog Tryz.f157 = some C1088 := by kernel_rfl
def A1088 : Ann := { keep := [1, 3, 4, 5], live := [] }
def E1088 {Ω : Type} : Env Ω := econs 165 S118c (enil)
theorem e1088 : GoodE Tryz.prog E1088 := GoodE.cons g118c (GoodE.nil)
def S1088 {Ω : Type} : Spec Ω := inl E1088 A1088 C1088 false
theorem g1088 : Good1 Tryz.prog 157 S1088 := Good1.inl e1088 mix Tryz.func157 (by kernel_rfl) c1088 A1088 false
/-- coatcheck/take.again -/
def C1089 : CF := ⟨2, [(4, some (33, true)), (5, none)],
 .seq (.reg false [⟨some 3, .box 56 33 (.t 1), none, 0⟩,
   ⟨some 4, .newc 56 [.d (.v (.int .i64 0)), .d (.v (.int .i64 0)), .d (.v (.int .u64 0)), .d (.v (.int .u64 0)), .d (.v (.int .i64 0)), .d (.v (.bool false)), .d (.v (.int .i64 0)), .d (.v (.int .i64 0)), .d (.v (.bool false)), .d (.v (.int .u64 0)), .d (.v (.slice none 0 0)), .d (.v (.int .u64 0)), .d (.v (.slice none 0 0)), .d (.v (.int .u64 0)), .d (.v (.slice none 0 0)), .d (.v (.int .u64 0)), .d (.v (.slice none 0 0)), .d (.v (.slice none 0 0)), .d (.v (.int .i64 0)), .d (.v (.int .i64 0)), .d (.v (.int .i64 0)), .d (.v (.int .i64 0)), .d (.v (.int .i64 0)), .d (.v (.int .u64 0)), .d (.v (.int .u64 0)), .d (.v (.int .u64 0)), .d (.v (.int .u64 0)), .d (.v (.int .u64 0)), .d (.v (.int .i64 0)), .d (.v (.slice none 0 0)), .d (.v (.int .u64 0)), .d (.v (.int .i64 0)), .d (.v (.bool false))], none, 0⟩,
   ⟨some 5, .mv (.c (.d (.v (.int .i64 0)))), none, 0⟩])
 (.seq (.reg false [⟨some 6, .ld 33 true (.t 3), none, 0⟩,
   ⟨some 7, .call (.c (.fn (.func 109) [] [])) [.t 6], none, 0⟩,
   ⟨none, .st 33 (.t 4) (.t 7), none, 0⟩,
   ⟨some 5, .mv (.c (.d (.v (.int .i64 0)))), none, 0⟩])
 (.ret))⟩
theorem c1089 : coF Tryz.prog Tryz.f158 = some C1089 := by kernel_rfl
def A1089 : Ann := { keep := [1, 3, 4, 5], live := [] }
def E1089 {Ω : Type} : Env Ω := econs 109 S1077 (enil)
theorem e1089 : GoodE Tryz.prog E1089 := GoodE.cons g1077 (GoodE.nil)
def S1089 {Ω : Type} : Spec Ω := inl E1089 A1089 C1089 false
theorem g1089 : Good1 Tryz.prog 158 S1089 := Good1.inl e1089 mix Tryz.func158 (by kernel_rfl) c1089 A1089 false
def K1090_1 : CC := .seq (.reg false [⟨some 36, .ld 33 true (.t 3), none, 0⟩,
   ⟨none, .st 33 (.t 4) (.t 36), none, 0⟩,
   ⟨some 5, .mv (.c (.d (.v (.int .i64 1)))), none, 0⟩])
 (.ret)
def L1090_2 : CC := .seq (.seq (.reg false [⟨some 20, .mv (.t 7), none, 0⟩,
   ⟨some 21, .mv (.t 0), none, 0⟩,
   ⟨some 22, .nilc (.t 21), none, 0⟩,
   ⟨some 23, .fa 0 (.t 22), none, 0⟩,
   ⟨some 24, .fa 0 (.t 23), none, 0⟩,
   ⟨some 25, .fa 2 (.t 24), none, 0⟩,
   ⟨some 26, .ld 1 false (.t 25), none, 0⟩,
   ⟨some 27, .bin .lss (.t 20) (.t 26), none, 0⟩])
 (.cond 27 (.skip)
   (.exit 0)))
 (.seq (.block 1 (.reg false [⟨some 30, .ld 33 true (.t 3), none, 0⟩,
     ⟨some 31, .mv (.t 6), none, 0⟩,
     ⟨some 32, .mv (.t 7), none, 0⟩,
     ⟨some 33, .bin .add (.t 31) (.t 32), none, 0⟩,
     ⟨some 34, .bsl 3 1 1 [.d (.v (.int .i64 0))] [(0, 1, .t 33)], none, 0⟩,
     ⟨some 35, .call (.c (.fn (.func 111) [] [])) [.t 30, .t 34], none, 0⟩,
     ⟨none, .st 33 (.t 3) (.t 35), none, 0⟩]))
 (.reg false [⟨some 28, .mv (.t 7), none, 0⟩,
   ⟨some 29, .bin .add (.t 28) (.c (.d (.v (.int .i64 1)))), none, 0⟩,
   ⟨some 7, .mv (.t 29), none, 0⟩]))
def K1090_3 : CC := .reg false [⟨some 7, .mv (.c (.d (.v (.int .i64 1)))), none, 0⟩]
def K1090_4 : CC := .reg false [⟨some 17, .mv (.t 6), none, 0⟩,
   ⟨some 18, .bin .add (.t 17) (.c (.d (.v (.int .i64 1)))), none, 0⟩,
   ⟨some 19, .fa 18 (.t 3), none, 0⟩,
   ⟨none, .st 1 (.t 19) (.t 18), none, 0⟩]
def K1090_5 : CC := .reg true [⟨some 8, .fa 28 (.t 3), none, 0⟩,
   ⟨some 9, .ld 1 false (.t 8), none, 1⟩,
   ⟨some 10, .mv (.t 0), none, 0⟩,
   ⟨some 11, .nilc (.t 10), none, 4⟩,
   ⟨some 12, .fa 0 (.t 11), none, 12⟩,
   ⟨some 13, .fa 0 (.t 12), none, 28⟩,
   ⟨some 14, .fa 2 (.t 13), none, 60⟩,
   ⟨some 15, .ld 1 false (.t 14), none, 124⟩,
   ⟨some 16, .bin .mul (.t 9) (.t 15), none, 255⟩,
   ⟨some 6, .mv (.t 16), none, 511⟩]
def K1090_6 : CC := .reg false [⟨some 3, .box 56 33 (.t 1), none, 0⟩,
   ⟨some 4, .newc 56 [.d (.v (.int .i64 0)), .d (.v (.int .i64 0)), .d (.v (.int .u64 0)), .d (.v (.int .u64 0)), .d (.v (.int .i64 0)), .d (.v (.bool false)), .d (.v (.int .i64 0)), .d (.v (.int .i64 0)), .d (.v (.bool false)), .d (.v (.int .u64 0)), .d (.v (.slice none 0 0)), .d (.v (.int .u64 0)), .d (.v (.slice none 0 0)), .d (.v (.int .u64 0)), .d (.v (.slice none 0 0)), .d (.v (.int .u64 0)), .d (.v (.slice none 0 0)), .d (.v (.slice none 0 0)), .d (.v (.int .i64 0)), .d (.v (.int .i64 0)), .d (.v (.int .i64 0)), .d (.v (.int .i64 0)), .d (.v (.int .i64 0)), .d (.v (.int .u64 0)), .d (.v (.int .u64 0)), .d (.v (.int .u64 0)), .d (.v (.int .u64 0)), .d (.v (.int .u64 0)), .d (.v (.int .i64 0)), .d (.v (.slice none 0 0)), .d (.v (.int .u64 0)), .d (.v (.int .i64 0)), .d (.v (.bool false))], none, 0⟩,
   ⟨some 5, .mv (.c (.d (.v (.int .i64 0)))), none, 0⟩]
/-- coatcheck/take.claimed -/
def C1090 : CF := ⟨2, [(4, some (33, true)), (5, none)],
 .seq K1090_6 (.seq K1090_5 (.seq K1090_4 (.seq (.seq K1090_3 (.block 0 (.loop L1090_2))) K1090_1)))⟩
theorem c1090 : coF Tryz.prog Tryz.f159 = some C1090 := by kernel_rfl
def A1090 : Ann := { keep := [0, 1, 3, 4, 5, 6, 7, 27], live := [(0, [0, 3, 4, 6, 7])] }
def E1090 {Ω : Type} : Env Ω := econs 111 S1105 (enil)
theorem e1090 : GoodE Tryz.prog E1090 := GoodE.cons g1105 (GoodE.nil)
def S1090 {Ω : Type} : Spec Ω := inl E1090 A1090 C1090 false
theorem g1090 : Good1 Tryz.prog 159 S1090 := Good1.inl e1090 mix Tryz.func159 (by kernel_rfl) c1090 A1090 false
/-- coatcheck/take.last -/
def C1091 : CF := ⟨2, [(4, some (33, true)), (5, none)],
 .seq (.reg false [⟨some 3, .box 56 33 (.t 1), none, 0⟩,
   ⟨some 4, .newc 56 [.d (.v (.int .i64 0)), .d (.v (.int .i64 0)), .d (.v (.int .u64 0)), .d (.v (.int .u64 0)), .d (.v (.int .i64 0)), .d (.v (.bool false)), .d (.v (.int .i64 0)), .d (.v (.int .i64 0)), .d (.v (.bool false)), .d (.v (.int .u64 0)), .d (.v (.slice none 0 0)), .d (.v (.int .u64 0)), .d (.v (.slice none 0 0)), .d (.v (.int .u64 0)), .d (.v (.slice none 0 0)), .d (.v (.int .u64 0)), .d (.v (.slice none 0 0)), .d (.v (.slice none 0 0)), .d (.v (.int .i64 0)), .d (.v (.int .i64 0)), .d (.v (.int .i64 0)), .d (.v (.int .i64 0)), .d (.v (.int .i64 0)), .d (.v (.int .u64 0)), .d (.v (.int .u64 0)), .d (.v (.int .u64 0)), .d (.v (.int .u64 0)), .d (.v (.int .u64 0)), .d (.v (.int .i64 0)), .d (.v (.slice none 0 0)), .d (.v (.int .u64 0)), .d (.v (.int .i64 0)), .d (.v (.bool false))], none, 0⟩,
   ⟨some 5, .mv (.c (.d (.v (.int .i64 0)))), none, 0⟩])
 (.seq (.reg false [⟨some 6, .fa 0 (.t 3), none, 0⟩,
   ⟨none, .st 1 (.t 6) (.c (.d (.v (.int .i64 38)))), none, 0⟩])
 (.seq (.reg false [⟨some 7, .ld 33 true (.t 3), none, 0⟩,
   ⟨none, .st 33 (.t 4) (.t 7), none, 0⟩,
   ⟨some 5, .mv (.c (.d (.v (.int .i64 0)))), none, 0⟩])
 (.ret)))⟩
theorem c1091 : coF Tryz.prog Tryz.f160 = some C1091 := by kernel_rfl
def A1091 : Ann := { keep := [1, 3, 4, 5], live := [] }
def E1091 {Ω : Type} : Env Ω := enil
theorem e1091 : GoodE Tryz.prog E1091 := GoodE.nil
def S1091 {Ω : Type} : Spec Ω := inl E1091 A1091 C1091 false
theorem g1091 : Good1 Tryz.prog 160 S1091 := Good1.inl e1091 mix Tryz.func160 (by kernel_rfl) c1091 A1091 false
/-- coatcheck/take.done -/
def C1092 : CF := ⟨2, [(4, some (33, true)), (5, none)],
 .seq (.reg false [⟨some 3, .box 56 33 (.t 1), none, 0⟩,
   ⟨some 4, .newc 56 [.d (.v (.int .i64 0)), .d (.v (.int .i64 0)), .d (.v (.int .u64 0)), .d (.v (.int .u64 0)), .d (.v (.int .i64 0)), .d (.v (.bool false)), .d (.v (.int .i64 0)), .d (.v (.int .i64 0)), .d (.v (.bool false)), .d (.v (.int .u64 0)), .d (.v (.slice none 0 0)), .d (.v (.int .u64 0)), .d (.v (.slice none 0 0)), .d (.v (.int .u64 0)), .d (.v (.slice none 0 0)), .d (.v (.int .u64 0)), .d (.v (.slice none 0 0)), .d (.v (.slice none 0 0)), .d (.v (.int .i64 0)), .d (.v (.int .i64 0)), .d (.v (.int .i64 0)), .d (.v (.int .i64 0)), .d (.v (.int .i64 0)), .d (.v (.int .u64 0)), .d (.v (.int .u64 0)), .d (.v (.int .u64 0)), .d (.v (.int .u64 0)), .d (.v (.int .u64 0)), .d (.v (.int .i64 0)), .d (.v (.slice none 0 0)), .d (.v (.int .u64 0)), .d (.v (.int .i64 0)), .d (.v (.bool false))], none, 0⟩,
   ⟨some 5, .mv (.c (.d (.v (.int .i64 0)))), none, 0⟩])
 (.seq (.reg false [⟨some 6, .ld 33 true (.t 3), none, 0⟩,
   ⟨none, .st 33 (.t 4) (.t 6), none, 0⟩,
   ⟨some 5, .mv (.c (.d (.v (.int .i64 1)))), none, 0⟩])
 (.ret))⟩
theorem c1092 : coF Tryz.prog Tryz.f161 = some C1092 := by kernel_rfl
def A1092 : Ann := { keep := [1, 3, 4, 5], live := [] }
def E1092 {Ω : Type} : Env Ω := enil
theorem e1092 : GoodE Tryz.prog E1092 := GoodE.nil
def S1092 {Ω : Type} : Spec Ω := inl E1092 A1092 C1092 false
theorem g1092 : Good1 Tryz.prog 161 S1092 := Good1.inl e1092 mix Tryz.func161 (by kernel_rfl) c1092 A1092 false
/-- coatcheck/take.park -/
def C1093 : CF := ⟨2, [(4, some (33, true)), (5, none)],
 .seq (.reg false [⟨some 3, .box 56 33 (.t 1), none, 0⟩,
   ⟨some 4, .newc 56 [.d (.v (.int .i64 0)), .d (.v (.int .i64 0)), .d (.v (.int .u64 0)), .d (.v (.int .u64 0)), .d (.v (.int .i64 0)), .d (.v (.bool false)), .d (.v (.int .i64 0)), .d (.v (.int .i64 0)), .d (.v (.bool false)), .d (.v (.int .u64 0)), .d (.v (.slice none 0 0)), .d (.v (.int .u64 0)), .d (.v (.slice none 0 0)), .d (.v (.int .u64 0)), .d (.v (.slice none 0 0)), .d (.v (.int .u64 0)), .d (.v (.slice none 0 0)), .d (.v (.slice none 0 0)), .d (.v (.int .i64 0)), .d (.v (.int .i64 0)), .d (.v (.int .i64 0)), .d (.v (.int .i64 0)), .d (.v (.int .i64 0)), .d (.v (.int .u64 0)), .d (.v (.int .u64 0)), .d (.v (.int .u64 0)), .d (.v (.int .u64 0)), .d (.v (.int .u64 0)), .d (.v (.int .i64 0)), .d (.v (.slice none 0 0)), .d (.v (.int .u64 0)), .d (.v (.int .i64 0)), .d (.v (.bool false))], none, 0⟩,
   ⟨some 5, .mv (.c (.d (.v (.int .i64 0)))), none, 0⟩])
 (.seq (.reg false [⟨some 6, .fa 18 (.t 3), none, 0⟩,
   ⟨some 7, .ld 1 false (.t 6), none, 0⟩,
   ⟨some 8, .fa 19 (.t 3), none, 0⟩,
   ⟨none, .st 1 (.t 8) (.t 7), none, 0⟩,
   ⟨some 9, .fa 18 (.t 3), none, 0⟩,
   ⟨none, .st 1 (.t 9) (.c (.d (.v (.int .i64 0)))), none, 0⟩,
   ⟨some 10, .fa 0 (.t 3), none, 0⟩,
   ⟨none, .st 1 (.t 10) (.c (.d (.v (.int .i64 30)))), none, 0⟩])
 (.seq (.reg false [⟨some 11, .ld 33 true (.t 3), none, 0⟩,
   ⟨none, .st 33 (.t 4) (.t 11), none, 0⟩,
   ⟨some 5, .mv (.c (.d (.v (.int .i64 0)))), none, 0⟩])
 (.ret)))⟩
theorem c1093 : coF Tryz.prog Tryz.f162 = some C1093 := by kernel_rfl
def A1093 : Ann := { keep := [1, 3, 4, 5], live := [] }
def E1093 {Ω : Type} : Env Ω := enil
theorem e1093 : GoodE Tryz.prog E1093 := GoodE.nil
def S1093 {Ω : Type} : Spec Ω := inl E1093 A1093 C1093 false
theorem g1093 : Good1 Tryz.prog 162 S1093 := Good1.inl e1093 mix Tryz.func162 (by kernel_rfl) c1093 A1093 false
def K1084_1 : CC := .seq (.reg false [⟨some 6, .bld [.d (.v (.nilFunc)), .d (.v (.nilFunc)), .d (.v (.nilFunc))] [(0, 1, .c (.fn (.func 90) [] [])), (1, 1, .c (.fn (.func 159) [] [])), (2, 1, .c (.fn (.func 160) [] []))], none, 0⟩,
   ⟨some 3, .newc 167 [.d (.v (.nilFunc)), .d (.v (.nilFunc)), .d (.v (.nilFunc))], none, 0⟩,
   ⟨none, .st 3 (.t 3) (.t 6), none, 0⟩])
 (.seq (.reg false [⟨some 7, .mkm, none, 0⟩,
   ⟨some 8, .ld 3 true (.t 1), none, 0⟩,
   ⟨none, .upd 0 (.t 7) (.c (.d (.v (.int .i64 10)))) (.t 8), none, 0⟩,
   ⟨some 9, .ld 3 true (.t 1), none, 0⟩,
   ⟨none, .upd 0 (.t 7) (.c (.d (.v (.int .i64 11)))) (.t 9), none, 0⟩,
   ⟨some 10, .ld 3 true (.t 1), none, 0⟩,
   ⟨none, .upd 0 (.t 7) (.c (.d (.v (.int .i64 12)))) (.t 10), none, 0⟩,
   ⟨some 11, .bld [.d (.v (.nilFunc)), .d (.v (.nilFunc)), .d (.v (.nilFunc))] [(0, 1, .c (.fn (.func 90) [] [])), (1, 1, .c (.fn (.func 161) [] [])), (2, 1, .c (.fn (.func 162) [] []))], none, 0⟩,
   ⟨none, .upd 0 (.t 7) (.c (.d (.v (.int .i64 35)))) (.t 11), none, 0⟩,
   ⟨some 12, .ld 3 true (.t 2), none, 0⟩,
   ⟨none, .upd 0 (.t 7) (.c (.d (.v (.int .i64 30)))) (.t 12), none, 0⟩,
   ⟨some 13, .ld 3 true (.t 2), none, 0⟩,
   ⟨none, .upd 0 (.t 7) (.c (.d (.v (.int .i64 31)))) (.t 13), none, 0⟩,
   ⟨some 14, .ld 3 true (.t 2), none, 0⟩,
   ⟨none, .upd 0 (.t 7) (.c (.d (.v (.int .i64 32)))) (.t 14), none, 0⟩,
   ⟨some 15, .ld 3 true (.t 3), none, 0⟩,
   ⟨none, .upd 0 (.t 7) (.c (.d (.v (.int .i64 33)))) (.t 15), none, 0⟩,
   ⟨some 16, .ld 3 true (.t 3), none, 0⟩,
   ⟨none, .upd 0 (.t 7) (.c (.d (.v (.int .i64 34)))) (.t 16), none, 0⟩,
   ⟨some 17, .mv (.t 7), none, 0⟩,
   ⟨some 0, .mv (.t 17), none, 0⟩])
 (.ret))
def K1084_2 : CC := .reg false [⟨some 5, .bld [.d (.v (.nilFunc)), .d (.v (.nilFunc)), .d (.v (.nilFunc))] [(0, 1, .c (.fn (.func 90) [] [])), (1, 1, .c (.fn (.func 158) [] [])), (2, 1, .c (.fn (.func 158) [] []))], none, 0⟩,
   ⟨some 2, .newc 167 [.d (.v (.nilFunc)), .d (.v (.nilFunc)), .d (.v (.nilFunc))], none, 0⟩,
   ⟨none, .st 3 (.t 2) (.t 5), none, 0⟩]
def K1084_3 : CC := .reg false [⟨some 4, .bld [.d (.v (.nilFunc)), .d (.v (.nilFunc)), .d (.v (.nilFunc))] [(0, 1, .c (.fn (.func 133) [] [])), (1, 1, .c (.fn (.func 156) [] [])), (2, 1, .c (.fn (.func 157) [] []))], none, 0⟩,
   ⟨some 1, .newc 167 [.d (.v (.nilFunc)), .d (.v (.nilFunc)), .d (.v (.nilFunc))], none, 0⟩,
   ⟨none, .st 3 (.t 1) (.t 4), none, 0⟩]
def K1084_4 : CC := .reg false [⟨some 0, .mv (.c (.d (.v (.map none)))), none, 0⟩]
/-- coatcheck/take.ways -/
def C1084 : CF := ⟨0, [(0, none)],
 .seq K1084_4 (.seq K1084_3 (.seq K1084_2 K1084_1))⟩
theorem c1084 : coF Tryz.prog Tryz.f135 = some C1084 := by kernel_rfl
def A1084 : Ann := { keep := [0, 1, 2, 3], live := [] }
def E1084 {Ω : Type} : Env Ω := econs 90 S61i (econs 133 S45i (econs 156 S1087 (econs 157 S1088 (econs 158 S1089 (econs 159 S1090 (econs 160 S1091 (econs 161 S1092 (econs 162 S1093 (enil)))))))))
theorem e1084 : GoodE Tryz.prog E1084 := GoodE.cons g61i (GoodE.cons g45i (GoodE.cons g1087 (GoodE.cons g1088 (GoodE.cons g1089 (GoodE.cons g1090 (GoodE.cons g1091 (GoodE.cons g1092 (GoodE.cons g1093 (GoodE.nil)))))))))
end Go.Sx.Pr

/- The contract of take.ways: a table of functions, as data. -/
namespace Go.Sx.Pr
open Go Go.Sx Go.Sx.Md Go.Proofs
set_option maxRecDepth 100000
abbrev kI (x : Int) : Value := .int .i64 x
abbrev fnC (n : Nat) : SV := .fn (.func n) [] []
def waysL : SV := .md [kI 10, kI 11, kI 12, kI 35, kI 30, kI 31, kI 32, kI 33, kI 34]
  [.agg [fnC 133, fnC 156, fnC 157], .agg [fnC 133, fnC 156, fnC 157], .agg [fnC 133, fnC 156, fnC 157], .agg [fnC 90, fnC 161, fnC 162],
   .agg [fnC 90, fnC 158, fnC 158], .agg [fnC 90, fnC 158, fnC 158], .agg [fnC 90, fnC 158, fnC 158], .agg [fnC 90, fnC 159, fnC 160], .agg [fnC 90, fnC 159, fnC 160]]
def S1084p {Ω : Type} : Spec Ω := pureSpec [] fun xs => match xs with | [] => [(true, waysL)] | _ => []
theorem dat_of {P : Program} {e : {Ω : Type} → Env Ω} (he : GoodE P e) {A : Ann} {C : CF} {args : List SV} {y : SV} (hr : sxFn (e (Ω := SV)) A C args [] (fun r h => dat true h r) = some y) :
    ∃ r0 y' H, sxFn (e (Ω := SV × SH)) A C args [] (fun r h => some (r, h)) = some (r0, H) ∧ dat true H r0 = some y' ∧ ∀ cx w u, SRep cx w y' u → SRep cx w y u := by
  obtain ⟨r', h', k1, k2⟩ := sxFn_par (he.par _ (SV × SH)) hr
  exact ⟨r', y, h', k2 _, k1, fun _ _ _ q => q⟩
theorem g1084p : Good1 Tryz.prog 135 S1084p := pureGood Tryz.func135 (by kernel_rfl) c1084 e1084 mix (A := A1084) fun xs r hF => by
  split at hF
  · simp only [firstP, cond_true, Option.some.injEq] at hF
    subst hF
    exact dat_of e1084 (by kernel_rfl)
  · cases hF
end Go.Sx.Pr
