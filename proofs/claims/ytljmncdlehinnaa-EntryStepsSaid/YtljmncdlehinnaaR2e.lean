/- Pieces of the code of functions, compiled for the symbolic interpreter, each checked against the program; no conditions. -/
import Derived.Test.YtljmncdlehinnaaR7
import Derived.Test.YtljmncdlehinnaaRows
import Derived.KernelRfl
set_option linter.unusedVariables false
set_option linter.unusedSimpArgs false
namespace Go.Sx.Pr
open Go Go.Sx Go.Proofs
set_option maxRecDepth 100000
/-- coatcheck/pack.Unentry -/
def C1054 : CF := ⟨1, [(2, none), (3, none), (4, none)],
 .seq (.reg false [⟨some 2, .mv (.c (.d (.v (.int .u64 0)))), none, 0⟩,
   ⟨some 3, .mv (.c (.d (.v (.int .i64 0)))), none, 0⟩,
   ⟨some 4, .mv (.c (.d (.v (.int .i64 0)))), none, 0⟩])
 (.seq (.reg false [⟨some 5, .mv (.t 0), none, 0⟩,
   ⟨some 6, .bin .shr (.t 5) (.c (.d (.v (.int .u64 20)))), none, 0⟩,
   ⟨some 7, .mv (.t 0), none, 0⟩,
   ⟨some 8, .bin .shr (.t 7) (.c (.d (.v (.int .u64 4)))), none, 0⟩,
   ⟨some 9, .conv .u16 (.t 8), none, 0⟩,
   ⟨some 10, .conv .i64 (.t 9), none, 0⟩,
   ⟨some 11, .bin .sub (.t 10) (.c (.d (.v (.int .i64 1)))), none, 0⟩,
   ⟨some 12, .mv (.t 0), none, 0⟩,
   ⟨some 13, .conv .u8 (.t 12), none, 0⟩,
   ⟨some 14, .bin .shl (.t 13) (.c (.d (.v (.int .u64 4)))), none, 0⟩,
   ⟨some 15, .bin .shr (.t 14) (.c (.d (.v (.int .u64 4)))), none, 0⟩,
   ⟨some 16, .conv .i64 (.t 15), none, 0⟩,
   ⟨some 2, .mv (.t 6), none, 0⟩,
   ⟨some 3, .mv (.t 11), none, 0⟩,
   ⟨some 4, .mv (.t 16), none, 0⟩])
 (.ret))⟩
theorem c1054 : coF Try.prog Try.f73 = some C1054 := by kernel_rfl
def A1054 : Ann := { keep := [0, 2, 3, 4], live := [] }
def E1054 {Ω : Type} : Env Ω := enil
theorem e1054 : GoodE Try.prog E1054 := GoodE.nil
/-- coatcheck/pack.Ticket -/
def C1070 : CF := ⟨2, [(4, none)],
 .seq (.reg false [⟨some 4, .mv (.c (.d (.v (.int .u64 0)))), none, 0⟩])
 (.seq (.reg false [⟨some 5, .mv (.t 1), none, 0⟩,
   ⟨some 6, .bin .shl (.t 5) (.c (.d (.v (.int .u64 16)))), none, 0⟩,
   ⟨some 7, .mv (.t 0), none, 0⟩,
   ⟨some 8, .bin .add (.t 7) (.c (.d (.v (.int .i64 1)))), none, 0⟩,
   ⟨some 9, .conv .u16 (.t 8), none, 0⟩,
   ⟨some 10, .conv .u64 (.t 9), none, 0⟩,
   ⟨some 11, .bin .or (.t 6) (.t 10), none, 0⟩,
   ⟨some 4, .mv (.t 11), none, 0⟩])
 (.ret))⟩
theorem c1070 : coF Try.prog Try.f75 = some C1070 := by kernel_rfl
def A1070 : Ann := { keep := [0, 1, 4], live := [] }
def E1070 {Ω : Type} : Env Ω := enil
theorem e1070 : GoodE Try.prog E1070 := GoodE.nil
/-- coatcheck/pack.Unticket -/
def C1068 : CF := ⟨1, [(2, none), (3, none)],
 .seq (.reg false [⟨some 2, .mv (.c (.d (.v (.int .i64 0)))), none, 0⟩,
   ⟨some 3, .mv (.c (.d (.v (.int .u64 0)))), none, 0⟩])
 (.seq (.reg false [⟨some 4, .mv (.t 0), none, 0⟩,
   ⟨some 5, .conv .u16 (.t 4), none, 0⟩,
   ⟨some 6, .conv .i64 (.t 5), none, 0⟩,
   ⟨some 7, .bin .sub (.t 6) (.c (.d (.v (.int .i64 1)))), none, 0⟩,
   ⟨some 8, .mv (.t 0), none, 0⟩,
   ⟨some 9, .bin .shr (.t 8) (.c (.d (.v (.int .u64 16)))), none, 0⟩,
   ⟨some 2, .mv (.t 7), none, 0⟩,
   ⟨some 3, .mv (.t 9), none, 0⟩])
 (.ret))⟩
theorem c1068 : coF Try.prog Try.f71 = some C1068 := by kernel_rfl
def A1068 : Ann := { keep := [0, 2, 3], live := [] }
def E1068 {Ω : Type} : Env Ω := enil
theorem e1068 : GoodE Try.prog E1068 := GoodE.nil
/-- coatcheck/coatcheckref01.Unentry -/
def C1036 : CF := ⟨1, [(2, none), (3, none), (4, none)],
 .seq (.reg false [⟨some 2, .mv (.c (.d (.v (.int .u64 0)))), none, 0⟩,
   ⟨some 3, .mv (.c (.d (.v (.int .i64 0)))), none, 0⟩,
   ⟨some 4, .mv (.c (.d (.v (.int .i64 0)))), none, 0⟩])
 (.seq (.reg true [⟨some 5, .mv (.t 0), none, 0⟩,
   ⟨some 6, .call (.c (.fn (.func 67) [] [])) [.c (.d (.v (.int .i64 20)))], none, 0⟩,
   ⟨some 7, .bin .quo (.t 5) (.t 6), none, 3⟩,
   ⟨some 8, .mv (.t 0), none, 0⟩,
   ⟨some 9, .bin .quo (.t 8) (.c (.d (.v (.int .u64 16)))), none, 8⟩,
   ⟨some 10, .call (.c (.fn (.func 66) [] [])) [.t 9, .c (.d (.v (.int .i64 16)))], none, 26⟩,
   ⟨some 11, .conv .i64 (.t 10), none, 58⟩,
   ⟨some 12, .bin .sub (.t 11) (.c (.d (.v (.int .i64 1)))), none, 122⟩,
   ⟨some 13, .mv (.t 0), none, 0⟩,
   ⟨some 14, .bin .rem (.t 13) (.c (.d (.v (.int .u64 16)))), none, 256⟩,
   ⟨some 15, .conv .i64 (.t 14), none, 768⟩,
   ⟨some 2, .mv (.t 7), none, 63⟩,
   ⟨some 3, .mv (.t 12), none, 2303⟩,
   ⟨some 4, .mv (.t 15), none, 8191⟩])
 (.ret))⟩
theorem c1036 : coF Try.prog Try.f38 = some C1036 := by kernel_rfl
def A1036 : Ann := { keep := [0, 2, 3, 4], live := [] }
def E1036 {Ω : Type} : Env Ω := econs 66 S80c (econs 67 S83c (enil))
theorem e1036 : GoodE Try.prog E1036 := GoodE.cons g80c (GoodE.cons g83c (GoodE.nil))
/-- coatcheck/coatcheckref01.Ticket -/
def C1066 : CF := ⟨2, [(4, none)],
 .seq (.reg false [⟨some 4, .mv (.c (.d (.v (.int .u64 0)))), none, 0⟩])
 (.seq (.reg false [⟨some 5, .mv (.t 1), none, 0⟩,
   ⟨some 6, .call (.c (.fn (.func 66) [] [])) [.t 5, .c (.d (.v (.int .i64 48)))], none, 0⟩,
   ⟨some 7, .call (.c (.fn (.func 67) [] [])) [.c (.d (.v (.int .i64 16)))], none, 0⟩,
   ⟨some 8, .bin .mul (.t 6) (.t 7), none, 0⟩,
   ⟨some 9, .mv (.t 0), none, 0⟩,
   ⟨some 10, .conv .u64 (.t 9), none, 0⟩,
   ⟨some 11, .bin .add (.t 10) (.c (.d (.v (.int .u64 1)))), none, 0⟩,
   ⟨some 12, .call (.c (.fn (.func 66) [] [])) [.t 11, .c (.d (.v (.int .i64 16)))], none, 0⟩,
   ⟨some 13, .bin .add (.t 8) (.t 12), none, 0⟩,
   ⟨some 4, .mv (.t 13), none, 0⟩])
 (.ret))⟩
theorem c1066 : coF Try.prog Try.f68 = some C1066 := by kernel_rfl
def A1066 : Ann := { keep := [0, 1, 4], live := [] }
def E1066 {Ω : Type} : Env Ω := econs 66 S80c (econs 67 S83c (enil))
theorem e1066 : GoodE Try.prog E1066 := GoodE.cons g80c (GoodE.cons g83c (GoodE.nil))
/-- coatcheck/coatcheckref01.Unticket -/
def C1035 : CF := ⟨1, [(2, none), (3, none)],
 .seq (.reg false [⟨some 2, .mv (.c (.d (.v (.int .i64 0)))), none, 0⟩,
   ⟨some 3, .mv (.c (.d (.v (.int .u64 0)))), none, 0⟩])
 (.seq (.reg true [⟨some 4, .mv (.t 0), none, 0⟩,
   ⟨some 5, .call (.c (.fn (.func 66) [] [])) [.t 4, .c (.d (.v (.int .i64 16)))], none, 1⟩,
   ⟨some 6, .conv .i64 (.t 5), none, 3⟩,
   ⟨some 7, .bin .sub (.t 6) (.c (.d (.v (.int .i64 1)))), none, 7⟩,
   ⟨some 8, .mv (.t 0), none, 0⟩,
   ⟨some 9, .call (.c (.fn (.func 67) [] [])) [.c (.d (.v (.int .i64 16)))], none, 3⟩,
   ⟨some 10, .bin .quo (.t 8) (.t 9), none, 51⟩,
   ⟨some 2, .mv (.t 7), none, 47⟩,
   ⟨some 3, .mv (.t 10), none, 255⟩])
 (.ret))⟩
theorem c1035 : coF Try.prog Try.f37 = some C1035 := by kernel_rfl
def A1035 : Ann := { keep := [0, 2, 3], live := [] }
def E1035 {Ω : Type} : Env Ω := econs 66 S80c (econs 67 S83c (enil))
theorem e1035 : GoodE Try.prog E1035 := GoodE.cons g80c (GoodE.cons g83c (GoodE.nil))
end Go.Sx.Pr
