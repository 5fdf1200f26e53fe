/- Pieces of the code of functions, compiled for the symbolic interpreter, each checked against the program; no conditions. -/
import Derived.Test.YtpnnnklahanecaaP42
import Derived.Test.YtpnnnklahanecaaRows
import Derived.KernelRfl
namespace Go.Sx.Pr
open Go Go.Sx Go.Proofs
set_option maxRecDepth 100000
/-- coatcheck/plan.New -/
def C63 : CF := ⟨1, [(2, some (8, true)), (3, none)],
 .seq (.reg false [⟨some 1, .box 24 8 (.t 0), none, 0⟩,
   ⟨some 2, .newc 49 [.d (.v (.int .i64 0)), .d (.v (.int .i64 0)), .d (.v (.int .i64 0)), .d (.v (.int .i64 0)), .d (.v (.int .i64 0)), .d (.v (.int .i64 0)), .d (.v (.int .i64 0)), .d (.v (.int .u64 0))], none, 0⟩,
   ⟨some 3, .mv (.c (.d (.v (.int .i64 0)))), none, 0⟩])
 (.seq (.seq (.reg false [⟨some 5, .ld 8 true (.t 1), none, 0⟩,
   ⟨some 6, .call (.c (.fn (.func 106) [] [])) [.t 5], none, 0⟩,
   ⟨some 4, .mv (.t 6), none, 0⟩])
 (.seq (.reg false [⟨some 7, .mv (.t 4), none, 0⟩,
   ⟨some 8, .eq .int true (.t 7) (.c (.d (.v (.int .i64 0)))), none, 0⟩])
 (.cond 8 (.seq (.reg false [⟨some 9, .bld [.d (.v (.int .i64 0)), .d (.v (.int .i64 0)), .d (.v (.int .i64 0)), .d (.v (.int .i64 0)), .d (.v (.int .i64 0)), .d (.v (.int .i64 0)), .d (.v (.int .i64 0)), .d (.v (.int .u64 0))] [], none, 0⟩,
     ⟨some 10, .mv (.t 4), none, 0⟩,
     ⟨none, .st 8 (.t 2) (.t 9), none, 0⟩,
     ⟨some 3, .mv (.t 10), none, 0⟩])
   (.ret))
   (.skip))))
 (.seq (.reg false [⟨some 11, .ld 8 true (.t 1), none, 0⟩,
   ⟨some 12, .bld [.d (.v (.int .i64 0)), .d (.v (.int .i64 0)), .d (.v (.int .i64 0)), .d (.v (.int .i64 0)), .d (.v (.int .i64 0)), .d (.v (.int .i64 0)), .d (.v (.int .i64 0)), .d (.v (.int .u64 0))] [(0, 8, .t 11)], none, 0⟩,
   ⟨none, .st 8 (.t 2) (.t 12), none, 0⟩,
   ⟨some 3, .mv (.c (.d (.v (.int .i64 0)))), none, 0⟩])
 (.ret)))⟩
theorem c63 : coF Try.prog Try.f63 = some C63 := by kernel_rfl
def A63 : Ann := { keep := [0, 1, 2, 3, 4, 8], live := [] }
def E63 {Ω : Type} : Env Ω := econs 106 S106 (enil)
theorem e63 : GoodE Try.prog E63 := GoodE.cons g106 (GoodE.nil)
def S63 {Ω : Type} : Spec Ω := inl E63 A63 C63 false
theorem g63 : Good1 Try.prog 63 S63 := Good1.inl e63 mix Try.func63 (by kernel_rfl) c63 A63 false
/-- coatcheck/coatcheckref03.Great -/
def C16 : CF := ⟨1, [(2, none)],
 .seq (.reg false [⟨some 1, .box 24 8 (.t 0), none, 0⟩,
   ⟨some 2, .mv (.c (.d (.v (.bool false)))), none, 0⟩])
 (.seq (.reg false [⟨some 3, .ld 8 true (.t 1), none, 0⟩,
   ⟨some 4, .call (.c (.fn (.func 19) [] [])) [.t 3], none, 0⟩,
   ⟨some 5, .eq .int false (.t 4) (.c (.d (.v (.int .i64 0)))), none, 0⟩,
   ⟨some 6, .mv (.t 5), none, 0⟩,
   ⟨some 7, .fa 1 (.t 1), some (6, true), 0⟩,
   ⟨some 8, .ld 1 false (.t 7), some (6, true), 0⟩,
   ⟨some 9, .fa 2 (.t 1), some (6, true), 0⟩,
   ⟨some 10, .ld 1 false (.t 9), some (6, true), 0⟩,
   ⟨some 11, .bin .mul (.t 8) (.t 10), some (6, true), 0⟩,
   ⟨some 12, .bin .gtr (.t 11) (.c (.d (.v (.int .i64 40)))), some (6, true), 0⟩,
   ⟨some 13, .mv (.t 12), some (6, true), 0⟩,
   ⟨some 14, .fa 4 (.t 1), some (13, false), 0⟩,
   ⟨some 15, .ld 1 false (.t 14), some (13, false), 0⟩,
   ⟨some 16, .bin .gtr (.t 15) (.c (.d (.v (.int .i64 16)))), some (13, false), 0⟩,
   ⟨some 17, .pick (.t 13) (.c (.d (.v (.bool true)))) (.t 16), some (6, true), 0⟩,
   ⟨some 18, .pick (.t 6) (.t 17) (.c (.d (.v (.bool false)))), none, 0⟩,
   ⟨some 2, .mv (.t 18), none, 0⟩])
 (.ret))⟩
theorem c16 : coF Try.prog Try.f16 = some C16 := by kernel_rfl
def A16 : Ann := { keep := [0, 1, 2], live := [] }
def E16 {Ω : Type} : Env Ω := econs 19 S19 (enil)
theorem e16 : GoodE Try.prog E16 := GoodE.cons g19 (GoodE.nil)
def S16 {Ω : Type} : Spec Ω := inl E16 A16 C16 false
theorem g16 : Good1 Try.prog 16 S16 := Good1.inl e16 mix Try.func16 (by kernel_rfl) c16 A16 false
def K18_1 : CC := .seq (.block 0 (.seq (.reg false [⟨some 14, .mv (.t 7), none, 0⟩,
     ⟨some 15, .eq .int true (.t 14) (.c (.d (.v (.int .i64 0)))), none, 0⟩,
     ⟨some 13, .mv (.t 15), none, 0⟩])
   (.cond 13 (.seq (.reg false [⟨some 16, .mv (.t 7), none, 0⟩,
       ⟨some 4, .mv (.c (.d (.v (.pointer none)))), none, 0⟩,
       ⟨some 5, .mv (.t 16), none, 0⟩])
     (.ret))
     (.seq (.reg false [⟨some 18, .mv (.t 1), none, 0⟩,
       ⟨some 19, .len (.t 18), none, 0⟩,
       ⟨some 20, .ld 8 true (.t 6), none, 0⟩,
       ⟨some 21, .call (.c (.fn (.func 64) [] [])) [.t 20], none, 0⟩,
       ⟨some 22, .eq .int true (.t 19) (.t 21), none, 0⟩,
       ⟨some 17, .mv (.t 22), none, 0⟩])
     (.cond 17 (.seq (.reg false [⟨some 4, .mv (.c (.d (.v (.pointer none)))), none, 0⟩,
         ⟨some 5, .mv (.c (.d (.v (.int .i64 3)))), none, 0⟩])
       (.ret))
       (.skip))))))
 (.seq (.reg true [⟨some 23, .ld 8 true (.t 6), none, 0⟩,
   ⟨some 24, .mv (.t 1), none, 0⟩,
   ⟨some 25, .call (.c (.fn (.func 65) [] [])) [.t 24], none, 2⟩,
   ⟨some 26, .bld [.d (.v (.int .i64 0)), .d (.v (.int .i64 0)), .d (.v (.int .i64 0)), .d (.v (.int .i64 0)), .d (.v (.int .i64 0)), .d (.v (.int .i64 0)), .d (.v (.int .i64 0)), .d (.v (.int .u64 0)), .d (.v (.int .i64 0)), .d (.v (.int .i64 0)), .d (.v (.int .u64 0)), .d (.v (.int .u64 0)), .d (.v (.int .u64 0)), .d (.v (.slice none 0 0))] [(0, 8, .t 23), (13, 1, .t 25)], none, 7⟩,
   ⟨some 27, .box 51 14 (.t 26), none, 15⟩,
   ⟨some 4, .mv (.t 27), none, 31⟩,
   ⟨some 5, .mv (.c (.d (.v (.int .i64 0)))), none, 63⟩])
 (.ret))
def K18_2 : CC := .reg false [⟨some 9, .ld 8 true (.t 2), none, 0⟩,
   ⟨some 10, .call (.c (.fn (.func 63) [] [])) [.t 9], none, 0⟩,
   ⟨some 8, .mv (.t 10), none, 0⟩,
   ⟨some 11, .ext 0 (.t 8), none, 0⟩,
   ⟨some 12, .ext 1 (.t 8), none, 0⟩,
   ⟨some 6, .newc 49 [.d (.v (.int .i64 0)), .d (.v (.int .i64 0)), .d (.v (.int .i64 0)), .d (.v (.int .i64 0)), .d (.v (.int .i64 0)), .d (.v (.int .i64 0)), .d (.v (.int .i64 0)), .d (.v (.int .u64 0))], none, 0⟩,
   ⟨none, .st 8 (.t 6) (.t 11), none, 0⟩,
   ⟨some 7, .mv (.t 12), none, 0⟩]
def K18_3 : CC := .reg false [⟨some 2, .box 24 8 (.t 0), none, 0⟩,
   ⟨some 4, .mv (.c (.d (.v (.pointer none)))), none, 0⟩,
   ⟨some 5, .mv (.c (.d (.v (.int .i64 0)))), none, 0⟩]
/-- coatcheck/memory.From -/
def C18 : CF := ⟨2, [(4, none), (5, none)],
 .seq K18_3 (.seq K18_2 K18_1)⟩
theorem c18 : coF Try.prog Try.f18 = some C18 := by kernel_rfl
def A18 : Ann := { keep := [0, 1, 2, 4, 5, 6, 7, 13, 17], live := [] }
def E18 {Ω : Type} : Env Ω := econs 63 S63 (econs 64 S64 (econs 65 S65 (enil)))
theorem e18 : GoodE Try.prog E18 := GoodE.cons g63 (GoodE.cons g64 (GoodE.cons g65 (GoodE.nil)))
def S18 {Ω : Type} : Spec Ω := inl E18 A18 C18 false
theorem g18 : Good1 Try.prog 18 S18 := Good1.inl e18 mix Try.func18 (by kernel_rfl) c18 A18 false
def K66_1 : CC := .seq (.reg true [⟨some 25, .mv (.t 0), none, 0⟩,
   ⟨some 26, .nilc (.t 25), none, 1⟩,
   ⟨some 27, .fa 13 (.t 26), none, 3⟩,
   ⟨some 28, .ld 1 false (.t 27), none, 7⟩,
   ⟨some 29, .fa 1 (.t 3), none, 0⟩,
   ⟨some 30, .ld 1 false (.t 29), none, 16⟩,
   ⟨some 31, .ixs 1 (.t 28) (.t 30), none, 63⟩,
   ⟨some 5, .mv (.t 31), none, 127⟩])
 (.seq (.reg false [⟨some 32, .mv (.t 0), none, 0⟩,
   ⟨some 33, .ld 5 true (.t 3), none, 0⟩,
   ⟨some 34, .nilc (.t 32), none, 0⟩,
   ⟨some 35, .fa 8 (.t 34), none, 0⟩,
   ⟨none, .st 5 (.t 35) (.t 33), none, 0⟩])
 (.seq (.reg false [⟨some 36, .mv (.t 0), none, 0⟩,
   ⟨some 37, .mv (.t 5), none, 0⟩,
   ⟨some 38, .nilc (.t 37), none, 0⟩,
   ⟨some 39, .ld 1 false (.t 38), none, 0⟩,
   ⟨some 40, .nilc (.t 36), none, 0⟩,
   ⟨some 41, .fa 8 (.t 40), none, 0⟩,
   ⟨some 42, .fa 4 (.t 41), none, 0⟩,
   ⟨none, .st 1 (.t 42) (.t 39), none, 0⟩])
 (.seq (.reg false [⟨some 43, .mv (.t 5), none, 0⟩,
   ⟨some 4, .mv (.t 43), none, 0⟩])
 (.ret))))
def K66_2 : CC := .seq (.reg true [⟨some 12, .fa 1 (.t 3), none, 0⟩,
   ⟨some 13, .ld 1 false (.t 12), none, 1⟩,
   ⟨some 14, .bin .lss (.t 13) (.c (.d (.v (.int .i64 0)))), none, 3⟩,
   ⟨some 15, .mv (.t 14), none, 7⟩,
   ⟨some 16, .fa 1 (.t 3), some (15, false), 15⟩,
   ⟨some 17, .ld 1 false (.t 16), some (15, false), 31⟩,
   ⟨some 18, .mv (.t 0), some (15, false), 15⟩,
   ⟨some 19, .nilc (.t 18), some (15, false), 79⟩,
   ⟨some 20, .fa 13 (.t 19), some (15, false), 207⟩,
   ⟨some 21, .ld 1 false (.t 20), some (15, false), 463⟩,
   ⟨some 22, .len (.t 21), some (15, false), 975⟩,
   ⟨some 23, .bin .geq (.t 17) (.t 22), some (15, false), 2047⟩,
   ⟨some 24, .pick (.t 15) (.c (.d (.v (.bool true)))) (.t 23), none, 4095⟩])
 (.cond 24 (.seq (.reg false [⟨some 4, .mv (.c (.d (.v (.pointer none)))), none, 0⟩])
   (.ret))
   (.skip))
def K66_3 : CC := .reg false [⟨some 8, .mv (.t 0), none, 0⟩,
   ⟨some 9, .bld [.d (.v (.int .i64 0)), .d (.v (.int .i64 0)), .d (.v (.int .u64 0)), .d (.v (.int .u64 0)), .d (.v (.int .u64 0))] [], none, 0⟩,
   ⟨some 10, .nilc (.t 8), none, 0⟩,
   ⟨some 11, .fa 8 (.t 10), none, 0⟩,
   ⟨none, .st 5 (.t 11) (.t 9), none, 0⟩]
def K66_4 : CC := .seq (.reg false [⟨some 6, .mv (.t 0), none, 0⟩,
   ⟨some 7, .eq .ptr false (.t 6) (.c (.d (.v (.pointer none)))), none, 0⟩])
 (.cond 7 (.seq (.reg false [⟨some 4, .mv (.c (.d (.v (.pointer none)))), none, 0⟩])
   (.ret))
   (.skip))
def K66_5 : CC := .reg false [⟨some 3, .box 39 5 (.t 1), none, 0⟩,
   ⟨some 4, .mv (.c (.d (.v (.pointer none)))), none, 0⟩]
/-- (*coatcheck/memory.Memory).reach -/
def C66 : CF := ⟨2, [(4, none)],
 .seq K66_5 (.seq K66_4 (.seq K66_3 (.seq K66_2 K66_1)))⟩
theorem c66 : coF Try.prog Try.f66 = some C66 := by kernel_rfl
def A66 : Ann := { keep := [0, 1, 3, 4, 5, 7, 24], live := [] }
def E66 {Ω : Type} : Env Ω := enil
theorem e66 : GoodE Try.prog E66 := GoodE.nil
def S66 {Ω : Type} : Spec Ω := inl E66 A66 C66 false
theorem g66 : Good1 Try.prog 66 S66 := Good1.inl e66 mix Try.func66 (by kernel_rfl) c66 A66 false
def K67_1 : CC := .seq (.seq (.reg false [⟨some 67, .mv (.t 1), none, 0⟩,
   ⟨some 68, .eq .int false (.t 67) (.c (.d (.v (.int .i64 4)))), none, 0⟩])
 (.cond 68 (.reg false [⟨some 69, .mv (.t 0), none, 0⟩,
     ⟨some 70, .nilc (.t 69), none, 0⟩,
     ⟨some 71, .fa 8 (.t 70), none, 0⟩,
     ⟨some 72, .ld 1 false (.t 71), none, 0⟩,
     ⟨some 73, .mv (.t 2), none, 0⟩,
     ⟨some 74, .mv (.t 12), none, 0⟩,
     ⟨some 75, .mv (.t 3), none, 0⟩,
     ⟨some 76, .bin .add (.t 74) (.t 75), none, 0⟩,
     ⟨some 77, .ixs 1 (.t 72) (.t 73), none, 0⟩,
     ⟨none, .st 1 (.t 77) (.t 76), none, 0⟩])
   (.skip)))
 (.seq (.reg false [⟨some 78, .mv (.t 12), none, 0⟩,
   ⟨some 10, .mv (.t 78), none, 0⟩,
   ⟨some 11, .mv (.c (.d (.v (.bool true)))), none, 0⟩])
 (.ret))
def K67_2 : CC := .seq (.reg false [⟨some 53, .mv (.t 1), none, 0⟩,
   ⟨some 54, .eq .int false (.t 53) (.c (.d (.v (.int .i64 3)))), none, 0⟩,
   ⟨some 55, .mv (.t 54), none, 0⟩,
   ⟨some 56, .mv (.t 12), some (55, true), 0⟩,
   ⟨some 57, .mv (.t 3), some (55, true), 0⟩,
   ⟨some 58, .eq .int false (.t 56) (.t 57), some (55, true), 0⟩,
   ⟨some 59, .pick (.t 55) (.t 58) (.c (.d (.v (.bool false)))), none, 0⟩])
 (.cond 59 (.reg false [⟨some 60, .mv (.t 0), none, 0⟩,
     ⟨some 61, .nilc (.t 60), none, 0⟩,
     ⟨some 62, .fa 8 (.t 61), none, 0⟩,
     ⟨some 63, .ld 1 false (.t 62), none, 0⟩,
     ⟨some 64, .mv (.t 2), none, 0⟩,
     ⟨some 65, .mv (.t 4), none, 0⟩,
     ⟨some 66, .ixs 1 (.t 63) (.t 64), none, 0⟩,
     ⟨none, .st 1 (.t 66) (.t 65), none, 0⟩])
   (.skip))
def K67_3 : CC := .seq (.reg false [⟨some 44, .mv (.t 1), none, 0⟩,
   ⟨some 45, .eq .int false (.t 44) (.c (.d (.v (.int .i64 2)))), none, 0⟩])
 (.cond 45 (.reg false [⟨some 46, .mv (.t 0), none, 0⟩,
     ⟨some 47, .nilc (.t 46), none, 0⟩,
     ⟨some 48, .fa 8 (.t 47), none, 0⟩,
     ⟨some 49, .ld 1 false (.t 48), none, 0⟩,
     ⟨some 50, .mv (.t 2), none, 0⟩,
     ⟨some 51, .mv (.t 3), none, 0⟩,
     ⟨some 52, .ixs 1 (.t 49) (.t 50), none, 0⟩,
     ⟨none, .st 1 (.t 52) (.t 51), none, 0⟩])
   (.skip))
def K67_4 : CC := .reg false [⟨some 35, .mv (.t 0), none, 0⟩,
   ⟨some 36, .mv (.t 1), none, 0⟩,
   ⟨some 37, .mv (.t 2), none, 0⟩,
   ⟨some 38, .mv (.t 3), none, 0⟩,
   ⟨some 39, .mv (.t 4), none, 0⟩,
   ⟨some 40, .mv (.t 12), none, 0⟩,
   ⟨some 41, .bld [.d (.v (.int .i64 0)), .d (.v (.int .i64 0)), .d (.v (.int .u64 0)), .d (.v (.int .u64 0)), .d (.v (.int .u64 0))] [(0, 1, .t 36), (1, 1, .t 37), (2, 1, .t 38), (3, 1, .t 39), (4, 1, .t 40)], none, 0⟩,
   ⟨some 42, .nilc (.t 35), none, 0⟩,
   ⟨some 43, .fa 9 (.t 42), none, 0⟩,
   ⟨none, .st 5 (.t 43) (.t 41), none, 0⟩]
def K67_5 : CC := .reg false [⟨some 28, .mv (.t 0), none, 0⟩,
   ⟨some 29, .nilc (.t 28), none, 0⟩,
   ⟨some 30, .fa 8 (.t 29), none, 0⟩,
   ⟨some 31, .ld 1 false (.t 30), none, 0⟩,
   ⟨some 32, .mv (.t 2), none, 0⟩,
   ⟨some 33, .ixs 1 (.t 31) (.t 32), none, 0⟩,
   ⟨some 34, .ld 1 false (.t 33), none, 0⟩,
   ⟨some 12, .mv (.t 34), none, 0⟩]
def K67_6 : CC := .seq (.reg false [⟨some 17, .mv (.t 2), none, 0⟩,
   ⟨some 18, .bin .lss (.t 17) (.c (.d (.v (.int .i64 0)))), none, 0⟩,
   ⟨some 19, .mv (.t 18), none, 0⟩,
   ⟨some 20, .mv (.t 2), some (19, false), 0⟩,
   ⟨some 21, .mv (.t 0), some (19, false), 0⟩,
   ⟨some 22, .nilc (.t 21), some (19, false), 0⟩,
   ⟨some 23, .fa 8 (.t 22), some (19, false), 0⟩,
   ⟨some 24, .ld 1 false (.t 23), some (19, false), 0⟩,
   ⟨some 25, .len (.t 24), some (19, false), 0⟩,
   ⟨some 26, .bin .geq (.t 20) (.t 25), some (19, false), 0⟩,
   ⟨some 27, .pick (.t 19) (.c (.d (.v (.bool true)))) (.t 26), none, 0⟩])
 (.cond 27 (.seq (.reg false [⟨some 10, .mv (.c (.d (.v (.int .u64 0)))), none, 0⟩,
     ⟨some 11, .mv (.c (.d (.v (.bool false)))), none, 0⟩])
   (.ret))
   (.skip))
def K67_7 : CC := .reg false [⟨some 13, .mv (.t 0), none, 0⟩,
   ⟨some 14, .bld [.d (.v (.int .i64 0)), .d (.v (.int .i64 0)), .d (.v (.int .u64 0)), .d (.v (.int .u64 0)), .d (.v (.int .u64 0))] [], none, 0⟩,
   ⟨some 15, .nilc (.t 13), none, 0⟩,
   ⟨some 16, .fa 9 (.t 15), none, 0⟩,
   ⟨none, .st 5 (.t 16) (.t 14), none, 0⟩]
def K67_8 : CC := .reg false [⟨some 10, .mv (.c (.d (.v (.int .u64 0)))), none, 0⟩,
   ⟨some 11, .mv (.c (.d (.v (.bool false)))), none, 0⟩]
/-- (*coatcheck/coatcheckref03.Memory).Do -/
def C67 : CF := ⟨5, [(10, none), (11, none)],
 .seq K67_8 (.seq K67_7 (.seq K67_6 (.seq K67_5 (.seq K67_4 (.seq K67_3 (.seq K67_2 K67_1))))))⟩
theorem c67 : coF Try.prog Try.f67 = some C67 := by kernel_rfl
def A67 : Ann := { keep := [0, 1, 2, 3, 4, 10, 11, 12, 27, 45, 59, 68], live := [] }
def E67 {Ω : Type} : Env Ω := enil
theorem e67 : GoodE Try.prog E67 := GoodE.nil
def S67 {Ω : Type} : Spec Ω := inl E67 A67 C67 false
theorem g67 : Good1 Try.prog 67 S67 := Good1.inl e67 mix Try.func67 (by kernel_rfl) c67 A67 false
/-- (*coatcheck/memory.Memory).Load -/
def C21 : CF := ⟨2, [(4, none)],
 .seq (.reg false [⟨some 4, .mv (.c (.d (.v (.int .u64 0)))), none, 0⟩])
 (.seq (.seq (.reg false [⟨some 6, .mv (.t 0), none, 0⟩,
   ⟨some 7, .mv (.t 1), none, 0⟩,
   ⟨some 8, .bld [.d (.v (.int .i64 0)), .d (.v (.int .i64 0)), .d (.v (.int .u64 0)), .d (.v (.int .u64 0)), .d (.v (.int .u64 0))] [(0, 1, .c (.d (.v (.int .i64 1)))), (1, 1, .t 7)], none, 0⟩,
   ⟨some 9, .call (.c (.fn (.func 66) [] [])) [.t 6, .t 8], none, 0⟩,
   ⟨some 5, .mv (.t 9), none, 0⟩])
 (.seq (.reg false [⟨some 10, .mv (.t 5), none, 0⟩,
   ⟨some 11, .eq .ptr true (.t 10) (.c (.d (.v (.pointer none)))), none, 0⟩])
 (.cond 11 (.seq (.reg false [⟨some 12, .mv (.t 5), none, 0⟩,
     ⟨some 13, .nilc (.t 12), none, 0⟩,
     ⟨some 14, .ld 1 false (.t 13), none, 0⟩,
     ⟨some 4, .mv (.t 14), none, 0⟩])
   (.ret))
   (.skip))))
 (.seq (.reg false [⟨some 4, .mv (.c (.d (.v (.int .u64 0)))), none, 0⟩])
 (.ret)))⟩
theorem c21 : coF Try.prog Try.f21 = some C21 := by kernel_rfl
def A21 : Ann := { keep := [0, 1, 4, 5, 11], live := [] }
def E21 {Ω : Type} : Env Ω := econs 66 S66 (enil)
theorem e21 : GoodE Try.prog E21 := GoodE.cons g66 (GoodE.nil)
def S21 {Ω : Type} : Spec Ω := inl E21 A21 C21 false
theorem g21 : Good1 Try.prog 21 S21 := Good1.inl e21 mix Try.func21 (by kernel_rfl) c21 A21 false
/-- (*coatcheck/coatcheckref03.Memory).Load -/
def C22 : CF := ⟨2, [(4, none)],
 .seq (.reg false [⟨some 4, .mv (.c (.d (.v (.int .u64 0)))), none, 0⟩])
 (.seq (.reg false [⟨some 8, .mv (.t 0), none, 0⟩,
   ⟨some 9, .mv (.t 1), none, 0⟩,
   ⟨some 10, .call (.c (.fn (.func 67) [] [])) [.t 8, .c (.d (.v (.int .i64 1))), .t 9, .c (.d (.v (.int .u64 0))), .c (.d (.v (.int .u64 0)))], none, 0⟩,
   ⟨some 7, .mv (.t 10), none, 0⟩,
   ⟨some 11, .ext 0 (.t 7), none, 0⟩,
   ⟨some 12, .ext 1 (.t 7), none, 0⟩,
   ⟨some 5, .mv (.t 11), none, 0⟩,
   ⟨some 6, .mv (.t 12), none, 0⟩])
 (.seq (.reg false [⟨some 13, .mv (.t 5), none, 0⟩,
   ⟨some 4, .mv (.t 13), none, 0⟩])
 (.ret)))⟩
theorem c22 : coF Try.prog Try.f22 = some C22 := by kernel_rfl
def A22 : Ann := { keep := [0, 1, 4, 5], live := [] }
def E22 {Ω : Type} : Env Ω := econs 67 S67 (enil)
theorem e22 : GoodE Try.prog E22 := GoodE.cons g67 (GoodE.nil)
def S22 {Ω : Type} : Spec Ω := inl E22 A22 C22 false
theorem g22 : Good1 Try.prog 22 S22 := Good1.inl e22 mix Try.func22 (by kernel_rfl) c22 A22 false
/-- (*coatcheck/memory.Memory).Store -/
def C23 : CF := ⟨3, [],
 .seq (.reg false [⟨some 7, .mv (.t 0), none, 0⟩,
   ⟨some 8, .mv (.t 1), none, 0⟩,
   ⟨some 9, .mv (.t 2), none, 0⟩,
   ⟨some 10, .bld [.d (.v (.int .i64 0)), .d (.v (.int .i64 0)), .d (.v (.int .u64 0)), .d (.v (.int .u64 0)), .d (.v (.int .u64 0))] [(0, 1, .c (.d (.v (.int .i64 2)))), (1, 1, .t 8), (2, 1, .t 9)], none, 0⟩,
   ⟨some 11, .call (.c (.fn (.func 66) [] [])) [.t 7, .t 10], none, 0⟩,
   ⟨some 6, .mv (.t 11), none, 0⟩])
 (.seq (.reg false [⟨some 12, .mv (.t 6), none, 0⟩,
   ⟨some 13, .eq .ptr true (.t 12) (.c (.d (.v (.pointer none)))), none, 0⟩])
 (.cond 13 (.reg false [⟨some 14, .mv (.t 6), none, 0⟩,
     ⟨some 15, .mv (.t 2), none, 0⟩,
     ⟨some 16, .nilc (.t 14), none, 0⟩,
     ⟨none, .st 1 (.t 16) (.t 15), none, 0⟩])
   (.skip)))⟩
theorem c23 : coF Try.prog Try.f23 = some C23 := by kernel_rfl
def A23 : Ann := { keep := [0, 1, 2, 6, 13], live := [] }
def E23 {Ω : Type} : Env Ω := econs 66 S66 (enil)
theorem e23 : GoodE Try.prog E23 := GoodE.cons g66 (GoodE.nil)
def S23 {Ω : Type} : Spec Ω := inl E23 A23 C23 false
theorem g23 : Good1 Try.prog 23 S23 := Good1.inl e23 mix Try.func23 (by kernel_rfl) c23 A23 false
/-- (*coatcheck/coatcheckref03.Memory).Store -/
def C24 : CF := ⟨3, [],
 .reg false [⟨some 6, .mv (.t 0), none, 0⟩,
   ⟨some 7, .mv (.t 1), none, 0⟩,
   ⟨some 8, .mv (.t 2), none, 0⟩,
   ⟨some 9, .call (.c (.fn (.func 67) [] [])) [.t 6, .c (.d (.v (.int .i64 2))), .t 7, .t 8, .c (.d (.v (.int .u64 0)))], none, 0⟩]⟩
theorem c24 : coF Try.prog Try.f24 = some C24 := by kernel_rfl
def A24 : Ann := { keep := [0, 1, 2], live := [] }
def E24 {Ω : Type} : Env Ω := econs 67 S67 (enil)
theorem e24 : GoodE Try.prog E24 := GoodE.cons g67 (GoodE.nil)
def S24 {Ω : Type} : Spec Ω := inl E24 A24 C24 false
theorem g24 : Good1 Try.prog 24 S24 := Good1.inl e24 mix Try.func24 (by kernel_rfl) c24 A24 false
/-- (*coatcheck/memory.Memory).Cas -/
def C25 : CF := ⟨4, [(8, none)],
 .seq (.reg false [⟨some 8, .mv (.c (.d (.v (.bool false)))), none, 0⟩])
 (.seq (.reg false [⟨some 10, .mv (.t 0), none, 0⟩,
   ⟨some 11, .mv (.t 1), none, 0⟩,
   ⟨some 12, .mv (.t 2), none, 0⟩,
   ⟨some 13, .mv (.t 3), none, 0⟩,
   ⟨some 14, .bld [.d (.v (.int .i64 0)), .d (.v (.int .i64 0)), .d (.v (.int .u64 0)), .d (.v (.int .u64 0)), .d (.v (.int .u64 0))] [(0, 1, .c (.d (.v (.int .i64 3)))), (1, 1, .t 11), (2, 1, .t 12), (3, 1, .t 13)], none, 0⟩,
   ⟨some 15, .call (.c (.fn (.func 66) [] [])) [.t 10, .t 14], none, 0⟩,
   ⟨some 9, .mv (.t 15), none, 0⟩])
 (.seq (.seq (.reg false [⟨some 16, .mv (.t 9), none, 0⟩,
   ⟨some 17, .eq .ptr false (.t 16) (.c (.d (.v (.pointer none)))), none, 0⟩,
   ⟨some 18, .mv (.t 17), none, 0⟩,
   ⟨some 19, .mv (.t 9), some (18, false), 0⟩,
   ⟨some 20, .nilc (.t 19), some (18, false), 0⟩,
   ⟨some 21, .ld 1 false (.t 20), some (18, false), 0⟩,
   ⟨some 22, .mv (.t 2), some (18, false), 0⟩,
   ⟨some 23, .eq .int true (.t 21) (.t 22), some (18, false), 0⟩,
   ⟨some 24, .pick (.t 18) (.c (.d (.v (.bool true)))) (.t 23), none, 0⟩])
 (.cond 24 (.seq (.reg false [⟨some 8, .mv (.c (.d (.v (.bool false)))), none, 0⟩])
   (.ret))
   (.skip)))
 (.seq (.reg false [⟨some 25, .mv (.t 9), none, 0⟩,
   ⟨some 26, .mv (.t 3), none, 0⟩,
   ⟨some 27, .nilc (.t 25), none, 0⟩,
   ⟨none, .st 1 (.t 27) (.t 26), none, 0⟩])
 (.seq (.reg false [⟨some 8, .mv (.c (.d (.v (.bool true)))), none, 0⟩])
 (.ret)))))⟩
theorem c25 : coF Try.prog Try.f25 = some C25 := by kernel_rfl
def A25 : Ann := { keep := [0, 1, 2, 3, 8, 9, 24], live := [] }
def E25 {Ω : Type} : Env Ω := econs 66 S66 (enil)
theorem e25 : GoodE Try.prog E25 := GoodE.cons g66 (GoodE.nil)
def S25 {Ω : Type} : Spec Ω := inl E25 A25 C25 false
theorem g25 : Good1 Try.prog 25 S25 := Good1.inl e25 mix Try.func25 (by kernel_rfl) c25 A25 false
/-- (*coatcheck/coatcheckref03.Memory).Cas -/
def C26 : CF := ⟨4, [(8, none)],
 .seq (.reg false [⟨some 8, .mv (.c (.d (.v (.bool false)))), none, 0⟩])
 (.seq (.reg false [⟨some 12, .mv (.t 0), none, 0⟩,
   ⟨some 13, .mv (.t 1), none, 0⟩,
   ⟨some 14, .mv (.t 2), none, 0⟩,
   ⟨some 15, .mv (.t 3), none, 0⟩,
   ⟨some 16, .call (.c (.fn (.func 67) [] [])) [.t 12, .c (.d (.v (.int .i64 3))), .t 13, .t 14, .t 15], none, 0⟩,
   ⟨some 11, .mv (.t 16), none, 0⟩,
   ⟨some 17, .ext 0 (.t 11), none, 0⟩,
   ⟨some 18, .ext 1 (.t 11), none, 0⟩,
   ⟨some 9, .mv (.t 17), none, 0⟩,
   ⟨some 10, .mv (.t 18), none, 0⟩])
 (.seq (.reg false [⟨some 19, .mv (.t 10), none, 0⟩,
   ⟨some 20, .mv (.t 19), none, 0⟩,
   ⟨some 21, .mv (.t 9), some (20, true), 0⟩,
   ⟨some 22, .mv (.t 2), some (20, true), 0⟩,
   ⟨some 23, .eq .int false (.t 21) (.t 22), some (20, true), 0⟩,
   ⟨some 24, .pick (.t 20) (.t 23) (.c (.d (.v (.bool false)))), none, 0⟩,
   ⟨some 8, .mv (.t 24), none, 0⟩])
 (.ret)))⟩
theorem c26 : coF Try.prog Try.f26 = some C26 := by kernel_rfl
def A26 : Ann := { keep := [0, 1, 2, 3, 8, 9, 10], live := [] }
def E26 {Ω : Type} : Env Ω := econs 67 S67 (enil)
theorem e26 : GoodE Try.prog E26 := GoodE.cons g67 (GoodE.nil)
def S26 {Ω : Type} : Spec Ω := inl E26 A26 C26 false
theorem g26 : Good1 Try.prog 26 S26 := Good1.inl e26 mix Try.func26 (by kernel_rfl) c26 A26 false
/-- (*coatcheck/memory.Memory).Add -/
def C27 : CF := ⟨3, [(6, none)],
 .seq (.reg false [⟨some 6, .mv (.c (.d (.v (.int .u64 0)))), none, 0⟩])
 (.seq (.reg false [⟨some 8, .mv (.t 0), none, 0⟩,
   ⟨some 9, .mv (.t 1), none, 0⟩,
   ⟨some 10, .mv (.t 2), none, 0⟩,
   ⟨some 11, .bld [.d (.v (.int .i64 0)), .d (.v (.int .i64 0)), .d (.v (.int .u64 0)), .d (.v (.int .u64 0)), .d (.v (.int .u64 0))] [(0, 1, .c (.d (.v (.int .i64 4)))), (1, 1, .t 9), (2, 1, .t 10)], none, 0⟩,
   ⟨some 12, .call (.c (.fn (.func 66) [] [])) [.t 8, .t 11], none, 0⟩,
   ⟨some 7, .mv (.t 12), none, 0⟩])
 (.seq (.seq (.reg false [⟨some 13, .mv (.t 7), none, 0⟩,
   ⟨some 14, .eq .ptr false (.t 13) (.c (.d (.v (.pointer none)))), none, 0⟩])
 (.cond 14 (.seq (.reg false [⟨some 6, .mv (.c (.d (.v (.int .u64 0)))), none, 0⟩])
   (.ret))
   (.skip)))
 (.seq (.reg false [⟨some 15, .mv (.t 7), none, 0⟩,
   ⟨some 16, .nilc (.t 15), none, 0⟩,
   ⟨some 17, .ld 1 false (.t 16), none, 0⟩,
   ⟨some 18, .mv (.t 2), none, 0⟩,
   ⟨some 19, .bin .add (.t 17) (.t 18), none, 0⟩,
   ⟨some 20, .nilc (.t 15), none, 0⟩,
   ⟨none, .st 1 (.t 20) (.t 19), none, 0⟩])
 (.seq (.reg false [⟨some 21, .mv (.t 7), none, 0⟩,
   ⟨some 22, .nilc (.t 21), none, 0⟩,
   ⟨some 23, .ld 1 false (.t 22), none, 0⟩,
   ⟨some 24, .mv (.t 2), none, 0⟩,
   ⟨some 25, .bin .sub (.t 23) (.t 24), none, 0⟩,
   ⟨some 6, .mv (.t 25), none, 0⟩])
 (.ret)))))⟩
theorem c27 : coF Try.prog Try.f27 = some C27 := by kernel_rfl
def A27 : Ann := { keep := [0, 1, 2, 6, 7, 14], live := [] }
def E27 {Ω : Type} : Env Ω := econs 66 S66 (enil)
theorem e27 : GoodE Try.prog E27 := GoodE.cons g66 (GoodE.nil)
def S27 {Ω : Type} : Spec Ω := inl E27 A27 C27 false
theorem g27 : Good1 Try.prog 27 S27 := Good1.inl e27 mix Try.func27 (by kernel_rfl) c27 A27 false
/-- (*coatcheck/coatcheckref03.Memory).Add -/
def C28 : CF := ⟨3, [(6, none)],
 .seq (.reg false [⟨some 6, .mv (.c (.d (.v (.int .u64 0)))), none, 0⟩])
 (.seq (.reg false [⟨some 10, .mv (.t 0), none, 0⟩,
   ⟨some 11, .mv (.t 1), none, 0⟩,
   ⟨some 12, .mv (.t 2), none, 0⟩,
   ⟨some 13, .call (.c (.fn (.func 67) [] [])) [.t 10, .c (.d (.v (.int .i64 4))), .t 11, .t 12, .c (.d (.v (.int .u64 0)))], none, 0⟩,
   ⟨some 9, .mv (.t 13), none, 0⟩,
   ⟨some 14, .ext 0 (.t 9), none, 0⟩,
   ⟨some 15, .ext 1 (.t 9), none, 0⟩,
   ⟨some 7, .mv (.t 14), none, 0⟩,
   ⟨some 8, .mv (.t 15), none, 0⟩])
 (.seq (.reg false [⟨some 16, .mv (.t 7), none, 0⟩,
   ⟨some 6, .mv (.t 16), none, 0⟩])
 (.ret)))⟩
theorem c28 : coF Try.prog Try.f28 = some C28 := by kernel_rfl
def A28 : Ann := { keep := [0, 1, 2, 6, 7], live := [] }
def E28 {Ω : Type} : Env Ω := econs 67 S67 (enil)
theorem e28 : GoodE Try.prog E28 := GoodE.cons g67 (GoodE.nil)
def S28 {Ω : Type} : Spec Ω := inl E28 A28 C28 false
theorem g28 : Good1 Try.prog 28 S28 := Good1.inl e28 mix Try.func28 (by kernel_rfl) c28 A28 false
/-- (*coatcheck/memory.Memory).Clear -/
def C29 : CF := ⟨1, [],
 .seq (.reg false [⟨some 2, .mv (.t 0), none, 0⟩,
   ⟨some 3, .eq .ptr true (.t 2) (.c (.d (.v (.pointer none)))), none, 0⟩])
 (.cond 3 (.reg false [⟨some 4, .mv (.t 0), none, 0⟩,
     ⟨some 5, .bld [.d (.v (.int .i64 0)), .d (.v (.int .i64 0)), .d (.v (.int .u64 0)), .d (.v (.int .u64 0)), .d (.v (.int .u64 0))] [], none, 0⟩,
     ⟨some 6, .nilc (.t 4), none, 0⟩,
     ⟨some 7, .fa 8 (.t 6), none, 0⟩,
     ⟨none, .st 5 (.t 7) (.t 5), none, 0⟩])
   (.skip))⟩
theorem c29 : coF Try.prog Try.f29 = some C29 := by kernel_rfl
def A29 : Ann := { keep := [0, 3], live := [] }
def E29 {Ω : Type} : Env Ω := enil
theorem e29 : GoodE Try.prog E29 := GoodE.nil
def S29 {Ω : Type} : Spec Ω := inl E29 A29 C29 false
theorem g29 : Good1 Try.prog 29 S29 := Good1.inl e29 mix Try.func29 (by kernel_rfl) c29 A29 false
/-- (*coatcheck/memory.Memory).Peek -/
def C30 : CF := ⟨2, [(4, none)],
 .seq (.reg false [⟨some 4, .mv (.c (.d (.v (.int .u64 0)))), none, 0⟩])
 (.seq (.seq (.reg false [⟨some 5, .mv (.t 0), none, 0⟩,
   ⟨some 6, .eq .ptr false (.t 5) (.c (.d (.v (.pointer none)))), none, 0⟩,
   ⟨some 7, .mv (.t 6), none, 0⟩,
   ⟨some 8, .mv (.t 1), some (7, false), 0⟩,
   ⟨some 9, .bin .lss (.t 8) (.c (.d (.v (.int .i64 0)))), some (7, false), 0⟩,
   ⟨some 10, .pick (.t 7) (.c (.d (.v (.bool true)))) (.t 9), none, 0⟩,
   ⟨some 11, .mv (.t 10), none, 0⟩,
   ⟨some 12, .mv (.t 1), some (11, false), 0⟩,
   ⟨some 13, .mv (.t 0), some (11, false), 0⟩,
   ⟨some 14, .nilc (.t 13), some (11, false), 0⟩,
   ⟨some 15, .fa 13 (.t 14), some (11, false), 0⟩,
   ⟨some 16, .ld 1 false (.t 15), some (11, false), 0⟩,
   ⟨some 17, .len (.t 16), some (11, false), 0⟩,
   ⟨some 18, .bin .geq (.t 12) (.t 17), some (11, false), 0⟩,
   ⟨some 19, .pick (.t 11) (.c (.d (.v (.bool true)))) (.t 18), none, 0⟩])
 (.cond 19 (.seq (.reg false [⟨some 4, .mv (.c (.d (.v (.int .u64 0)))), none, 0⟩])
   (.ret))
   (.skip)))
 (.seq (.reg false [⟨some 20, .mv (.t 0), none, 0⟩,
   ⟨some 21, .nilc (.t 20), none, 0⟩,
   ⟨some 22, .fa 13 (.t 21), none, 0⟩,
   ⟨some 23, .ld 1 false (.t 22), none, 0⟩,
   ⟨some 24, .mv (.t 1), none, 0⟩,
   ⟨some 25, .ixs 1 (.t 23) (.t 24), none, 0⟩,
   ⟨some 26, .ld 1 false (.t 25), none, 0⟩,
   ⟨some 4, .mv (.t 26), none, 0⟩])
 (.ret)))⟩
theorem c30 : coF Try.prog Try.f30 = some C30 := by kernel_rfl
def A30 : Ann := { keep := [0, 1, 4, 19], live := [] }
def E30 {Ω : Type} : Env Ω := enil
theorem e30 : GoodE Try.prog E30 := GoodE.nil
def S30 {Ω : Type} : Spec Ω := inl E30 A30 C30 false
theorem g30 : Good1 Try.prog 30 S30 := Good1.inl e30 mix Try.func30 (by kernel_rfl) c30 A30 false
/-- (*coatcheck/memory.Memory).Copy -/
def C31 : CF := ⟨1, [(2, none)],
 .seq (.reg false [⟨some 2, .mv (.c (.d (.v (.pointer none)))), none, 0⟩])
 (.seq (.seq (.reg false [⟨some 3, .mv (.t 0), none, 0⟩,
   ⟨some 4, .eq .ptr false (.t 3) (.c (.d (.v (.pointer none)))), none, 0⟩])
 (.cond 4 (.seq (.reg false [⟨some 2, .mv (.c (.d (.v (.pointer none)))), none, 0⟩])
   (.ret))
   (.skip)))
 (.seq (.reg true [⟨some 5, .mv (.t 0), none, 0⟩,
   ⟨some 6, .nilc (.t 5), none, 1⟩,
   ⟨some 7, .fa 0 (.t 6), none, 3⟩,
   ⟨some 8, .ld 8 true (.t 7), none, 7⟩,
   ⟨some 9, .mv (.t 0), none, 0⟩,
   ⟨some 10, .nilc (.t 9), none, 16⟩,
   ⟨some 11, .fa 13 (.t 10), none, 48⟩,
   ⟨some 12, .ld 1 false (.t 11), none, 112⟩,
   ⟨some 13, .call (.c (.fn (.func 65) [] [])) [.t 12], none, 240⟩,
   ⟨some 14, .bld [.d (.v (.int .i64 0)), .d (.v (.int .i64 0)), .d (.v (.int .i64 0)), .d (.v (.int .i64 0)), .d (.v (.int .i64 0)), .d (.v (.int .i64 0)), .d (.v (.int .i64 0)), .d (.v (.int .u64 0)), .d (.v (.int .i64 0)), .d (.v (.int .i64 0)), .d (.v (.int .u64 0)), .d (.v (.int .u64 0)), .d (.v (.int .u64 0)), .d (.v (.slice none 0 0))] [(0, 8, .t 8), (13, 1, .t 13)], none, 511⟩,
   ⟨some 15, .box 51 14 (.t 14), none, 1023⟩,
   ⟨some 2, .mv (.t 15), none, 2047⟩])
 (.ret)))⟩
theorem c31 : coF Try.prog Try.f31 = some C31 := by kernel_rfl
def A31 : Ann := { keep := [0, 2, 4], live := [] }
def E31 {Ω : Type} : Env Ω := econs 65 S65 (enil)
theorem e31 : GoodE Try.prog E31 := GoodE.cons g65 (GoodE.nil)
def S31 {Ω : Type} : Spec Ω := inl E31 A31 C31 false
theorem g31 : Good1 Try.prog 31 S31 := Good1.inl e31 mix Try.func31 (by kernel_rfl) c31 A31 false
/-- (*coatcheck/memory.Memory).All -/
def C33 : CF := ⟨1, [(2, none)],
 .seq (.reg false [⟨some 2, .mv (.c (.d (.v (.slice none 0 0)))), none, 0⟩])
 (.seq (.seq (.reg false [⟨some 3, .mv (.t 0), none, 0⟩,
   ⟨some 4, .eq .ptr false (.t 3) (.c (.d (.v (.pointer none)))), none, 0⟩])
 (.cond 4 (.seq (.reg false [⟨some 2, .mv (.c (.d (.v (.slice none 0 0)))), none, 0⟩])
   (.ret))
   (.skip)))
 (.seq (.reg false [⟨some 5, .mv (.t 0), none, 0⟩,
   ⟨some 6, .nilc (.t 5), none, 0⟩,
   ⟨some 7, .fa 13 (.t 6), none, 0⟩,
   ⟨some 8, .ld 1 false (.t 7), none, 0⟩,
   ⟨some 9, .call (.c (.fn (.func 65) [] [])) [.t 8], none, 0⟩,
   ⟨some 2, .mv (.t 9), none, 0⟩])
 (.ret)))⟩
theorem c33 : coF Try.prog Try.f33 = some C33 := by kernel_rfl
def A33 : Ann := { keep := [0, 2, 4], live := [] }
def E33 {Ω : Type} : Env Ω := econs 65 S65 (enil)
theorem e33 : GoodE Try.prog E33 := GoodE.cons g65 (GoodE.nil)
def S33 {Ω : Type} : Spec Ω := inl E33 A33 C33 false
theorem g33 : Good1 Try.prog 33 S33 := Good1.inl e33 mix Try.func33 (by kernel_rfl) c33 A33 false
/-- coatcheck/pack.Head -/
def C109 : CF := ⟨2, [(4, none)],
 .seq (.reg false [⟨some 4, .mv (.c (.d (.v (.int .u64 0)))), none, 0⟩])
 (.seq (.reg false [⟨some 5, .mv (.t 1), none, 0⟩,
   ⟨some 6, .bin .shl (.t 5) (.c (.d (.v (.int .u64 32)))), none, 0⟩,
   ⟨some 7, .mv (.t 0), none, 0⟩,
   ⟨some 8, .bin .add (.t 7) (.c (.d (.v (.int .i64 1)))), none, 0⟩,
   ⟨some 9, .conv .u32 (.t 8), none, 0⟩,
   ⟨some 10, .conv .u64 (.t 9), none, 0⟩,
   ⟨some 11, .bin .or (.t 6) (.t 10), none, 0⟩,
   ⟨some 4, .mv (.t 11), none, 0⟩])
 (.ret))⟩
theorem c109 : coF Try.prog Try.f109 = some C109 := by kernel_rfl
def A109 : Ann := { keep := [0, 1, 4], live := [] }
def E109 {Ω : Type} : Env Ω := enil
theorem e109 : GoodE Try.prog E109 := GoodE.nil
def S109 {Ω : Type} : Spec Ω := inl E109 A109 C109 false
theorem g109 : Good1 Try.prog 109 S109 := Good1.inl e109 mix Try.func109 (by kernel_rfl) c109 A109 false
/-- coatcheck/pack.Entry -/
def C110 : CF := ⟨3, [(6, none)],
 .seq (.reg false [⟨some 6, .mv (.c (.d (.v (.int .u64 0)))), none, 0⟩])
 (.seq (.reg false [⟨some 7, .mv (.t 0), none, 0⟩,
   ⟨some 8, .bin .shl (.t 7) (.c (.d (.v (.int .u64 20)))), none, 0⟩,
   ⟨some 9, .mv (.t 1), none, 0⟩,
   ⟨some 10, .bin .add (.t 9) (.c (.d (.v (.int .i64 1)))), none, 0⟩,
   ⟨some 11, .conv .u16 (.t 10), none, 0⟩,
   ⟨some 12, .conv .u64 (.t 11), none, 0⟩,
   ⟨some 13, .bin .shl (.t 12) (.c (.d (.v (.int .u64 4)))), none, 0⟩,
   ⟨some 14, .bin .or (.t 8) (.t 13), none, 0⟩,
   ⟨some 15, .mv (.t 2), none, 0⟩,
   ⟨some 16, .conv .u8 (.t 15), none, 0⟩,
   ⟨some 17, .bin .shl (.t 16) (.c (.d (.v (.int .u64 4)))), none, 0⟩,
   ⟨some 18, .bin .shr (.t 17) (.c (.d (.v (.int .u64 4)))), none, 0⟩,
   ⟨some 19, .conv .u64 (.t 18), none, 0⟩,
   ⟨some 20, .bin .or (.t 14) (.t 19), none, 0⟩,
   ⟨some 6, .mv (.t 20), none, 0⟩])
 (.ret))⟩
theorem c110 : coF Try.prog Try.f110 = some C110 := by kernel_rfl
def A110 : Ann := { keep := [0, 1, 2, 6], live := [] }
def E110 {Ω : Type} : Env Ω := enil
theorem e110 : GoodE Try.prog E110 := GoodE.nil
def S110 {Ω : Type} : Spec Ω := inl E110 A110 C110 false
theorem g110 : Good1 Try.prog 110 S110 := Good1.inl e110 mix Try.func110 (by kernel_rfl) c110 A110 false
/-- (coatcheck/plan.Plan).at -/
def C122 : CF := ⟨5, [(10, none)],
 .seq (.reg false [⟨some 5, .box 49 8 (.t 0), none, 0⟩,
   ⟨some 10, .mv (.c (.d (.v (.int .i64 0)))), none, 0⟩])
 (.seq (.seq (.reg false [⟨some 11, .mv (.t 2), none, 0⟩,
   ⟨some 12, .bin .lss (.t 11) (.c (.d (.v (.int .i64 0)))), none, 0⟩,
   ⟨some 13, .mv (.t 12), none, 0⟩,
   ⟨some 14, .mv (.t 2), some (13, false), 0⟩,
   ⟨some 15, .mv (.t 3), some (13, false), 0⟩,
   ⟨some 16, .bin .geq (.t 14) (.t 15), some (13, false), 0⟩,
   ⟨some 17, .pick (.t 13) (.c (.d (.v (.bool true)))) (.t 16), none, 0⟩,
   ⟨some 18, .mv (.t 17), none, 0⟩,
   ⟨some 19, .fa 0 (.t 5), some (18, false), 0⟩,
   ⟨some 20, .ld 8 true (.t 19), some (18, false), 0⟩,
   ⟨some 21, .call (.c (.fn (.func 106) [] [])) [.t 20], some (18, false), 0⟩,
   ⟨some 22, .eq .int true (.t 21) (.c (.d (.v (.int .i64 0)))), some (18, false), 0⟩,
   ⟨some 23, .pick (.t 18) (.c (.d (.v (.bool true)))) (.t 22), none, 0⟩])
 (.cond 23 (.seq (.reg false [⟨some 10, .mv (.c (.d (.v (.int .i64 (-1))))), none, 0⟩])
   (.ret))
   (.skip)))
 (.seq (.reg false [⟨some 24, .mv (.t 1), none, 0⟩,
   ⟨some 25, .mv (.t 2), none, 0⟩,
   ⟨some 26, .mv (.t 4), none, 0⟩,
   ⟨some 27, .bin .mul (.t 25) (.t 26), none, 0⟩,
   ⟨some 28, .bin .add (.t 24) (.t 27), none, 0⟩,
   ⟨some 10, .mv (.t 28), none, 0⟩])
 (.ret)))⟩
theorem c122 : coF Try.prog Try.f122 = some C122 := by kernel_rfl
def A122 : Ann := { keep := [0, 1, 2, 3, 4, 5, 10, 23], live := [] }
def E122 {Ω : Type} : Env Ω := econs 106 S106 (enil)
theorem e122 : GoodE Try.prog E122 := GoodE.cons g106 (GoodE.nil)
def S122 {Ω : Type} : Spec Ω := inl E122 A122 C122 false
theorem g122 : Good1 Try.prog 122 S122 := Good1.inl e122 mix Try.func122 (by kernel_rfl) c122 A122 false
/-- (coatcheck/plan.Plan).Entry -/
def C111 : CF := ⟨2, [(4, none)],
 .seq (.reg false [⟨some 2, .box 49 8 (.t 0), none, 0⟩,
   ⟨some 4, .mv (.c (.d (.v (.int .i64 0)))), none, 0⟩])
 (.seq (.reg true [⟨some 5, .ld 8 true (.t 2), none, 0⟩,
   ⟨some 6, .ld 8 true (.t 2), none, 0⟩,
   ⟨some 7, .call (.c (.fn (.func 127) [] [])) [.t 6], none, 2⟩,
   ⟨some 8, .mv (.t 1), none, 0⟩,
   ⟨some 9, .fa 0 (.t 2), none, 0⟩,
   ⟨some 10, .fa 4 (.t 9), none, 16⟩,
   ⟨some 11, .ld 1 false (.t 10), none, 48⟩,
   ⟨some 12, .call (.c (.fn (.func 122) [] [])) [.t 5, .t 7, .t 8, .t 11, .c (.d (.v (.int .i64 2)))], none, 127⟩,
   ⟨some 4, .mv (.t 12), none, 255⟩])
 (.ret))⟩
theorem c111 : coF Try.prog Try.f111 = some C111 := by kernel_rfl
def A111 : Ann := { keep := [0, 1, 2, 4], live := [] }
def E111 {Ω : Type} : Env Ω := econs 122 S122 (econs 127 S127 (enil))
theorem e111 : GoodE Try.prog E111 := GoodE.cons g122 (GoodE.cons g127 (GoodE.nil))
def S111 {Ω : Type} : Spec Ω := inl E111 A111 C111 false
theorem g111 : Good1 Try.prog 111 S111 := Good1.inl e111 mix Try.func111 (by kernel_rfl) c111 A111 false
/-- (coatcheck/plan.Plan).EntryLink -/
def C112 : CF := ⟨2, [(4, none)],
 .seq (.reg false [⟨some 2, .box 49 8 (.t 0), none, 0⟩,
   ⟨some 4, .mv (.c (.d (.v (.int .i64 0)))), none, 0⟩])
 (.seq (.reg true [⟨some 5, .ld 8 true (.t 2), none, 0⟩,
   ⟨some 6, .ld 8 true (.t 2), none, 0⟩,
   ⟨some 7, .call (.c (.fn (.func 127) [] [])) [.t 6], none, 2⟩,
   ⟨some 8, .bin .add (.t 7) (.c (.d (.v (.int .i64 1)))), none, 6⟩,
   ⟨some 9, .mv (.t 1), none, 0⟩,
   ⟨some 10, .fa 0 (.t 2), none, 0⟩,
   ⟨some 11, .fa 4 (.t 10), none, 32⟩,
   ⟨some 12, .ld 1 false (.t 11), none, 96⟩,
   ⟨some 13, .call (.c (.fn (.func 122) [] [])) [.t 5, .t 8, .t 9, .t 12, .c (.d (.v (.int .i64 2)))], none, 255⟩,
   ⟨some 4, .mv (.t 13), none, 511⟩])
 (.ret))⟩
theorem c112 : coF Try.prog Try.f112 = some C112 := by kernel_rfl
def A112 : Ann := { keep := [0, 1, 2, 4], live := [] }
def E112 {Ω : Type} : Env Ω := econs 122 S122 (econs 127 S127 (enil))
theorem e112 : GoodE Try.prog E112 := GoodE.cons g122 (GoodE.cons g127 (GoodE.nil))
def S112 {Ω : Type} : Spec Ω := inl E112 A112 C112 false
theorem g112 : Good1 Try.prog 112 S112 := Good1.inl e112 mix Try.func112 (by kernel_rfl) c112 A112 false
def K68_1 : CC := .seq (.reg false [⟨some 47, .mv (.t 5), none, 0⟩,
   ⟨some 2, .mv (.t 47), none, 0⟩])
 (.ret)
def K68_2 : CC := .seq (.cond 25 (.skip)
   (.exit 0))
 (.seq (.block 1 (.seq (.reg false [⟨some 26, .mv (.t 24), none, 0⟩,
     ⟨some 6, .mv (.t 26), none, 0⟩])
   (.seq (.reg false [⟨some 27, .mv (.t 5), none, 0⟩,
     ⟨some 28, .ld 8 true (.t 3), none, 0⟩,
     ⟨some 29, .mv (.t 6), none, 0⟩,
     ⟨some 30, .call (.c (.fn (.func 111) [] [])) [.t 28, .t 29], none, 0⟩,
     ⟨some 31, .call (.c (.fn (.func 110) [] [])) [.c (.d (.v (.int .u64 1))), .c (.d (.v (.int .i64 (-1)))), .c (.d (.v (.int .i64 0)))], none, 0⟩,
     ⟨some 32, .ixs 1 (.t 27) (.t 30), none, 0⟩,
     ⟨none, .st 1 (.t 32) (.t 31), none, 0⟩])
   (.seq (.reg false [⟨some 33, .mv (.t 6), none, 0⟩,
     ⟨some 34, .bin .add (.t 33) (.c (.d (.v (.int .i64 1)))), none, 0⟩,
     ⟨some 35, .fa 4 (.t 1), none, 0⟩,
     ⟨some 36, .ld 1 false (.t 35), none, 0⟩,
     ⟨some 37, .bin .lss (.t 34) (.t 36), none, 0⟩])
   (.cond 37 (.reg false [⟨some 38, .mv (.t 5), none, 0⟩,
       ⟨some 39, .ld 8 true (.t 3), none, 0⟩,
       ⟨some 40, .mv (.t 6), none, 0⟩,
       ⟨some 41, .call (.c (.fn (.func 112) [] [])) [.t 39, .t 40], none, 0⟩,
       ⟨some 42, .mv (.t 6), none, 0⟩,
       ⟨some 43, .bin .add (.t 42) (.c (.d (.v (.int .i64 2)))), none, 0⟩,
       ⟨some 44, .conv .u64 (.t 43), none, 0⟩,
       ⟨some 45, .ixs 1 (.t 38) (.t 41), none, 0⟩,
       ⟨none, .st 1 (.t 45) (.t 44), none, 0⟩])
     (.skip))))))
 (.reg false [⟨some 46, .bin .add (.t 24) (.c (.d (.v (.int .i64 1)))), none, 0⟩,
   ⟨some 24, .mv (.t 46), none, 0⟩]))
def K68_3 : CC := .reg false [⟨some 25, .bin .lss (.t 24) (.t 23), none, 0⟩]
def L68_4 : CC := .seq K68_3 K68_2
def K68_5 : CC := .reg false [⟨some 22, .fa 4 (.t 1), none, 0⟩,
   ⟨some 23, .ld 1 false (.t 22), none, 0⟩,
   ⟨some 24, .mv (.c (.d (.v (.int .i64 0)))), none, 0⟩]
def K68_6 : CC := .reg false [⟨some 17, .mv (.t 5), none, 0⟩,
   ⟨some 18, .mv (.t 5), none, 0⟩,
   ⟨some 19, .call (.c (.fn (.func 109) [] [])) [.c (.d (.v (.int .i64 0))), .c (.d (.v (.int .u64 0)))], none, 0⟩,
   ⟨some 20, .ixs 1 (.t 17) (.c (.d (.v (.int .i64 0)))), none, 0⟩,
   ⟨none, .st 1 (.t 20) (.c (.d (.v (.int .u64 2)))), none, 0⟩,
   ⟨some 21, .ixs 1 (.t 18) (.c (.d (.v (.int .i64 2)))), none, 0⟩,
   ⟨none, .st 1 (.t 21) (.t 19), none, 0⟩]
def K68_7 : CC := .reg false [⟨some 14, .ld 8 true (.t 3), none, 0⟩,
   ⟨some 15, .call (.c (.fn (.func 64) [] [])) [.t 14], none, 0⟩,
   ⟨some 16, .mks 22 1 8 (some .u64) [.d (.v (.int .u64 0))] (.t 15), none, 0⟩,
   ⟨some 5, .mv (.t 16), none, 0⟩]
def K68_8 : CC := .seq (.reg false [⟨some 12, .mv (.t 4), none, 0⟩,
   ⟨some 13, .eq .int true (.t 12) (.c (.d (.v (.int .i64 0)))), none, 0⟩])
 (.cond 13 (.seq (.reg false [⟨some 2, .mv (.c (.d (.v (.slice none 0 0)))), none, 0⟩])
   (.ret))
   (.skip))
def K68_9 : CC := .reg false [⟨some 8, .ld 8 true (.t 1), none, 0⟩,
   ⟨some 9, .call (.c (.fn (.func 63) [] [])) [.t 8], none, 0⟩,
   ⟨some 7, .mv (.t 9), none, 0⟩,
   ⟨some 10, .ext 0 (.t 7), none, 0⟩,
   ⟨some 11, .ext 1 (.t 7), none, 0⟩,
   ⟨some 3, .newc 49 [.d (.v (.int .i64 0)), .d (.v (.int .i64 0)), .d (.v (.int .i64 0)), .d (.v (.int .i64 0)), .d (.v (.int .i64 0)), .d (.v (.int .i64 0)), .d (.v (.int .i64 0)), .d (.v (.int .u64 0))], none, 0⟩,
   ⟨none, .st 8 (.t 3) (.t 10), none, 0⟩,
   ⟨some 4, .mv (.t 11), none, 0⟩]
def K68_10 : CC := .reg false [⟨some 1, .box 24 8 (.t 0), none, 0⟩,
   ⟨some 2, .mv (.c (.d (.v (.slice none 0 0)))), none, 0⟩]
/-- coatcheck/plan.First -/
def C68 : CF := ⟨1, [(2, none)],
 .seq K68_10 (.seq K68_9 (.seq K68_8 (.seq K68_7 (.seq K68_6 (.seq (.seq K68_5 (.block 0 (.loop L68_4))) K68_1)))))⟩
theorem c68 : coF Try.prog Try.f68 = some C68 := by kernel_rfl
def A68 : Ann := { keep := [0, 1, 2, 3, 4, 5, 6, 13, 23, 24, 25, 37], live := [(0, [1, 3, 5, 23, 24])] }
def E68 {Ω : Type} : Env Ω := econs 63 S63 (econs 64 S64 (econs 109 S109 (econs 110 S110 (econs 111 S111 (econs 112 S112 (enil))))))
theorem e68 : GoodE Try.prog E68 := GoodE.cons g63 (GoodE.cons g64 (GoodE.cons g109 (GoodE.cons g110 (GoodE.cons g111 (GoodE.cons g112 (GoodE.nil))))))
def Z68_4 {Ω : Type} (it : Itr Ω) (K : SV → SH → Option Ω) : SE → SS → Option Ω := kblk 0 (kseq it E68 A68 K68_1 0 (kfn C68 K))
def S68 {Ω : Type} : Spec Ω := inl E68 A68 C68 false
theorem g68 : Good1 Try.prog 68 S68 := Good1.inl e68 mix Try.func68 (by kernel_rfl) c68 A68 false
/-- coatcheck/memory.New -/
def C34 : CF := ⟨1, [(2, none), (3, none)],
 .seq (.reg false [⟨some 1, .box 24 8 (.t 0), none, 0⟩,
   ⟨some 2, .mv (.c (.d (.v (.pointer none)))), none, 0⟩,
   ⟨some 3, .mv (.c (.d (.v (.int .i64 0)))), none, 0⟩])
 (.seq (.reg true [⟨some 4, .ld 8 true (.t 1), none, 0⟩,
   ⟨some 5, .ld 8 true (.t 1), none, 0⟩,
   ⟨some 6, .call (.c (.fn (.func 68) [] [])) [.t 5], none, 2⟩,
   ⟨some 7, .call (.c (.fn (.func 18) [] [])) [.t 4, .t 6], none, 7⟩,
   ⟨some 8, .ext 0 (.t 7), none, 15⟩,
   ⟨some 9, .ext 1 (.t 7), none, 15⟩,
   ⟨some 2, .mv (.t 8), none, 63⟩,
   ⟨some 3, .mv (.t 9), none, 127⟩])
 (.ret))⟩
theorem c34 : coF Try.prog Try.f34 = some C34 := by kernel_rfl
def A34 : Ann := { keep := [0, 1, 2, 3], live := [] }
def E34 {Ω : Type} : Env Ω := econs 18 S18 (econs 68 S68 (enil))
theorem e34 : GoodE Try.prog E34 := GoodE.cons g18 (GoodE.cons g68 (GoodE.nil))
def S34 {Ω : Type} : Spec Ω := inl E34 A34 C34 false
theorem g34 : Good1 Try.prog 34 S34 := Good1.inl e34 mix Try.func34 (by kernel_rfl) c34 A34 false
def K15_1 : CC := .seq (.reg false [⟨some 14, .mv (.t 1), none, 0⟩,
   ⟨some 15, .call (.c (.fn (.func 23) [] [])) [.t 14, .c (.d (.v (.int .i64 5))), .c (.d (.v (.int .u64 5)))], none, 0⟩])
 (.seq (.reg false [⟨some 16, .mv (.t 1), none, 0⟩,
   ⟨some 17, .call (.c (.fn (.func 27) [] [])) [.t 16, .c (.d (.v (.int .i64 5))), .c (.d (.v (.int .u64 3)))], none, 0⟩,
   ⟨some 18, .eq .int false (.t 17) (.c (.d (.v (.int .u64 5)))), none, 0⟩,
   ⟨some 19, .mv (.t 18), none, 0⟩,
   ⟨some 20, .mv (.t 1), some (19, true), 0⟩,
   ⟨some 21, .nilc (.t 20), some (19, true), 0⟩,
   ⟨some 22, .fa 8 (.t 21), some (19, true), 0⟩,
   ⟨some 23, .ld 5 true (.t 22), some (19, true), 0⟩,
   ⟨some 24, .bld [.d (.v (.int .i64 0)), .d (.v (.int .i64 0)), .d (.v (.int .u64 0)), .d (.v (.int .u64 0)), .d (.v (.int .u64 0))] [(0, 1, .c (.d (.v (.int .i64 4)))), (1, 1, .c (.d (.v (.int .i64 5)))), (2, 1, .c (.d (.v (.int .u64 3)))), (4, 1, .c (.d (.v (.int .u64 5))))], some (19, true), 0⟩,
   ⟨some 25, .eq (.cons .int 0 1 false (.cons .int 1 1 false (.cons .int 2 1 false (.cons .int 3 1 false (.cons .int 4 1 false .nil))))) false (.t 23) (.t 24), some (19, true), 0⟩,
   ⟨some 26, .pick (.t 19) (.t 25) (.c (.d (.v (.bool false)))), none, 0⟩,
   ⟨some 27, .mv (.t 26), none, 0⟩,
   ⟨some 28, .mv (.t 1), some (27, true), 0⟩,
   ⟨some 29, .call (.c (.fn (.func 30) [] [])) [.t 28, .c (.d (.v (.int .i64 5)))], some (27, true), 0⟩,
   ⟨some 30, .eq .int false (.t 29) (.c (.d (.v (.int .u64 8)))), some (27, true), 0⟩,
   ⟨some 31, .pick (.t 27) (.t 30) (.c (.d (.v (.bool false)))), none, 0⟩,
   ⟨some 0, .mv (.t 31), none, 0⟩])
 (.ret))
def K15_2 : CC := .seq (.reg false [⟨some 8, .mv (.t 2), none, 0⟩,
   ⟨some 9, .eq .int true (.t 8) (.c (.d (.v (.int .i64 0)))), none, 0⟩,
   ⟨some 10, .mv (.t 9), none, 0⟩,
   ⟨some 11, .mv (.t 1), some (10, false), 0⟩,
   ⟨some 12, .eq .ptr false (.t 11) (.c (.d (.v (.pointer none)))), some (10, false), 0⟩,
   ⟨some 13, .pick (.t 10) (.c (.d (.v (.bool true)))) (.t 12), none, 0⟩])
 (.cond 13 (.seq (.reg false [⟨some 0, .mv (.c (.d (.v (.bool false)))), none, 0⟩])
   (.ret))
   (.skip))
def K15_3 : CC := .reg false [⟨some 4, .bld [.d (.v (.int .i64 0)), .d (.v (.int .i64 0)), .d (.v (.int .i64 0)), .d (.v (.int .i64 0)), .d (.v (.int .i64 0)), .d (.v (.int .i64 0)), .d (.v (.int .i64 0)), .d (.v (.int .u64 0))] [(0, 1, .c (.d (.v (.int .i64 1)))), (1, 1, .c (.d (.v (.int .i64 1)))), (2, 1, .c (.d (.v (.int .i64 2)))), (3, 1, .c (.d (.v (.int .i64 1)))), (4, 1, .c (.d (.v (.int .i64 1)))), (6, 1, .c (.d (.v (.int .i64 1)))), (7, 1, .c (.d (.v (.int .u64 1))))], none, 0⟩,
   ⟨some 5, .call (.c (.fn (.func 34) [] [])) [.t 4], none, 0⟩,
   ⟨some 3, .mv (.t 5), none, 0⟩,
   ⟨some 6, .ext 0 (.t 3), none, 0⟩,
   ⟨some 7, .ext 1 (.t 3), none, 0⟩,
   ⟨some 1, .mv (.t 6), none, 0⟩,
   ⟨some 2, .mv (.t 7), none, 0⟩]
def K15_4 : CC := .reg false [⟨some 0, .mv (.c (.d (.v (.bool false)))), none, 0⟩]
/-- coatcheck/coatchecklaw03.awake -/
def C15 : CF := ⟨0, [(0, none)],
 .seq K15_4 (.seq K15_3 (.seq K15_2 K15_1))⟩
theorem c15 : coF Try.prog Try.f15 = some C15 := by kernel_rfl
def A15 : Ann := { keep := [0, 1, 2, 13], live := [] }
def E15 {Ω : Type} : Env Ω := econs 23 S23 (econs 27 S27 (econs 30 S30 (econs 34 S34 (enil))))
theorem e15 : GoodE Try.prog E15 := GoodE.cons g23 (GoodE.cons g27 (GoodE.cons g30 (GoodE.cons g34 (GoodE.nil))))
def S15 {Ω : Type} : Spec Ω := conSpec [] FTrue
theorem g15 : Good1 Try.prog 15 S15 := trueGood Try.func15 (by kernel_rfl) c15 (A := A15) e15 mix (by kernel_rfl)
def K3_1 : CC := .seq (.reg false [⟨some 211, .mv (.t 16), none, 0⟩,
   ⟨some 212, .call (.c (.fn (.func 23) [] [])) [.t 211, .c (.d (.v (.int .i64 0))), .c (.d (.v (.int .u64 99)))], none, 0⟩])
 (.seq (.reg true [⟨some 213, .mv (.t 8), none, 0⟩,
   ⟨some 214, .call (.c (.fn (.func 33) [] [])) [.t 213], none, 1⟩,
   ⟨some 215, .mv (.t 11), none, 0⟩,
   ⟨some 216, .nilc (.t 215), none, 4⟩,
   ⟨some 217, .fa 8 (.t 216), none, 12⟩,
   ⟨some 218, .ld 1 false (.t 217), none, 28⟩,
   ⟨some 219, .call (.c (.fn (.func 32) [] [])) [.t 214, .t 218], none, 63⟩,
   ⟨some 220, .mv (.t 219), none, 127⟩,
   ⟨some 221, .mv (.t 7), some (220, true), 255⟩,
   ⟨some 222, .mv (.t 1), some (220, true), 255⟩,
   ⟨some 223, .call (.c (.fn (.func 32) [] [])) [.t 221, .t 222], some (220, true), 1023⟩,
   ⟨some 224, .pick (.t 220) (.t 223) (.c (.d (.v (.bool false)))), none, 2047⟩,
   ⟨some 225, .mv (.t 224), none, 4095⟩,
   ⟨some 226, .mv (.t 8), some (225, true), 8191⟩,
   ⟨some 227, .nilc (.t 226), some (225, true), 16383⟩,
   ⟨some 228, .fa 0 (.t 227), some (225, true), 32767⟩,
   ⟨some 229, .fa 0 (.t 228), some (225, true), 65535⟩,
   ⟨some 230, .ld 8 true (.t 229), some (225, true), 131071⟩,
   ⟨some 231, .ld 8 true (.t 3), some (225, true), 8191⟩,
   ⟨some 232, .eq (.cons .int 0 1 false (.cons .int 1 1 false (.cons .int 2 1 false (.cons .int 3 1 false (.cons .int 4 1 false (.cons .int 5 1 false (.cons .int 6 1 false (.cons .int 7 1 false .nil)))))))) false (.t 230) (.t 231), some (225, true), 524287⟩,
   ⟨some 233, .pick (.t 225) (.t 232) (.c (.d (.v (.bool false)))), none, 1048575⟩,
   ⟨some 6, .mv (.t 233), none, 2097151⟩])
 (.ret))
def K3_2 : CC := .seq (.reg true [⟨some 191, .mv (.t 16), none, 0⟩,
   ⟨some 192, .eq .ptr false (.t 191) (.c (.d (.v (.pointer none)))), none, 1⟩,
   ⟨some 193, .mv (.t 192), none, 3⟩,
   ⟨some 194, .mv (.t 16), some (193, false), 7⟩,
   ⟨some 195, .nilc (.t 194), some (193, false), 15⟩,
   ⟨some 196, .fa 8 (.t 195), some (193, false), 31⟩,
   ⟨some 197, .ld 5 true (.t 196), some (193, false), 63⟩,
   ⟨some 198, .bld [.d (.v (.int .i64 0)), .d (.v (.int .i64 0)), .d (.v (.int .u64 0)), .d (.v (.int .u64 0)), .d (.v (.int .u64 0))] [], some (193, false), 7⟩,
   ⟨some 199, .eq (.cons .int 0 1 false (.cons .int 1 1 false (.cons .int 2 1 false (.cons .int 3 1 false (.cons .int 4 1 false .nil))))) true (.t 197) (.t 198), some (193, false), 255⟩,
   ⟨some 200, .pick (.t 193) (.c (.d (.v (.bool true)))) (.t 199), none, 511⟩,
   ⟨some 201, .mv (.t 200), none, 1023⟩,
   ⟨some 202, .mv (.t 16), some (201, false), 2047⟩,
   ⟨some 203, .call (.c (.fn (.func 33) [] [])) [.t 202], some (201, false), 4095⟩,
   ⟨some 204, .mv (.t 11), some (201, false), 2047⟩,
   ⟨some 205, .nilc (.t 204), some (201, false), 10239⟩,
   ⟨some 206, .fa 8 (.t 205), some (201, false), 26623⟩,
   ⟨some 207, .ld 1 false (.t 206), some (201, false), 59391⟩,
   ⟨some 208, .call (.c (.fn (.func 32) [] [])) [.t 203, .t 207], some (201, false), 131071⟩,
   ⟨some 209, .un .not (.t 208), some (201, false), 262143⟩,
   ⟨some 210, .pick (.t 201) (.c (.d (.v (.bool true)))) (.t 209), none, 524287⟩])
 (.cond 210 (.seq (.reg false [⟨some 6, .mv (.c (.d (.v (.bool false)))), none, 0⟩])
   (.ret))
   (.skip))
def K3_3 : CC := .reg false [⟨some 189, .mv (.t 8), none, 0⟩,
   ⟨some 190, .call (.c (.fn (.func 31) [] [])) [.t 189], none, 0⟩,
   ⟨some 16, .mv (.t 190), none, 0⟩]
def K3_4 : CC := .reg false [⟨some 72, .mv (.t 12), none, 0⟩,
   ⟨some 73, .bin .add (.t 72) (.c (.d (.v (.int .i64 1)))), none, 0⟩,
   ⟨some 12, .mv (.t 73), none, 0⟩]
def K3_5 : CC := .seq (.reg true [⟨some 176, .mv (.t 14), none, 0⟩,
   ⟨some 177, .un .not (.t 176), none, 1⟩,
   ⟨some 178, .mv (.t 177), none, 3⟩,
   ⟨some 179, .mv (.t 8), some (178, false), 7⟩,
   ⟨some 180, .nilc (.t 179), some (178, false), 15⟩,
   ⟨some 181, .fa 8 (.t 180), some (178, false), 31⟩,
   ⟨some 182, .ld 5 true (.t 181), some (178, false), 63⟩,
   ⟨some 183, .mv (.t 11), some (178, false), 7⟩,
   ⟨some 184, .nilc (.t 183), some (178, false), 135⟩,
   ⟨some 185, .fa 9 (.t 184), some (178, false), 391⟩,
   ⟨some 186, .ld 5 true (.t 185), some (178, false), 903⟩,
   ⟨some 187, .eq (.cons .int 0 1 false (.cons .int 1 1 false (.cons .int 2 1 false (.cons .int 3 1 false (.cons .int 4 1 false .nil))))) true (.t 182) (.t 186), some (178, false), 2047⟩,
   ⟨some 188, .pick (.t 178) (.c (.d (.v (.bool true)))) (.t 187), none, 4095⟩])
 (.cond 188 (.seq (.reg false [⟨some 6, .mv (.c (.d (.v (.bool false)))), none, 0⟩])
   (.ret))
   (.skip))
def K3_6 : CC := .reg true [⟨some 82, .mv (.t 8), none, 0⟩,
   ⟨some 83, .fa 1 (.t 13), none, 0⟩,
   ⟨some 84, .ld 1 false (.t 83), none, 2⟩,
   ⟨some 85, .call (.c (.fn (.func 21) [] [])) [.t 82, .t 84], none, 7⟩,
   ⟨some 86, .mv (.t 11), none, 0⟩,
   ⟨some 87, .fa 1 (.t 13), none, 0⟩,
   ⟨some 88, .ld 1 false (.t 87), none, 32⟩,
   ⟨some 89, .call (.c (.fn (.func 22) [] [])) [.t 86, .t 88], none, 127⟩,
   ⟨some 90, .eq .int false (.t 85) (.t 89), none, 255⟩,
   ⟨some 14, .mv (.t 90), none, 511⟩]
def K3_7 : CC := .seq (.reg false [⟨some 93, .mv (.t 8), none, 0⟩,
   ⟨some 94, .fa 1 (.t 13), none, 0⟩,
   ⟨some 95, .ld 1 false (.t 94), none, 0⟩,
   ⟨some 96, .fa 2 (.t 13), none, 0⟩,
   ⟨some 97, .ld 1 false (.t 96), none, 0⟩,
   ⟨some 98, .call (.c (.fn (.func 23) [] [])) [.t 93, .t 95, .t 97], none, 0⟩])
 (.reg false [⟨some 99, .mv (.t 11), none, 0⟩,
   ⟨some 100, .fa 1 (.t 13), none, 0⟩,
   ⟨some 101, .ld 1 false (.t 100), none, 0⟩,
   ⟨some 102, .fa 2 (.t 13), none, 0⟩,
   ⟨some 103, .ld 1 false (.t 102), none, 0⟩,
   ⟨some 104, .call (.c (.fn (.func 24) [] [])) [.t 99, .t 101, .t 103], none, 0⟩])
def K3_8 : CC := .reg true [⟨some 107, .mv (.t 8), none, 0⟩,
   ⟨some 108, .fa 1 (.t 13), none, 0⟩,
   ⟨some 109, .ld 1 false (.t 108), none, 2⟩,
   ⟨some 110, .fa 2 (.t 13), none, 0⟩,
   ⟨some 111, .ld 1 false (.t 110), none, 8⟩,
   ⟨some 112, .fa 3 (.t 13), none, 0⟩,
   ⟨some 113, .ld 1 false (.t 112), none, 32⟩,
   ⟨some 114, .call (.c (.fn (.func 25) [] [])) [.t 107, .t 109, .t 111, .t 113], none, 127⟩,
   ⟨some 115, .mv (.t 11), none, 0⟩,
   ⟨some 116, .fa 1 (.t 13), none, 0⟩,
   ⟨some 117, .ld 1 false (.t 116), none, 512⟩,
   ⟨some 118, .fa 2 (.t 13), none, 0⟩,
   ⟨some 119, .ld 1 false (.t 118), none, 2048⟩,
   ⟨some 120, .fa 3 (.t 13), none, 0⟩,
   ⟨some 121, .ld 1 false (.t 120), none, 8192⟩,
   ⟨some 122, .call (.c (.fn (.func 26) [] [])) [.t 115, .t 117, .t 119, .t 121], none, 32767⟩,
   ⟨some 123, .eq .bool false (.t 114) (.t 122), none, 65535⟩,
   ⟨some 14, .mv (.t 123), none, 131071⟩]
def K3_9 : CC := .reg true [⟨some 126, .mv (.t 8), none, 0⟩,
   ⟨some 127, .fa 1 (.t 13), none, 0⟩,
   ⟨some 128, .ld 1 false (.t 127), none, 2⟩,
   ⟨some 129, .fa 2 (.t 13), none, 0⟩,
   ⟨some 130, .ld 1 false (.t 129), none, 8⟩,
   ⟨some 131, .call (.c (.fn (.func 27) [] [])) [.t 126, .t 128, .t 130], none, 31⟩,
   ⟨some 132, .mv (.t 11), none, 0⟩,
   ⟨some 133, .fa 1 (.t 13), none, 0⟩,
   ⟨some 134, .ld 1 false (.t 133), none, 128⟩,
   ⟨some 135, .fa 2 (.t 13), none, 0⟩,
   ⟨some 136, .ld 1 false (.t 135), none, 512⟩,
   ⟨some 137, .call (.c (.fn (.func 28) [] [])) [.t 132, .t 134, .t 136], none, 2047⟩,
   ⟨some 138, .eq .int false (.t 131) (.t 137), none, 4095⟩,
   ⟨some 14, .mv (.t 138), none, 8191⟩]
def K3_10 : CC := .seq (.reg false [⟨some 141, .mv (.t 8), none, 0⟩,
   ⟨some 142, .call (.c (.fn (.func 29) [] [])) [.t 141], none, 0⟩])
 (.reg false [⟨some 143, .mv (.t 11), none, 0⟩,
   ⟨some 144, .bld [.d (.v (.int .i64 0)), .d (.v (.int .i64 0)), .d (.v (.int .u64 0)), .d (.v (.int .u64 0)), .d (.v (.int .u64 0))] [], none, 0⟩,
   ⟨some 145, .nilc (.t 143), none, 0⟩,
   ⟨some 146, .fa 9 (.t 145), none, 0⟩,
   ⟨none, .st 5 (.t 146) (.t 144), none, 0⟩])
def K3_11 : CC := .reg false [⟨some 170, .mv (.t 8), none, 0⟩,
   ⟨some 171, .fa 1 (.t 13), none, 0⟩,
   ⟨some 172, .ld 1 false (.t 171), none, 0⟩,
   ⟨some 173, .call (.c (.fn (.func 30) [] [])) [.t 170, .t 172], none, 0⟩,
   ⟨some 174, .mv (.t 15), none, 0⟩,
   ⟨some 175, .eq .int false (.t 173) (.t 174), none, 0⟩,
   ⟨some 14, .mv (.t 175), none, 0⟩]
def K3_12 : CC := .seq (.reg true [⟨some 149, .fa 1 (.t 13), none, 0⟩,
   ⟨some 150, .ld 1 false (.t 149), none, 1⟩,
   ⟨some 151, .bin .geq (.t 150) (.c (.d (.v (.int .i64 0)))), none, 3⟩,
   ⟨some 152, .mv (.t 151), none, 7⟩,
   ⟨some 153, .fa 1 (.t 13), some (152, true), 15⟩,
   ⟨some 154, .ld 1 false (.t 153), some (152, true), 31⟩,
   ⟨some 155, .mv (.t 11), some (152, true), 15⟩,
   ⟨some 156, .nilc (.t 155), some (152, true), 79⟩,
   ⟨some 157, .fa 8 (.t 156), some (152, true), 207⟩,
   ⟨some 158, .ld 1 false (.t 157), some (152, true), 463⟩,
   ⟨some 159, .len (.t 158), some (152, true), 975⟩,
   ⟨some 160, .bin .lss (.t 154) (.t 159), some (152, true), 2047⟩,
   ⟨some 161, .pick (.t 152) (.t 160) (.c (.d (.v (.bool false)))), none, 4095⟩])
 (.cond 161 (.reg true [⟨some 162, .mv (.t 11), none, 0⟩,
     ⟨some 163, .nilc (.t 162), none, 1⟩,
     ⟨some 164, .fa 8 (.t 163), none, 3⟩,
     ⟨some 165, .ld 1 false (.t 164), none, 7⟩,
     ⟨some 166, .fa 1 (.t 13), none, 0⟩,
     ⟨some 167, .ld 1 false (.t 166), none, 16⟩,
     ⟨some 168, .ixs 1 (.t 165) (.t 167), none, 63⟩,
     ⟨some 169, .ld 1 false (.t 168), none, 127⟩,
     ⟨some 15, .mv (.t 169), none, 255⟩])
   (.skip))
def K3_13 : CC := .reg false [⟨some 15, .mv (.c (.d (.v (.int .u64 0)))), none, 0⟩]
def K3_14 : CC := .reg false [⟨some 148, .eq .int false (.t 79) (.c (.d (.v (.int .i64 6)))), none, 0⟩,
   ⟨some 147, .mv (.t 148), none, 0⟩]
def K3_15 : CC := .reg false [⟨some 140, .eq .int false (.t 79) (.c (.d (.v (.int .i64 5)))), none, 0⟩,
   ⟨some 139, .mv (.t 140), none, 0⟩]
def K3_16 : CC := .reg false [⟨some 125, .eq .int false (.t 79) (.c (.d (.v (.int .i64 4)))), none, 0⟩,
   ⟨some 124, .mv (.t 125), none, 0⟩]
def K3_17 : CC := .reg false [⟨some 106, .eq .int false (.t 79) (.c (.d (.v (.int .i64 3)))), none, 0⟩,
   ⟨some 105, .mv (.t 106), none, 0⟩]
def K3_18 : CC := .reg false [⟨some 92, .eq .int false (.t 79) (.c (.d (.v (.int .i64 2)))), none, 0⟩,
   ⟨some 91, .mv (.t 92), none, 0⟩]
def K3_19 : CC := .reg false [⟨some 81, .eq .int false (.t 79) (.c (.d (.v (.int .i64 1)))), none, 0⟩,
   ⟨some 80, .mv (.t 81), none, 0⟩]
def K3_20 : CC := .reg false [⟨some 78, .fa 0 (.t 13), none, 0⟩,
   ⟨some 79, .ld 1 false (.t 78), none, 0⟩]
def K3_21 : CC := .reg false [⟨some 14, .mv (.c (.d (.v (.bool true)))), none, 0⟩]
def K3_22 : CC := .reg false [⟨some 74, .mv (.t 2), none, 0⟩,
   ⟨some 75, .mv (.t 12), none, 0⟩,
   ⟨some 76, .ixs 4 (.t 74) (.t 75), none, 0⟩,
   ⟨some 77, .ld 4 true (.t 76), none, 0⟩,
   ⟨some 13, .newc 43 [.d (.v (.int .i64 0)), .d (.v (.int .i64 0)), .d (.v (.int .u64 0)), .d (.v (.int .u64 0))], none, 0⟩,
   ⟨none, .st 4 (.t 13) (.t 77), none, 0⟩]
def K3_23 : CC := .seq (.reg false [⟨some 68, .mv (.t 12), none, 0⟩,
   ⟨some 69, .mv (.t 2), none, 0⟩,
   ⟨some 70, .len (.t 69), none, 0⟩,
   ⟨some 71, .bin .lss (.t 68) (.t 70), none, 0⟩])
 (.cond 71 (.skip)
   (.exit 0))
def L3_24 : CC := .seq K3_23 (.seq (.block 1 (.seq K3_22 (.seq K3_21 (.seq (.seq K3_20 (.block 2 (.seq K3_19 (.cond 80 K3_6 (.seq K3_18 (.cond 91 K3_7 (.seq K3_17 (.cond 105 K3_8 (.seq K3_16 (.cond 124 K3_9 (.seq K3_15 (.cond 139 K3_10 (.seq K3_14 (.cond 147 (.seq K3_13 (.seq K3_12 K3_11)) .skip)))))))))))))) K3_5)))) K3_4)
def K3_25 : CC := .reg false [⟨some 12, .mv (.c (.d (.v (.int .i64 0)))), none, 0⟩]
def K3_26 : CC := .reg true [⟨some 63, .ld 8 true (.t 3), none, 0⟩,
   ⟨some 64, .mv (.t 1), none, 0⟩,
   ⟨some 65, .call (.c (.fn (.func 17) [] [])) [.t 64], none, 2⟩,
   ⟨some 66, .bld [.d (.v (.int .i64 0)), .d (.v (.int .i64 0)), .d (.v (.int .i64 0)), .d (.v (.int .i64 0)), .d (.v (.int .i64 0)), .d (.v (.int .i64 0)), .d (.v (.int .i64 0)), .d (.v (.int .u64 0)), .d (.v (.slice none 0 0)), .d (.v (.int .i64 0)), .d (.v (.int .i64 0)), .d (.v (.int .u64 0)), .d (.v (.int .u64 0)), .d (.v (.int .u64 0))] [(0, 8, .t 63), (8, 1, .t 65)], none, 7⟩,
   ⟨some 67, .box 41 14 (.t 66), none, 15⟩,
   ⟨some 11, .mv (.t 67), none, 31⟩]
def K3_27 : CC := .seq (.reg false [⟨some 61, .mv (.t 10), none, 0⟩,
   ⟨some 62, .eq .int true (.t 61) (.c (.d (.v (.int .i64 0)))), none, 0⟩])
 (.cond 62 (.seq (.reg false [⟨some 6, .mv (.c (.d (.v (.bool true)))), none, 0⟩])
   (.ret))
   (.skip))
def K3_28 : CC := .seq (.reg false [⟨some 51, .mv (.t 9), none, 0⟩,
   ⟨some 52, .mv (.t 10), none, 0⟩,
   ⟨some 53, .eq .int true (.t 51) (.t 52), none, 0⟩,
   ⟨some 54, .mv (.t 53), none, 0⟩,
   ⟨some 55, .mv (.t 8), some (54, false), 0⟩,
   ⟨some 56, .eq .ptr false (.t 55) (.c (.d (.v (.pointer none)))), some (54, false), 0⟩,
   ⟨some 57, .mv (.t 10), some (54, false), 0⟩,
   ⟨some 58, .eq .int true (.t 57) (.c (.d (.v (.int .i64 0)))), some (54, false), 0⟩,
   ⟨some 59, .eq .bool true (.t 56) (.t 58), some (54, false), 0⟩,
   ⟨some 60, .pick (.t 54) (.c (.d (.v (.bool true)))) (.t 59), none, 0⟩])
 (.cond 60 (.seq (.reg false [⟨some 6, .mv (.c (.d (.v (.bool false)))), none, 0⟩])
   (.ret))
   (.skip))
def K3_29 : CC := .seq (.reg false [⟨some 41, .mv (.t 10), none, 0⟩,
   ⟨some 42, .eq .int false (.t 41) (.c (.d (.v (.int .i64 0)))), none, 0⟩,
   ⟨some 43, .mv (.t 42), none, 0⟩,
   ⟨some 44, .mv (.t 1), some (43, true), 0⟩,
   ⟨some 45, .len (.t 44), some (43, true), 0⟩,
   ⟨some 46, .ld 8 true (.t 3), some (43, true), 0⟩,
   ⟨some 47, .call (.c (.fn (.func 20) [] [])) [.t 46], some (43, true), 0⟩,
   ⟨some 48, .len (.t 47), some (43, true), 0⟩,
   ⟨some 49, .eq .int true (.t 45) (.t 48), some (43, true), 0⟩,
   ⟨some 50, .pick (.t 43) (.t 49) (.c (.d (.v (.bool false)))), none, 0⟩])
 (.cond 50 (.reg false [⟨some 10, .mv (.c (.d (.v (.int .i64 3)))), none, 0⟩])
   (.skip))
def K3_30 : CC := .reg false [⟨some 39, .ld 8 true (.t 3), none, 0⟩,
   ⟨some 40, .call (.c (.fn (.func 19) [] [])) [.t 39], none, 0⟩,
   ⟨some 10, .mv (.t 40), none, 0⟩]
def K3_31 : CC := .reg false [⟨some 34, .ld 8 true (.t 3), none, 0⟩,
   ⟨some 35, .mv (.t 7), none, 0⟩,
   ⟨some 36, .call (.c (.fn (.func 18) [] [])) [.t 34, .t 35], none, 0⟩,
   ⟨some 33, .mv (.t 36), none, 0⟩,
   ⟨some 37, .ext 0 (.t 33), none, 0⟩,
   ⟨some 38, .ext 1 (.t 33), none, 0⟩,
   ⟨some 8, .mv (.t 37), none, 0⟩,
   ⟨some 9, .mv (.t 38), none, 0⟩]
def K3_32 : CC := .reg false [⟨some 31, .mv (.t 1), none, 0⟩,
   ⟨some 32, .call (.c (.fn (.func 17) [] [])) [.t 31], none, 0⟩,
   ⟨some 7, .mv (.t 32), none, 0⟩]
def K3_33 : CC := .seq (.reg false [⟨some 19, .ld 8 true (.t 3), none, 0⟩,
   ⟨some 20, .call (.c (.fn (.func 16) [] [])) [.t 19], none, 0⟩,
   ⟨some 21, .mv (.t 20), none, 0⟩,
   ⟨some 22, .mv (.t 1), some (21, false), 0⟩,
   ⟨some 23, .len (.t 22), some (21, false), 0⟩,
   ⟨some 24, .bin .gtr (.t 23) (.c (.d (.v (.int .i64 400)))), some (21, false), 0⟩,
   ⟨some 25, .pick (.t 21) (.c (.d (.v (.bool true)))) (.t 24), none, 0⟩,
   ⟨some 26, .mv (.t 25), none, 0⟩,
   ⟨some 27, .mv (.t 2), some (26, false), 0⟩,
   ⟨some 28, .len (.t 27), some (26, false), 0⟩,
   ⟨some 29, .bin .gtr (.t 28) (.c (.d (.v (.int .i64 60)))), some (26, false), 0⟩,
   ⟨some 30, .pick (.t 26) (.c (.d (.v (.bool true)))) (.t 29), none, 0⟩])
 (.cond 30 (.seq (.reg false [⟨some 6, .mv (.c (.d (.v (.bool true)))), none, 0⟩])
   (.ret))
   (.skip))
def K3_34 : CC := .seq (.reg false [⟨some 17, .call (.c (.fn (.func 15) [] [])) [], none, 0⟩,
   ⟨some 18, .un .not (.t 17), none, 0⟩])
 (.cond 18 (.seq (.reg false [⟨some 6, .mv (.c (.d (.v (.bool false)))), none, 0⟩])
   (.ret))
   (.skip))
def K3_35 : CC := .reg false [⟨some 3, .box 24 8 (.t 0), none, 0⟩,
   ⟨some 6, .mv (.c (.d (.v (.bool false)))), none, 0⟩]
/-- coatcheck/coatchecklaw03.MemoryPlays -/
def C3 : CF := ⟨3, [(6, none)],
 .seq K3_35 (.seq K3_34 (.seq K3_33 (.seq K3_32 (.seq K3_31 (.seq K3_30 (.seq K3_29 (.seq K3_28 (.seq K3_27 (.seq K3_26 (.seq (.seq K3_25 (.block 0 (.loop L3_24))) (.seq K3_3 (.seq K3_2 K3_1))))))))))))⟩
theorem c3 : coF Try.prog Try.f3 = some C3 := by kernel_rfl
def A3 : Ann := { keep := [0, 1, 2, 3, 6, 7, 8, 9, 10, 11, 12, 13, 14, 15, 16, 18, 30, 50, 60, 62, 71, 79, 80, 91, 105, 124, 139, 147, 161, 188, 210], live := [(0, [1, 2, 3, 7, 8, 11, 12])] }
def E3 {Ω : Type} : Env Ω := econs 15 S15 (econs 16 S16 (econs 17 S17 (econs 18 S18 (econs 19 S19 (econs 20 S20 (econs 21 S21 (econs 22 S22 (econs 23 S23 (econs 24 S24 (econs 25 S25 (econs 26 S26 (econs 27 S27 (econs 28 S28 (econs 29 S29 (econs 30 S30 (econs 31 S31 (econs 32 S32 (econs 33 S33 (enil)))))))))))))))))))
theorem e3 : GoodE Try.prog E3 := GoodE.cons g15 (GoodE.cons g16 (GoodE.cons g17 (GoodE.cons g18 (GoodE.cons g19 (GoodE.cons g20 (GoodE.cons g21 (GoodE.cons g22 (GoodE.cons g23 (GoodE.cons g24 (GoodE.cons g25 (GoodE.cons g26 (GoodE.cons g27 (GoodE.cons g28 (GoodE.cons g29 (GoodE.cons g30 (GoodE.cons g31 (GoodE.cons g32 (GoodE.cons g33 (GoodE.nil)))))))))))))))))))
def Z3_24 {Ω : Type} (it : Itr Ω) (K : SV → SH → Option Ω) : SE → SS → Option Ω := kblk 0 (kseq it E3 A3 (.seq K3_3 (.seq K3_2 K3_1)) 0 (kfn C3 K))
end Go.Sx.Pr
