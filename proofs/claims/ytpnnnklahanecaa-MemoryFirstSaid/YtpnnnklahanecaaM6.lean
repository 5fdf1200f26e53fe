/- Pieces of the code of functions, compiled for the symbolic interpreter, each checked against the program; no conditions. -/
import Derived.Test.YtpnnnklahanecaaM5
import Derived.Test.YtpnnnklahanecaaRows
import Derived.KernelRfl
namespace Go.Sx.Pr
open Go Go.Sx Go.Proofs
set_option maxRecDepth 100000
def K18_1 : CC := .seq (.reg true [⟨some 23, .ld 8 true (.t 6), none, 0⟩,
   ⟨some 24, .mv (.t 1), none, 0⟩,
   ⟨some 25, .call (.c (.fn (.func 65) [] [])) [.t 24], none, 2⟩,
   ⟨some 26, .bld [.d (.v (.int .i64 0)), .d (.v (.int .i64 0)), .d (.v (.int .i64 0)), .d (.v (.int .i64 0)), .d (.v (.int .i64 0)), .d (.v (.int .i64 0)), .d (.v (.int .i64 0)), .d (.v (.int .u64 0)), .d (.v (.int .i64 0)), .d (.v (.int .i64 0)), .d (.v (.int .u64 0)), .d (.v (.int .u64 0)), .d (.v (.int .u64 0)), .d (.v (.slice none 0 0))] [(0, 8, .t 23), (13, 1, .t 25)], none, 7⟩,
   ⟨some 27, .box 51 14 (.t 26), none, 15⟩,
   ⟨some 4, .mv (.t 27), none, 31⟩,
   ⟨some 5, .mv (.c (.d (.v (.int .i64 0)))), none, 63⟩])
 (.ret)
def K18_2 : CC := .cond 13 (.seq (.reg false [⟨some 16, .mv (.t 7), none, 0⟩,
     ⟨some 4, .mv (.c (.d (.v (.pointer none)))), none, 0⟩,
     ⟨some 5, .mv (.t 16), none, 0⟩])
   (.ret))
   (.seq (.reg false [⟨some 18, .mv (.t 1), none, 0⟩,
     ⟨some 19, .len (.t 18), none, 0⟩,
     ⟨some 20, .ld 8 true (.t 6), none, 0⟩,
     ⟨some 21, .call (.c (.fn (.func 64) [] [])) [.t 20], none, 0⟩,
     ⟨some 22, .eq .int true (.t 19) (.t 21), none, 0⟩,
     ⟨some 17, .mv (.t 22), none, 0⟩])
   (.cond 17 (.seq (.reg false [⟨some 4, .mv (.c (.d (.v (.pointer none)))), none, 0⟩,
       ⟨some 5, .mv (.c (.d (.v (.int .i64 3)))), none, 0⟩])
     (.ret))
     (.skip)))
def K18_3 : CC := .reg false [⟨some 14, .mv (.t 7), none, 0⟩,
   ⟨some 15, .eq .int true (.t 14) (.c (.d (.v (.int .i64 0)))), none, 0⟩,
   ⟨some 13, .mv (.t 15), none, 0⟩]
def K18_4 : CC := .reg false [⟨some 9, .ld 8 true (.t 2), none, 0⟩,
   ⟨some 10, .call (.c (.fn (.func 63) [] [])) [.t 9], none, 0⟩,
   ⟨some 8, .mv (.t 10), none, 0⟩,
   ⟨some 11, .ext 0 (.t 8), none, 0⟩,
   ⟨some 12, .ext 1 (.t 8), none, 0⟩,
   ⟨some 6, .newc 49 [.d (.v (.int .i64 0)), .d (.v (.int .i64 0)), .d (.v (.int .i64 0)), .d (.v (.int .i64 0)), .d (.v (.int .i64 0)), .d (.v (.int .i64 0)), .d (.v (.int .i64 0)), .d (.v (.int .u64 0))], none, 0⟩,
   ⟨none, .st 8 (.t 6) (.t 11), none, 0⟩,
   ⟨some 7, .mv (.t 12), none, 0⟩]
def K18_5 : CC := .reg false [⟨some 2, .box 24 8 (.t 0), none, 0⟩,
   ⟨some 4, .mv (.c (.d (.v (.pointer none)))), none, 0⟩,
   ⟨some 5, .mv (.c (.d (.v (.int .i64 0)))), none, 0⟩]
/-- coatcheck/memory.From -/
def C18 : CF := ⟨2, [(4, none), (5, none)],
 .seq K18_5 (.seq K18_4 (.seq (.block 0 (.seq K18_3 K18_2)) K18_1))⟩
theorem c18 : coF Try.prog Try.f18 = some C18 := by kernel_rfl
def A18 : Ann := { keep := [0, 1, 2, 4, 5, 6, 7, 13, 17], live := [] }
def E18 {Ω : Type} : Env Ω := econs 63 S63 (econs 64 S64 (econs 65 S65 (enil)))
theorem e18 : GoodE Try.prog E18 := GoodE.cons g63 (GoodE.cons g64 (GoodE.cons g65 (GoodE.nil)))
def S18 {Ω : Type} : Spec Ω := inl E18 A18 C18 false
theorem g18 : Good1 Try.prog 18 S18 := Good1.inl e18 mix Try.func18 (by kernel_rfl) c18 A18 false
def K66_1 : CC := .seq (.reg false [⟨some 36, .mv (.t 0), none, 0⟩,
   ⟨some 37, .mv (.t 5), none, 0⟩,
   ⟨some 38, .nilc (.t 37), none, 0⟩,
   ⟨some 39, .ld 1 false (.t 38), none, 0⟩,
   ⟨some 40, .nilc (.t 36), none, 0⟩,
   ⟨some 41, .fa 8 (.t 40), none, 0⟩,
   ⟨some 42, .fa 4 (.t 41), none, 0⟩,
   ⟨none, .st 1 (.t 42) (.t 39), none, 0⟩])
 (.seq (.reg false [⟨some 43, .mv (.t 5), none, 0⟩,
   ⟨some 4, .mv (.t 43), none, 0⟩])
 (.ret))
def K66_2 : CC := .reg false [⟨some 32, .mv (.t 0), none, 0⟩,
   ⟨some 33, .ld 5 true (.t 3), none, 0⟩,
   ⟨some 34, .nilc (.t 32), none, 0⟩,
   ⟨some 35, .fa 8 (.t 34), none, 0⟩,
   ⟨none, .st 5 (.t 35) (.t 33), none, 0⟩]
def K66_3 : CC := .reg true [⟨some 25, .mv (.t 0), none, 0⟩,
   ⟨some 26, .nilc (.t 25), none, 1⟩,
   ⟨some 27, .fa 13 (.t 26), none, 3⟩,
   ⟨some 28, .ld 1 false (.t 27), none, 7⟩,
   ⟨some 29, .fa 1 (.t 3), none, 0⟩,
   ⟨some 30, .ld 1 false (.t 29), none, 16⟩,
   ⟨some 31, .ixs 1 (.t 28) (.t 30), none, 63⟩,
   ⟨some 5, .mv (.t 31), none, 127⟩]
def K66_4 : CC := .cond 24 (.seq (.reg false [⟨some 4, .mv (.c (.d (.v (.pointer none)))), none, 0⟩])
   (.ret))
   (.skip)
def K66_5 : CC := .reg true [⟨some 12, .fa 1 (.t 3), none, 0⟩,
   ⟨some 13, .ld 1 false (.t 12), none, 1⟩,
   ⟨some 14, .bin .lss (.t 13) (.c (.d (.v (.int .i64 0)))), none, 3⟩,
   ⟨some 15, .mv (.t 14), none, 7⟩,
   ⟨some 16, .fa 1 (.t 3), some (15, false), 15⟩,
   ⟨some 17, .ld 1 false (.t 16), some (15, false), 31⟩,
   ⟨some 18, .mv (.t 0), some (15, false), 15⟩,
   ⟨some 19, .nilc (.t 18), some (15, false), 79⟩,
   ⟨some 20, .fa 13 (.t 19), some (15, false), 207⟩,
   ⟨some 21, .ld 1 false (.t 20), some (15, false), 463⟩,
   ⟨some 22, .len (.t 21), some (15, false), 975⟩,
   ⟨some 23, .bin .geq (.t 17) (.t 22), some (15, false), 2047⟩,
   ⟨some 24, .pick (.t 15) (.c (.d (.v (.bool true)))) (.t 23), none, 4095⟩]
def K66_6 : CC := .reg false [⟨some 8, .mv (.t 0), none, 0⟩,
   ⟨some 9, .bld [.d (.v (.int .i64 0)), .d (.v (.int .i64 0)), .d (.v (.int .u64 0)), .d (.v (.int .u64 0)), .d (.v (.int .u64 0))] [], none, 0⟩,
   ⟨some 10, .nilc (.t 8), none, 0⟩,
   ⟨some 11, .fa 8 (.t 10), none, 0⟩,
   ⟨none, .st 5 (.t 11) (.t 9), none, 0⟩]
def K66_7 : CC := .seq (.reg false [⟨some 6, .mv (.t 0), none, 0⟩,
   ⟨some 7, .eq .ptr false (.t 6) (.c (.d (.v (.pointer none)))), none, 0⟩])
 (.cond 7 (.seq (.reg false [⟨some 4, .mv (.c (.d (.v (.pointer none)))), none, 0⟩])
   (.ret))
   (.skip))
def K66_8 : CC := .reg false [⟨some 3, .box 39 5 (.t 1), none, 0⟩,
   ⟨some 4, .mv (.c (.d (.v (.pointer none)))), none, 0⟩]
/-- (*coatcheck/memory.Memory).reach -/
def C66 : CF := ⟨2, [(4, none)],
 .seq K66_8 (.seq K66_7 (.seq K66_6 (.seq (.seq K66_5 K66_4) (.seq K66_3 (.seq K66_2 K66_1)))))⟩
theorem c66 : coF Try.prog Try.f66 = some C66 := by kernel_rfl
def A66 : Ann := { keep := [0, 1, 3, 4, 5, 7, 24], live := [] }
def E66 {Ω : Type} : Env Ω := enil
theorem e66 : GoodE Try.prog E66 := GoodE.nil
def S66 {Ω : Type} : Spec Ω := inl E66 A66 C66 false
theorem g66 : Good1 Try.prog 66 S66 := Good1.inl e66 mix Try.func66 (by kernel_rfl) c66 A66 false
def K21_1 : CC := .seq (.seq (.reg false [⟨some 6, .mv (.t 0), none, 0⟩,
   ⟨some 7, .mv (.t 1), none, 0⟩,
   ⟨some 8, .bld [.d (.v (.int .i64 0)), .d (.v (.int .i64 0)), .d (.v (.int .u64 0)), .d (.v (.int .u64 0)), .d (.v (.int .u64 0))] [(0, 1, .c (.d (.v (.int .i64 1)))), (1, 1, .t 7)], none, 0⟩,
   ⟨some 9, .call (.c (.fn (.func 66) [] [])) [.t 6, .t 8], none, 0⟩,
   ⟨some 5, .mv (.t 9), none, 0⟩])
 (.seq (.reg false [⟨some 10, .mv (.t 5), none, 0⟩,
   ⟨some 11, .eq .ptr true (.t 10) (.c (.d (.v (.pointer none)))), none, 0⟩])
 (.cond 11 (.seq (.reg false [⟨some 12, .mv (.t 5), none, 0⟩,
     ⟨some 13, .nilc (.t 12), none, 0⟩,
     ⟨some 14, .ld 1 false (.t 13), none, 0⟩,
     ⟨some 4, .mv (.t 14), none, 0⟩])
   (.ret))
   (.skip))))
 (.seq (.reg false [⟨some 4, .mv (.c (.d (.v (.int .u64 0)))), none, 0⟩])
 (.ret))
def K21_2 : CC := .reg false [⟨some 4, .mv (.c (.d (.v (.int .u64 0)))), none, 0⟩]
/-- (*coatcheck/memory.Memory).Load -/
def C21 : CF := ⟨2, [(4, none)],
 .seq K21_2 K21_1⟩
theorem c21 : coF Try.prog Try.f21 = some C21 := by kernel_rfl
def A21 : Ann := { keep := [0, 1, 4, 5, 11], live := [] }
def E21 {Ω : Type} : Env Ω := econs 66 S66 (enil)
theorem e21 : GoodE Try.prog E21 := GoodE.cons g66 (GoodE.nil)
def S21 {Ω : Type} : Spec Ω := inl E21 A21 C21 false
theorem g21 : Good1 Try.prog 21 S21 := Good1.inl e21 mix Try.func21 (by kernel_rfl) c21 A21 false
/-- (*coatcheck/memory.Memory).Store -/
def C23 : CF := ⟨3, [],
 .seq (.reg false [⟨some 7, .mv (.t 0), none, 0⟩,
   ⟨some 8, .mv (.t 1), none, 0⟩,
   ⟨some 9, .mv (.t 2), none, 0⟩,
   ⟨some 10, .bld [.d (.v (.int .i64 0)), .d (.v (.int .i64 0)), .d (.v (.int .u64 0)), .d (.v (.int .u64 0)), .d (.v (.int .u64 0))] [(0, 1, .c (.d (.v (.int .i64 2)))), (1, 1, .t 8), (2, 1, .t 9)], none, 0⟩,
   ⟨some 11, .call (.c (.fn (.func 66) [] [])) [.t 7, .t 10], none, 0⟩,
   ⟨some 6, .mv (.t 11), none, 0⟩])
 (.seq (.reg false [⟨some 12, .mv (.t 6), none, 0⟩,
   ⟨some 13, .eq .ptr true (.t 12) (.c (.d (.v (.pointer none)))), none, 0⟩])
 (.cond 13 (.reg false [⟨some 14, .mv (.t 6), none, 0⟩,
     ⟨some 15, .mv (.t 2), none, 0⟩,
     ⟨some 16, .nilc (.t 14), none, 0⟩,
     ⟨none, .st 1 (.t 16) (.t 15), none, 0⟩])
   (.skip)))⟩
theorem c23 : coF Try.prog Try.f23 = some C23 := by kernel_rfl
def A23 : Ann := { keep := [0, 1, 2, 6, 13], live := [] }
def E23 {Ω : Type} : Env Ω := econs 66 S66 (enil)
theorem e23 : GoodE Try.prog E23 := GoodE.cons g66 (GoodE.nil)
def S23 {Ω : Type} : Spec Ω := inl E23 A23 C23 false
theorem g23 : Good1 Try.prog 23 S23 := Good1.inl e23 mix Try.func23 (by kernel_rfl) c23 A23 false
def K25_1 : CC := .seq (.reg false [⟨some 25, .mv (.t 9), none, 0⟩,
   ⟨some 26, .mv (.t 3), none, 0⟩,
   ⟨some 27, .nilc (.t 25), none, 0⟩,
   ⟨none, .st 1 (.t 27) (.t 26), none, 0⟩])
 (.seq (.reg false [⟨some 8, .mv (.c (.d (.v (.bool true)))), none, 0⟩])
 (.ret))
def K25_2 : CC := .seq (.reg false [⟨some 16, .mv (.t 9), none, 0⟩,
   ⟨some 17, .eq .ptr false (.t 16) (.c (.d (.v (.pointer none)))), none, 0⟩,
   ⟨some 18, .mv (.t 17), none, 0⟩,
   ⟨some 19, .mv (.t 9), some (18, false), 0⟩,
   ⟨some 20, .nilc (.t 19), some (18, false), 0⟩,
   ⟨some 21, .ld 1 false (.t 20), some (18, false), 0⟩,
   ⟨some 22, .mv (.t 2), some (18, false), 0⟩,
   ⟨some 23, .eq .int true (.t 21) (.t 22), some (18, false), 0⟩,
   ⟨some 24, .pick (.t 18) (.c (.d (.v (.bool true)))) (.t 23), none, 0⟩])
 (.cond 24 (.seq (.reg false [⟨some 8, .mv (.c (.d (.v (.bool false)))), none, 0⟩])
   (.ret))
   (.skip))
def K25_3 : CC := .reg false [⟨some 10, .mv (.t 0), none, 0⟩,
   ⟨some 11, .mv (.t 1), none, 0⟩,
   ⟨some 12, .mv (.t 2), none, 0⟩,
   ⟨some 13, .mv (.t 3), none, 0⟩,
   ⟨some 14, .bld [.d (.v (.int .i64 0)), .d (.v (.int .i64 0)), .d (.v (.int .u64 0)), .d (.v (.int .u64 0)), .d (.v (.int .u64 0))] [(0, 1, .c (.d (.v (.int .i64 3)))), (1, 1, .t 11), (2, 1, .t 12), (3, 1, .t 13)], none, 0⟩,
   ⟨some 15, .call (.c (.fn (.func 66) [] [])) [.t 10, .t 14], none, 0⟩,
   ⟨some 9, .mv (.t 15), none, 0⟩]
def K25_4 : CC := .reg false [⟨some 8, .mv (.c (.d (.v (.bool false)))), none, 0⟩]
/-- (*coatcheck/memory.Memory).Cas -/
def C25 : CF := ⟨4, [(8, none)],
 .seq K25_4 (.seq K25_3 (.seq K25_2 K25_1))⟩
theorem c25 : coF Try.prog Try.f25 = some C25 := by kernel_rfl
def A25 : Ann := { keep := [0, 1, 2, 3, 8, 9, 24], live := [] }
def E25 {Ω : Type} : Env Ω := econs 66 S66 (enil)
theorem e25 : GoodE Try.prog E25 := GoodE.cons g66 (GoodE.nil)
def S25 {Ω : Type} : Spec Ω := inl E25 A25 C25 false
theorem g25 : Good1 Try.prog 25 S25 := Good1.inl e25 mix Try.func25 (by kernel_rfl) c25 A25 false
def K27_1 : CC := .seq (.reg false [⟨some 21, .mv (.t 7), none, 0⟩,
   ⟨some 22, .nilc (.t 21), none, 0⟩,
   ⟨some 23, .ld 1 false (.t 22), none, 0⟩,
   ⟨some 24, .mv (.t 2), none, 0⟩,
   ⟨some 25, .bin .sub (.t 23) (.t 24), none, 0⟩,
   ⟨some 6, .mv (.t 25), none, 0⟩])
 (.ret)
def K27_2 : CC := .reg false [⟨some 15, .mv (.t 7), none, 0⟩,
   ⟨some 16, .nilc (.t 15), none, 0⟩,
   ⟨some 17, .ld 1 false (.t 16), none, 0⟩,
   ⟨some 18, .mv (.t 2), none, 0⟩,
   ⟨some 19, .bin .add (.t 17) (.t 18), none, 0⟩,
   ⟨some 20, .nilc (.t 15), none, 0⟩,
   ⟨none, .st 1 (.t 20) (.t 19), none, 0⟩]
def K27_3 : CC := .seq (.reg false [⟨some 13, .mv (.t 7), none, 0⟩,
   ⟨some 14, .eq .ptr false (.t 13) (.c (.d (.v (.pointer none)))), none, 0⟩])
 (.cond 14 (.seq (.reg false [⟨some 6, .mv (.c (.d (.v (.int .u64 0)))), none, 0⟩])
   (.ret))
   (.skip))
def K27_4 : CC := .reg false [⟨some 8, .mv (.t 0), none, 0⟩,
   ⟨some 9, .mv (.t 1), none, 0⟩,
   ⟨some 10, .mv (.t 2), none, 0⟩,
   ⟨some 11, .bld [.d (.v (.int .i64 0)), .d (.v (.int .i64 0)), .d (.v (.int .u64 0)), .d (.v (.int .u64 0)), .d (.v (.int .u64 0))] [(0, 1, .c (.d (.v (.int .i64 4)))), (1, 1, .t 9), (2, 1, .t 10)], none, 0⟩,
   ⟨some 12, .call (.c (.fn (.func 66) [] [])) [.t 8, .t 11], none, 0⟩,
   ⟨some 7, .mv (.t 12), none, 0⟩]
def K27_5 : CC := .reg false [⟨some 6, .mv (.c (.d (.v (.int .u64 0)))), none, 0⟩]
/-- (*coatcheck/memory.Memory).Add -/
def C27 : CF := ⟨3, [(6, none)],
 .seq K27_5 (.seq K27_4 (.seq K27_3 (.seq K27_2 K27_1)))⟩
theorem c27 : coF Try.prog Try.f27 = some C27 := by kernel_rfl
def A27 : Ann := { keep := [0, 1, 2, 6, 7, 14], live := [] }
def E27 {Ω : Type} : Env Ω := econs 66 S66 (enil)
theorem e27 : GoodE Try.prog E27 := GoodE.cons g66 (GoodE.nil)
def S27 {Ω : Type} : Spec Ω := inl E27 A27 C27 false
theorem g27 : Good1 Try.prog 27 S27 := Good1.inl e27 mix Try.func27 (by kernel_rfl) c27 A27 false
/-- (*coatcheck/memory.Memory).Clear -/
def C29 : CF := ⟨1, [],
 .seq (.reg false [⟨some 2, .mv (.t 0), none, 0⟩,
   ⟨some 3, .eq .ptr true (.t 2) (.c (.d (.v (.pointer none)))), none, 0⟩])
 (.cond 3 (.reg false [⟨some 4, .mv (.t 0), none, 0⟩,
     ⟨some 5, .bld [.d (.v (.int .i64 0)), .d (.v (.int .i64 0)), .d (.v (.int .u64 0)), .d (.v (.int .u64 0)), .d (.v (.int .u64 0))] [], none, 0⟩,
     ⟨some 6, .nilc (.t 4), none, 0⟩,
     ⟨some 7, .fa 8 (.t 6), none, 0⟩,
     ⟨none, .st 5 (.t 7) (.t 5), none, 0⟩])
   (.skip))⟩
theorem c29 : coF Try.prog Try.f29 = some C29 := by kernel_rfl
def A29 : Ann := { keep := [0, 3], live := [] }
def E29 {Ω : Type} : Env Ω := enil
theorem e29 : GoodE Try.prog E29 := GoodE.nil
def S29 {Ω : Type} : Spec Ω := inl E29 A29 C29 false
theorem g29 : Good1 Try.prog 29 S29 := Good1.inl e29 mix Try.func29 (by kernel_rfl) c29 A29 false
def K30_1 : CC := .seq (.reg false [⟨some 20, .mv (.t 0), none, 0⟩,
   ⟨some 21, .nilc (.t 20), none, 0⟩,
   ⟨some 22, .fa 13 (.t 21), none, 0⟩,
   ⟨some 23, .ld 1 false (.t 22), none, 0⟩,
   ⟨some 24, .mv (.t 1), none, 0⟩,
   ⟨some 25, .ixs 1 (.t 23) (.t 24), none, 0⟩,
   ⟨some 26, .ld 1 false (.t 25), none, 0⟩,
   ⟨some 4, .mv (.t 26), none, 0⟩])
 (.ret)
def K30_2 : CC := .cond 19 (.seq (.reg false [⟨some 4, .mv (.c (.d (.v (.int .u64 0)))), none, 0⟩])
   (.ret))
   (.skip)
def K30_3 : CC := .reg false [⟨some 5, .mv (.t 0), none, 0⟩,
   ⟨some 6, .eq .ptr false (.t 5) (.c (.d (.v (.pointer none)))), none, 0⟩,
   ⟨some 7, .mv (.t 6), none, 0⟩,
   ⟨some 8, .mv (.t 1), some (7, false), 0⟩,
   ⟨some 9, .bin .lss (.t 8) (.c (.d (.v (.int .i64 0)))), some (7, false), 0⟩,
   ⟨some 10, .pick (.t 7) (.c (.d (.v (.bool true)))) (.t 9), none, 0⟩,
   ⟨some 11, .mv (.t 10), none, 0⟩,
   ⟨some 12, .mv (.t 1), some (11, false), 0⟩,
   ⟨some 13, .mv (.t 0), some (11, false), 0⟩,
   ⟨some 14, .nilc (.t 13), some (11, false), 0⟩,
   ⟨some 15, .fa 13 (.t 14), some (11, false), 0⟩,
   ⟨some 16, .ld 1 false (.t 15), some (11, false), 0⟩,
   ⟨some 17, .len (.t 16), some (11, false), 0⟩,
   ⟨some 18, .bin .geq (.t 12) (.t 17), some (11, false), 0⟩,
   ⟨some 19, .pick (.t 11) (.c (.d (.v (.bool true)))) (.t 18), none, 0⟩]
def K30_4 : CC := .reg false [⟨some 4, .mv (.c (.d (.v (.int .u64 0)))), none, 0⟩]
/-- (*coatcheck/memory.Memory).Peek -/
def C30 : CF := ⟨2, [(4, none)],
 .seq K30_4 (.seq (.seq K30_3 K30_2) K30_1)⟩
theorem c30 : coF Try.prog Try.f30 = some C30 := by kernel_rfl
def A30 : Ann := { keep := [0, 1, 4, 19], live := [] }
def E30 {Ω : Type} : Env Ω := enil
theorem e30 : GoodE Try.prog E30 := GoodE.nil
def S30 {Ω : Type} : Spec Ω := inl E30 A30 C30 false
theorem g30 : Good1 Try.prog 30 S30 := Good1.inl e30 mix Try.func30 (by kernel_rfl) c30 A30 false
def K31_1 : CC := .seq (.reg true [⟨some 5, .mv (.t 0), none, 0⟩,
   ⟨some 6, .nilc (.t 5), none, 1⟩,
   ⟨some 7, .fa 0 (.t 6), none, 3⟩,
   ⟨some 8, .ld 8 true (.t 7), none, 7⟩,
   ⟨some 9, .mv (.t 0), none, 0⟩,
   ⟨some 10, .nilc (.t 9), none, 16⟩,
   ⟨some 11, .fa 13 (.t 10), none, 48⟩,
   ⟨some 12, .ld 1 false (.t 11), none, 112⟩,
   ⟨some 13, .call (.c (.fn (.func 65) [] [])) [.t 12], none, 240⟩,
   ⟨some 14, .bld [.d (.v (.int .i64 0)), .d (.v (.int .i64 0)), .d (.v (.int .i64 0)), .d (.v (.int .i64 0)), .d (.v (.int .i64 0)), .d (.v (.int .i64 0)), .d (.v (.int .i64 0)), .d (.v (.int .u64 0)), .d (.v (.int .i64 0)), .d (.v (.int .i64 0)), .d (.v (.int .u64 0)), .d (.v (.int .u64 0)), .d (.v (.int .u64 0)), .d (.v (.slice none 0 0))] [(0, 8, .t 8), (13, 1, .t 13)], none, 511⟩,
   ⟨some 15, .box 51 14 (.t 14), none, 1023⟩,
   ⟨some 2, .mv (.t 15), none, 2047⟩])
 (.ret)
def K31_2 : CC := .seq (.reg false [⟨some 3, .mv (.t 0), none, 0⟩,
   ⟨some 4, .eq .ptr false (.t 3) (.c (.d (.v (.pointer none)))), none, 0⟩])
 (.cond 4 (.seq (.reg false [⟨some 2, .mv (.c (.d (.v (.pointer none)))), none, 0⟩])
   (.ret))
   (.skip))
def K31_3 : CC := .reg false [⟨some 2, .mv (.c (.d (.v (.pointer none)))), none, 0⟩]
/-- (*coatcheck/memory.Memory).Copy -/
def C31 : CF := ⟨1, [(2, none)],
 .seq K31_3 (.seq K31_2 K31_1)⟩
theorem c31 : coF Try.prog Try.f31 = some C31 := by kernel_rfl
def A31 : Ann := { keep := [0, 2, 4], live := [] }
def E31 {Ω : Type} : Env Ω := econs 65 S65 (enil)
theorem e31 : GoodE Try.prog E31 := GoodE.cons g65 (GoodE.nil)
def S31 {Ω : Type} : Spec Ω := inl E31 A31 C31 false
theorem g31 : Good1 Try.prog 31 S31 := Good1.inl e31 mix Try.func31 (by kernel_rfl) c31 A31 false
/-- (*coatcheck/memory.Memory).All -/
def C33 : CF := ⟨1, [(2, none)],
 .seq (.reg false [⟨some 2, .mv (.c (.d (.v (.slice none 0 0)))), none, 0⟩])
 (.seq (.seq (.reg false [⟨some 3, .mv (.t 0), none, 0⟩,
   ⟨some 4, .eq .ptr false (.t 3) (.c (.d (.v (.pointer none)))), none, 0⟩])
 (.cond 4 (.seq (.reg false [⟨some 2, .mv (.c (.d (.v (.slice none 0 0)))), none, 0⟩])
   (.ret))
   (.skip)))
 (.seq (.reg false [⟨some 5, .mv (.t 0), none, 0⟩,
   ⟨some 6, .nilc (.t 5), none, 0⟩,
   ⟨some 7, .fa 13 (.t 6), none, 0⟩,
   ⟨some 8, .ld 1 false (.t 7), none, 0⟩,
   ⟨some 9, .call (.c (.fn (.func 65) [] [])) [.t 8], none, 0⟩,
   ⟨some 2, .mv (.t 9), none, 0⟩])
 (.ret)))⟩
theorem c33 : coF Try.prog Try.f33 = some C33 := by kernel_rfl
def A33 : Ann := { keep := [0, 2, 4], live := [] }
def E33 {Ω : Type} : Env Ω := econs 65 S65 (enil)
theorem e33 : GoodE Try.prog E33 := GoodE.cons g65 (GoodE.nil)
def S33 {Ω : Type} : Spec Ω := inl E33 A33 C33 false
theorem g33 : Good1 Try.prog 33 S33 := Good1.inl e33 mix Try.func33 (by kernel_rfl) c33 A33 false
/-- coatcheck/memory.New -/
def C34 : CF := ⟨1, [(2, none), (3, none)],
 .seq (.reg false [⟨some 1, .box 24 8 (.t 0), none, 0⟩,
   ⟨some 2, .mv (.c (.d (.v (.pointer none)))), none, 0⟩,
   ⟨some 3, .mv (.c (.d (.v (.int .i64 0)))), none, 0⟩])
 (.seq (.reg true [⟨some 4, .ld 8 true (.t 1), none, 0⟩,
   ⟨some 5, .ld 8 true (.t 1), none, 0⟩,
   ⟨some 6, .call (.c (.fn (.func 68) [] [])) [.t 5], none, 2⟩,
   ⟨some 7, .call (.c (.fn (.func 18) [] [])) [.t 4, .t 6], none, 7⟩,
   ⟨some 8, .ext 0 (.t 7), none, 15⟩,
   ⟨some 9, .ext 1 (.t 7), none, 15⟩,
   ⟨some 2, .mv (.t 8), none, 63⟩,
   ⟨some 3, .mv (.t 9), none, 127⟩])
 (.ret))⟩
theorem c34 : coF Try.prog Try.f34 = some C34 := by kernel_rfl
def A34 : Ann := { keep := [0, 1, 2, 3], live := [] }
def E34 {Ω : Type} : Env Ω := econs 18 S18 (econs 68 S68 (enil))
theorem e34 : GoodE Try.prog E34 := GoodE.cons g18 (GoodE.cons g68 (GoodE.nil))
def S34 {Ω : Type} : Spec Ω := inl E34 A34 C34 false
theorem g34 : Good1 Try.prog 34 S34 := Good1.inl e34 mix Try.func34 (by kernel_rfl) c34 A34 false
def K15_1 : CC := .ret
def K15_2 : CC := .reg false [⟨some 16, .mv (.t 1), none, 0⟩,
   ⟨some 17, .call (.c (.fn (.func 27) [] [])) [.t 16, .c (.d (.v (.int .i64 5))), .c (.d (.v (.int .u64 3)))], none, 0⟩,
   ⟨some 18, .eq .int false (.t 17) (.c (.d (.v (.int .u64 5)))), none, 0⟩,
   ⟨some 19, .mv (.t 18), none, 0⟩,
   ⟨some 20, .mv (.t 1), some (19, true), 0⟩,
   ⟨some 21, .nilc (.t 20), some (19, true), 0⟩,
   ⟨some 22, .fa 8 (.t 21), some (19, true), 0⟩,
   ⟨some 23, .ld 5 true (.t 22), some (19, true), 0⟩,
   ⟨some 24, .bld [.d (.v (.int .i64 0)), .d (.v (.int .i64 0)), .d (.v (.int .u64 0)), .d (.v (.int .u64 0)), .d (.v (.int .u64 0))] [(0, 1, .c (.d (.v (.int .i64 4)))), (1, 1, .c (.d (.v (.int .i64 5)))), (2, 1, .c (.d (.v (.int .u64 3)))), (4, 1, .c (.d (.v (.int .u64 5))))], some (19, true), 0⟩,
   ⟨some 25, .eq (.cons .int 0 1 false (.cons .int 1 1 false (.cons .int 2 1 false (.cons .int 3 1 false (.cons .int 4 1 false .nil))))) false (.t 23) (.t 24), some (19, true), 0⟩,
   ⟨some 26, .pick (.t 19) (.t 25) (.c (.d (.v (.bool false)))), none, 0⟩,
   ⟨some 27, .mv (.t 26), none, 0⟩,
   ⟨some 28, .mv (.t 1), some (27, true), 0⟩,
   ⟨some 29, .call (.c (.fn (.func 30) [] [])) [.t 28, .c (.d (.v (.int .i64 5)))], some (27, true), 0⟩,
   ⟨some 30, .eq .int false (.t 29) (.c (.d (.v (.int .u64 8)))), some (27, true), 0⟩,
   ⟨some 31, .pick (.t 27) (.t 30) (.c (.d (.v (.bool false)))), none, 0⟩,
   ⟨some 0, .mv (.t 31), none, 0⟩]
def K15_3 : CC := .reg false [⟨some 14, .mv (.t 1), none, 0⟩,
   ⟨some 15, .call (.c (.fn (.func 23) [] [])) [.t 14, .c (.d (.v (.int .i64 5))), .c (.d (.v (.int .u64 5)))], none, 0⟩]
def K15_4 : CC := .seq (.reg false [⟨some 8, .mv (.t 2), none, 0⟩,
   ⟨some 9, .eq .int true (.t 8) (.c (.d (.v (.int .i64 0)))), none, 0⟩,
   ⟨some 10, .mv (.t 9), none, 0⟩,
   ⟨some 11, .mv (.t 1), some (10, false), 0⟩,
   ⟨some 12, .eq .ptr false (.t 11) (.c (.d (.v (.pointer none)))), some (10, false), 0⟩,
   ⟨some 13, .pick (.t 10) (.c (.d (.v (.bool true)))) (.t 12), none, 0⟩])
 (.cond 13 (.seq (.reg false [⟨some 0, .mv (.c (.d (.v (.bool false)))), none, 0⟩])
   (.ret))
   (.skip))
def K15_5 : CC := .reg false [⟨some 4, .bld [.d (.v (.int .i64 0)), .d (.v (.int .i64 0)), .d (.v (.int .i64 0)), .d (.v (.int .i64 0)), .d (.v (.int .i64 0)), .d (.v (.int .i64 0)), .d (.v (.int .i64 0)), .d (.v (.int .u64 0))] [(0, 1, .c (.d (.v (.int .i64 1)))), (1, 1, .c (.d (.v (.int .i64 1)))), (2, 1, .c (.d (.v (.int .i64 2)))), (3, 1, .c (.d (.v (.int .i64 1)))), (4, 1, .c (.d (.v (.int .i64 1)))), (6, 1, .c (.d (.v (.int .i64 1)))), (7, 1, .c (.d (.v (.int .u64 1))))], none, 0⟩,
   ⟨some 5, .call (.c (.fn (.func 34) [] [])) [.t 4], none, 0⟩,
   ⟨some 3, .mv (.t 5), none, 0⟩,
   ⟨some 6, .ext 0 (.t 3), none, 0⟩,
   ⟨some 7, .ext 1 (.t 3), none, 0⟩,
   ⟨some 1, .mv (.t 6), none, 0⟩,
   ⟨some 2, .mv (.t 7), none, 0⟩]
def K15_6 : CC := .reg false [⟨some 0, .mv (.c (.d (.v (.bool false)))), none, 0⟩]
/-- coatcheck/coatchecklaw03.awake -/
def C15 : CF := ⟨0, [(0, none)],
 .seq K15_6 (.seq K15_5 (.seq K15_4 (.seq K15_3 (.seq K15_2 K15_1))))⟩
theorem c15 : coF Try.prog Try.f15 = some C15 := by kernel_rfl
def A15 : Ann := { keep := [0, 1, 2, 13], live := [] }
def E15 {Ω : Type} : Env Ω := econs 23 S23 (econs 27 S27 (econs 30 S30 (econs 34 S34 (enil))))
theorem e15 : GoodE Try.prog E15 := GoodE.cons g23 (GoodE.cons g27 (GoodE.cons g30 (GoodE.cons g34 (GoodE.nil))))
def S15 {Ω : Type} : Spec Ω := conSpec [] FTrue
theorem g15 : Good1 Try.prog 15 S15 := trueGood Try.func15 (by kernel_rfl) c15 (A := A15) e15 mix (by kernel_rfl)
def K4_1 : CC := .ret
def K4_2 : CC := .reg false [⟨some 54, .mv (.t 10), none, 0⟩,
   ⟨some 55, .mv (.t 1), none, 0⟩,
   ⟨some 56, .call (.c (.fn (.func 21) [] [])) [.t 54, .t 55], none, 0⟩,
   ⟨some 57, .eq .int false (.t 56) (.c (.d (.v (.int .u64 0)))), none, 0⟩,
   ⟨some 58, .mv (.t 57), none, 0⟩,
   ⟨some 59, .mv (.t 10), some (58, true), 0⟩,
   ⟨some 60, .mv (.t 1), some (58, true), 0⟩,
   ⟨some 61, .mv (.t 2), some (58, true), 0⟩,
   ⟨some 62, .mv (.t 2), some (58, true), 0⟩,
   ⟨some 63, .call (.c (.fn (.func 25) [] [])) [.t 59, .t 60, .t 61, .t 62], some (58, true), 0⟩,
   ⟨some 64, .un .not (.t 63), some (58, true), 0⟩,
   ⟨some 65, .pick (.t 58) (.t 64) (.c (.d (.v (.bool false)))), none, 0⟩,
   ⟨some 66, .mv (.t 65), none, 0⟩,
   ⟨some 67, .mv (.t 10), some (66, true), 0⟩,
   ⟨some 68, .mv (.t 1), some (66, true), 0⟩,
   ⟨some 69, .mv (.t 2), some (66, true), 0⟩,
   ⟨some 70, .call (.c (.fn (.func 27) [] [])) [.t 67, .t 68, .t 69], some (66, true), 0⟩,
   ⟨some 71, .eq .int false (.t 70) (.c (.d (.v (.int .u64 0)))), some (66, true), 0⟩,
   ⟨some 72, .pick (.t 66) (.t 71) (.c (.d (.v (.bool false)))), none, 0⟩,
   ⟨some 73, .mv (.t 72), none, 0⟩,
   ⟨some 74, .mv (.t 10), some (73, true), 0⟩,
   ⟨some 75, .mv (.t 1), some (73, true), 0⟩,
   ⟨some 76, .call (.c (.fn (.func 30) [] [])) [.t 74, .t 75], some (73, true), 0⟩,
   ⟨some 77, .eq .int false (.t 76) (.c (.d (.v (.int .u64 0)))), some (73, true), 0⟩,
   ⟨some 78, .pick (.t 73) (.t 77) (.c (.d (.v (.bool false)))), none, 0⟩,
   ⟨some 79, .mv (.t 78), none, 0⟩,
   ⟨some 80, .mv (.t 10), some (79, true), 0⟩,
   ⟨some 81, .call (.c (.fn (.func 33) [] [])) [.t 80], some (79, true), 0⟩,
   ⟨some 82, .len (.t 81), some (79, true), 0⟩,
   ⟨some 83, .eq .int false (.t 82) (.c (.d (.v (.int .i64 0)))), some (79, true), 0⟩,
   ⟨some 84, .pick (.t 79) (.t 83) (.c (.d (.v (.bool false)))), none, 0⟩,
   ⟨some 85, .mv (.t 84), none, 0⟩,
   ⟨some 86, .mv (.t 10), some (85, true), 0⟩,
   ⟨some 87, .call (.c (.fn (.func 31) [] [])) [.t 86], some (85, true), 0⟩,
   ⟨some 88, .eq .ptr false (.t 87) (.c (.d (.v (.pointer none)))), some (85, true), 0⟩,
   ⟨some 89, .pick (.t 85) (.t 88) (.c (.d (.v (.bool false)))), none, 0⟩,
   ⟨some 6, .mv (.t 89), none, 0⟩]
def K4_3 : CC := .reg false [⟨some 52, .mv (.t 10), none, 0⟩,
   ⟨some 53, .call (.c (.fn (.func 29) [] [])) [.t 52], none, 0⟩]
def K4_4 : CC := .reg false [⟨some 48, .mv (.t 10), none, 0⟩,
   ⟨some 49, .mv (.t 1), none, 0⟩,
   ⟨some 50, .mv (.t 2), none, 0⟩,
   ⟨some 51, .call (.c (.fn (.func 23) [] [])) [.t 48, .t 49, .t 50], none, 0⟩]
def K4_5 : CC := .reg false [⟨some 10, .mv (.c (.d (.v (.pointer none)))), none, 0⟩]
def K4_6 : CC := .cond 47 (.seq (.reg false [⟨some 6, .mv (.c (.d (.v (.bool false)))), none, 0⟩])
   (.ret))
   (.skip)
def K4_7 : CC := .reg true [⟨some 30, .mv (.t 9), none, 0⟩,
   ⟨some 31, .eq .int false (.t 30) (.c (.d (.v (.int .i64 0)))), none, 1⟩,
   ⟨some 32, .mv (.t 31), none, 3⟩,
   ⟨some 33, .mv (.t 7), some (32, true), 7⟩,
   ⟨some 34, .call (.c (.fn (.func 33) [] [])) [.t 33], some (32, true), 15⟩,
   ⟨some 35, .ld 8 true (.t 3), some (32, true), 7⟩,
   ⟨some 36, .call (.c (.fn (.func 35) [] [])) [.t 35], some (32, true), 63⟩,
   ⟨some 37, .call (.c (.fn (.func 32) [] [])) [.t 34, .t 36], some (32, true), 127⟩,
   ⟨some 38, .un .not (.t 37), some (32, true), 255⟩,
   ⟨some 39, .mv (.t 38), some (32, true), 511⟩,
   ⟨some 40, .mv (.t 7), some (39, false), 1023⟩,
   ⟨some 41, .nilc (.t 40), some (39, false), 2047⟩,
   ⟨some 42, .fa 8 (.t 41), some (39, false), 4095⟩,
   ⟨some 43, .ld 5 true (.t 42), some (39, false), 8191⟩,
   ⟨some 44, .bld [.d (.v (.int .i64 0)), .d (.v (.int .i64 0)), .d (.v (.int .u64 0)), .d (.v (.int .u64 0)), .d (.v (.int .u64 0))] [], some (39, false), 1023⟩,
   ⟨some 45, .eq (.cons .int 0 1 false (.cons .int 1 1 false (.cons .int 2 1 false (.cons .int 3 1 false (.cons .int 4 1 false .nil))))) true (.t 43) (.t 44), some (39, false), 32767⟩,
   ⟨some 46, .pick (.t 39) (.c (.d (.v (.bool true)))) (.t 45), some (32, true), 65535⟩,
   ⟨some 47, .pick (.t 32) (.t 46) (.c (.d (.v (.bool false)))), none, 131071⟩]
def K4_8 : CC := .seq (.reg false [⟨some 20, .mv (.t 8), none, 0⟩,
   ⟨some 21, .mv (.t 9), none, 0⟩,
   ⟨some 22, .eq .int true (.t 20) (.t 21), none, 0⟩,
   ⟨some 23, .mv (.t 22), none, 0⟩,
   ⟨some 24, .mv (.t 7), some (23, false), 0⟩,
   ⟨some 25, .eq .ptr false (.t 24) (.c (.d (.v (.pointer none)))), some (23, false), 0⟩,
   ⟨some 26, .mv (.t 9), some (23, false), 0⟩,
   ⟨some 27, .eq .int true (.t 26) (.c (.d (.v (.int .i64 0)))), some (23, false), 0⟩,
   ⟨some 28, .eq .bool true (.t 25) (.t 27), some (23, false), 0⟩,
   ⟨some 29, .pick (.t 23) (.c (.d (.v (.bool true)))) (.t 28), none, 0⟩])
 (.cond 29 (.seq (.reg false [⟨some 6, .mv (.c (.d (.v (.bool false)))), none, 0⟩])
   (.ret))
   (.skip))
def K4_9 : CC := .reg false [⟨some 18, .ld 8 true (.t 3), none, 0⟩,
   ⟨some 19, .call (.c (.fn (.func 19) [] [])) [.t 18], none, 0⟩,
   ⟨some 9, .mv (.t 19), none, 0⟩]
def K4_10 : CC := .reg false [⟨some 14, .ld 8 true (.t 3), none, 0⟩,
   ⟨some 15, .call (.c (.fn (.func 34) [] [])) [.t 14], none, 0⟩,
   ⟨some 13, .mv (.t 15), none, 0⟩,
   ⟨some 16, .ext 0 (.t 13), none, 0⟩,
   ⟨some 17, .ext 1 (.t 13), none, 0⟩,
   ⟨some 7, .mv (.t 16), none, 0⟩,
   ⟨some 8, .mv (.t 17), none, 0⟩]
def K4_11 : CC := .seq (.reg false [⟨some 11, .call (.c (.fn (.func 15) [] [])) [], none, 0⟩,
   ⟨some 12, .un .not (.t 11), none, 0⟩])
 (.cond 12 (.seq (.reg false [⟨some 6, .mv (.c (.d (.v (.bool false)))), none, 0⟩])
   (.ret))
   (.skip))
def K4_12 : CC := .reg false [⟨some 3, .box 24 8 (.t 0), none, 0⟩,
   ⟨some 6, .mv (.c (.d (.v (.bool false)))), none, 0⟩]
/-- coatcheck/coatchecklaw03.MemoryFirst -/
def C4 : CF := ⟨3, [(6, none)],
 .seq K4_12 (.seq K4_11 (.seq K4_10 (.seq K4_9 (.seq K4_8 (.seq (.seq K4_7 K4_6) (.seq K4_5 (.seq K4_4 (.seq K4_3 (.seq K4_2 K4_1)))))))))⟩
theorem c4 : coF Try.prog Try.f4 = some C4 := by kernel_rfl
def A4 : Ann := { keep := [0, 1, 2, 3, 6, 7, 8, 9, 10, 12, 29, 47], live := [] }
def E4 {Ω : Type} : Env Ω := econs 15 S15 (econs 19 S19 (econs 21 S21 (econs 23 S23 (econs 25 S25 (econs 27 S27 (econs 29 S29 (econs 30 S30 (econs 31 S31 (econs 32 S32 (econs 33 S33 (econs 34 S34 (econs 35 S35 (enil)))))))))))))
theorem e4 : GoodE Try.prog E4 := GoodE.cons g15 (GoodE.cons g19 (GoodE.cons g21 (GoodE.cons g23 (GoodE.cons g25 (GoodE.cons g27 (GoodE.cons g29 (GoodE.cons g30 (GoodE.cons g31 (GoodE.cons g32 (GoodE.cons g33 (GoodE.cons g34 (GoodE.cons g35 (GoodE.nil)))))))))))))
end Go.Sx.Pr
