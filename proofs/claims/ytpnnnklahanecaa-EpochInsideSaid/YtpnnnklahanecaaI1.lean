/- Pieces of the code of functions, compiled for the symbolic interpreter, each checked against the program; no conditions. -/
import Derived.Test.YtpnnnklahanecaaP5
import Derived.Test.YtpnnnklahanecaaRows
import Derived.KernelRfl
namespace Go.Sx.Pr
open Go Go.Sx Go.Proofs
set_option maxRecDepth 100000
/-- coatcheck/pack.Announce -/
def C121 : CF := ⟨2, [(4, none)],
 .seq (.reg false [⟨some 4, .mv (.c (.d (.v (.int .u64 0)))), none, 0⟩])
 (.seq (.seq (.reg false [⟨some 5, .mv (.t 1), none, 0⟩])
 (.cond 5 (.seq (.reg false [⟨some 6, .mv (.t 0), none, 0⟩,
     ⟨some 7, .bin .shl (.t 6) (.c (.d (.v (.int .u64 1)))), none, 0⟩,
     ⟨some 8, .bin .or (.t 7) (.c (.d (.v (.int .u64 1)))), none, 0⟩,
     ⟨some 4, .mv (.t 8), none, 0⟩])
   (.ret))
   (.skip)))
 (.seq (.reg false [⟨some 9, .mv (.t 0), none, 0⟩,
   ⟨some 10, .bin .shl (.t 9) (.c (.d (.v (.int .u64 1)))), none, 0⟩,
   ⟨some 4, .mv (.t 10), none, 0⟩])
 (.ret)))⟩
theorem c121 : coF Try.prog Try.f121 = some C121 := by kernel_rfl
def A121 : Ann := { keep := [0, 1, 4, 5], live := [] }
def E121 {Ω : Type} : Env Ω := enil
theorem e121 : GoodE Try.prog E121 := GoodE.nil
def S121 {Ω : Type} : Spec Ω := inl E121 A121 C121 false
theorem g121 : Good1 Try.prog 121 S121 := Good1.inl e121 mix Try.func121 (by kernel_rfl) c121 A121 false
/-- coatcheck/pack.Unannounce -/
def C87 : CF := ⟨1, [(2, none), (3, none)],
 .seq (.reg false [⟨some 2, .mv (.c (.d (.v (.int .u64 0)))), none, 0⟩,
   ⟨some 3, .mv (.c (.d (.v (.bool false)))), none, 0⟩])
 (.seq (.reg false [⟨some 4, .mv (.t 0), none, 0⟩,
   ⟨some 5, .bin .shr (.t 4) (.c (.d (.v (.int .u64 1)))), none, 0⟩,
   ⟨some 6, .mv (.t 0), none, 0⟩,
   ⟨some 7, .bin .and (.t 6) (.c (.d (.v (.int .u64 1)))), none, 0⟩,
   ⟨some 8, .eq .int false (.t 7) (.c (.d (.v (.int .u64 1)))), none, 0⟩,
   ⟨some 2, .mv (.t 5), none, 0⟩,
   ⟨some 3, .mv (.t 8), none, 0⟩])
 (.ret))⟩
theorem c87 : coF Try.prog Try.f87 = some C87 := by kernel_rfl
def A87 : Ann := { keep := [0, 2, 3], live := [] }
def E87 {Ω : Type} : Env Ω := enil
theorem e87 : GoodE Try.prog E87 := GoodE.nil
def S87 {Ω : Type} : Spec Ω := inl E87 A87 C87 false
theorem g87 : Good1 Try.prog 87 S87 := Good1.inl e87 mix Try.func87 (by kernel_rfl) c87 A87 false
/-- (coatcheck/plan.Plan).Announce -/
def C88 : CF := ⟨2, [(4, none)],
 .seq (.reg false [⟨some 2, .box 49 8 (.t 0), none, 0⟩,
   ⟨some 4, .mv (.c (.d (.v (.int .i64 0)))), none, 0⟩])
 (.seq (.reg false [⟨some 5, .ld 8 true (.t 2), none, 0⟩,
   ⟨some 6, .mv (.t 1), none, 0⟩,
   ⟨some 7, .fa 0 (.t 2), none, 0⟩,
   ⟨some 8, .fa 0 (.t 7), none, 0⟩,
   ⟨some 9, .ld 1 false (.t 8), none, 0⟩,
   ⟨some 10, .call (.c (.fn (.func 122) [] [])) [.t 5, .c (.d (.v (.int .i64 3))), .t 6, .t 9, .c (.d (.v (.int .i64 1)))], none, 0⟩,
   ⟨some 4, .mv (.t 10), none, 0⟩])
 (.ret))⟩
theorem c88 : coF Try.prog Try.f88 = some C88 := by kernel_rfl
def A88 : Ann := { keep := [0, 1, 2, 4], live := [] }
def E88 {Ω : Type} : Env Ω := econs 122 S122 (enil)
theorem e88 : GoodE Try.prog E88 := GoodE.cons g122 (GoodE.nil)
def S88 {Ω : Type} : Spec Ω := inl E88 A88 C88 false
theorem g88 : Good1 Try.prog 88 S88 := Good1.inl e88 mix Try.func88 (by kernel_rfl) c88 A88 false
/-- coatcheck/epoch.announce -/
def C86 : CF := ⟨4, [],
 .reg false [⟨some 8, .mv (.t 0), none, 0⟩,
   ⟨some 9, .mv (.t 0), none, 0⟩,
   ⟨some 10, .nilc (.t 9), none, 0⟩,
   ⟨some 11, .fa 0 (.t 10), none, 0⟩,
   ⟨some 12, .ld 8 true (.t 11), none, 0⟩,
   ⟨some 13, .mv (.t 1), none, 0⟩,
   ⟨some 14, .call (.c (.fn (.func 88) [] [])) [.t 12, .t 13], none, 0⟩,
   ⟨some 15, .mv (.t 2), none, 0⟩,
   ⟨some 16, .mv (.t 3), none, 0⟩,
   ⟨some 17, .call (.c (.fn (.func 121) [] [])) [.t 15, .t 16], none, 0⟩,
   ⟨some 18, .call (.c (.fn (.func 23) [] [])) [.t 8, .t 14, .t 17], none, 0⟩]⟩
theorem c86 : coF Try.prog Try.f86 = some C86 := by kernel_rfl
def A86 : Ann := { keep := [0, 1, 2, 3], live := [] }
def E86 {Ω : Type} : Env Ω := econs 23 S23 (econs 88 S88 (econs 121 S121 (enil)))
theorem e86 : GoodE Try.prog E86 := GoodE.cons g23 (GoodE.cons g88 (GoodE.cons g121 (GoodE.nil)))
def S86 {Ω : Type} : Spec Ω := inl E86 A86 C86 false
theorem g86 : Good1 Try.prog 86 S86 := Good1.inl e86 mix Try.func86 (by kernel_rfl) c86 A86 false
/-- coatcheck/epoch.line -/
def C84 : CF := ⟨1, [(2, none)],
 .seq (.reg false [⟨some 2, .mv (.c (.d (.v (.bool false)))), none, 0⟩])
 (.seq (.seq (.reg false [⟨some 3, .mv (.t 0), none, 0⟩])
 (.block 0 (.seq (.block 3 (.block 2 (.block 1 (.seq (.seq (.seq (.seq (.reg false [⟨some 5, .eq .int false (.t 3) (.c (.d (.v (.int .i64 1)))), none, 0⟩,
           ⟨some 4, .mv (.t 5), none, 0⟩])
         (.cond 4 (.skip)
           (.seq (.reg false [⟨some 6, .eq .int false (.t 3) (.c (.d (.v (.int .i64 2)))), none, 0⟩,
             ⟨some 4, .mv (.t 6), none, 0⟩])
           (.cond 4 (.skip)
             (.reg false [⟨some 7, .eq .int false (.t 3) (.c (.d (.v (.int .i64 3)))), none, 0⟩,
               ⟨some 4, .mv (.t 7), none, 0⟩])))))
         (.cond 4 (.exit 1)
           (.skip)))
         (.seq (.seq (.seq (.reg false [⟨some 9, .eq .int false (.t 3) (.c (.d (.v (.int .i64 70)))), none, 0⟩,
           ⟨some 8, .mv (.t 9), none, 0⟩])
         (.cond 8 (.skip)
           (.seq (.reg false [⟨some 10, .eq .int false (.t 3) (.c (.d (.v (.int .i64 71)))), none, 0⟩,
             ⟨some 8, .mv (.t 10), none, 0⟩])
           (.cond 8 (.skip)
             (.reg false [⟨some 11, .eq .int false (.t 3) (.c (.d (.v (.int .i64 72)))), none, 0⟩,
               ⟨some 8, .mv (.t 11), none, 0⟩])))))
         (.cond 8 (.exit 2)
           (.skip)))
         (.seq (.reg false [⟨some 13, .eq .int false (.t 3) (.c (.d (.v (.int .i64 90)))), none, 0⟩,
           ⟨some 12, .mv (.t 13), none, 0⟩])
         (.cond 12 (.exit 3)
           (.skip)))))
         (.exit 0)))))
   (.seq (.seq (.reg false [⟨some 2, .mv (.c (.d (.v (.bool true)))), none, 0⟩])
   (.ret))
   (.exit 0)))))
 (.seq (.reg false [⟨some 2, .mv (.c (.d (.v (.bool false)))), none, 0⟩])
 (.ret)))⟩
theorem c84 : coF Try.prog Try.f84 = some C84 := by kernel_rfl
def A84 : Ann := { keep := [0, 2, 3, 4, 8, 12], live := [], kc := [4, 8] }
def E84 {Ω : Type} : Env Ω := enil
theorem e84 : GoodE Try.prog E84 := GoodE.nil
def S84 {Ω : Type} : Spec Ω := inl E84 A84 C84 false
theorem g84 : Good1 Try.prog 84 S84 := Good1.inl e84 mix Try.func84 (by kernel_rfl) c84 A84 false
/-- coatcheck/epoch.Step$1 -/
def C85 : CF := ⟨3, [],
 .reg false [⟨some 4, .mv (.t 0), none, 0⟩,
   ⟨some 5, .fa 0 (.t 1), none, 0⟩,
   ⟨none, .st 1 (.t 5) (.c (.d (.v (.int .i64 0)))), none, 0⟩,
   ⟨none, .st 1 (.t 2) (.t 4), none, 0⟩]⟩
theorem c85 : coF Try.prog Try.f85 = some C85 := by kernel_rfl
def A85 : Ann := { keep := [0, 1, 2], live := [] }
def E85 {Ω : Type} : Env Ω := enil
theorem e85 : GoodE Try.prog E85 := GoodE.nil
def S85 {Ω : Type} : Spec Ω := inl E85 A85 C85 false
theorem g85 : Good1 Try.prog 85 S85 := Good1.inl e85 mix Try.func85 (by kernel_rfl) c85 A85 false
def K54_1 : CC := .seq (.reg true [⟨some 127, .ld 33 true (.t 5), none, 0⟩,
   ⟨some 128, .ld 1 false (.t 9), none, 0⟩,
   ⟨none, .st 33 (.t 6) (.t 127), none, 1⟩,
   ⟨some 7, .mv (.t 128), none, 7⟩,
   ⟨some 8, .mv (.c (.d (.v (.bool true)))), none, 15⟩])
 (.ret)
def K54_2 : CC := .seq (.reg false [⟨some 30, .mv (.t 0), none, 0⟩,
   ⟨some 31, .call (.c (.fn (.func 21) [] [])) [.t 30, .c (.d (.v (.int .i64 0)))], none, 0⟩,
   ⟨some 32, .fa 9 (.t 5), none, 0⟩,
   ⟨none, .st 1 (.t 32) (.t 31), none, 0⟩])
 (.reg false [⟨some 33, .fa 0 (.t 5), none, 0⟩,
   ⟨none, .st 1 (.t 33) (.c (.d (.v (.int .i64 2)))), none, 0⟩])
def K54_3 : CC := .seq (.reg false [⟨some 36, .mv (.t 0), none, 0⟩,
   ⟨some 37, .mv (.t 1), none, 0⟩,
   ⟨some 38, .fa 9 (.t 5), none, 0⟩,
   ⟨some 39, .ld 1 false (.t 38), none, 0⟩,
   ⟨some 40, .call (.c (.fn (.func 86) [] [])) [.t 36, .t 37, .t 39, .c (.d (.v (.bool true)))], none, 0⟩])
 (.reg false [⟨some 41, .fa 0 (.t 5), none, 0⟩,
   ⟨none, .st 1 (.t 41) (.c (.d (.v (.int .i64 3)))), none, 0⟩])
def K54_4 : CC := .seq (.reg false [⟨some 44, .mv (.t 0), none, 0⟩,
   ⟨some 45, .call (.c (.fn (.func 21) [] [])) [.t 44, .c (.d (.v (.int .i64 0)))], none, 0⟩,
   ⟨some 11, .mv (.t 45), none, 0⟩])
 (.seq (.reg false [⟨some 46, .mv (.t 11), none, 0⟩,
   ⟨some 47, .fa 9 (.t 5), none, 0⟩,
   ⟨some 48, .ld 1 false (.t 47), none, 0⟩,
   ⟨some 49, .eq .int false (.t 46) (.t 48), none, 0⟩])
 (.cond 49 (.reg false [⟨some 50, .mv (.t 10), none, 0⟩,
     ⟨some 51, .call (.t 50) [.c (.d (.v (.int .i64 1)))], none, 0⟩])
   (.reg false [⟨some 52, .mv (.t 11), none, 0⟩,
     ⟨some 53, .fa 9 (.t 5), none, 0⟩,
     ⟨none, .st 1 (.t 53) (.t 52), none, 0⟩,
     ⟨some 54, .fa 0 (.t 5), none, 0⟩,
     ⟨none, .st 1 (.t 54) (.c (.d (.v (.int .i64 2)))), none, 0⟩])))
def K54_5 : CC := .seq (.reg false [⟨some 57, .mv (.t 0), none, 0⟩,
   ⟨some 58, .mv (.t 1), none, 0⟩,
   ⟨some 59, .fa 9 (.t 5), none, 0⟩,
   ⟨some 60, .ld 1 false (.t 59), none, 0⟩,
   ⟨some 61, .call (.c (.fn (.func 86) [] [])) [.t 57, .t 58, .t 60, .c (.d (.v (.bool false)))], none, 0⟩])
 (.reg false [⟨some 62, .mv (.t 10), none, 0⟩,
   ⟨some 63, .call (.t 62) [.c (.d (.v (.int .i64 1)))], none, 0⟩])
def K54_6 : CC := .seq (.reg false [⟨some 66, .mv (.t 0), none, 0⟩,
   ⟨some 67, .call (.c (.fn (.func 21) [] [])) [.t 66, .c (.d (.v (.int .i64 0)))], none, 0⟩,
   ⟨some 68, .fa 25 (.t 5), none, 0⟩,
   ⟨none, .st 1 (.t 68) (.t 67), none, 0⟩,
   ⟨some 69, .fa 28 (.t 5), none, 0⟩,
   ⟨none, .st 1 (.t 69) (.c (.d (.v (.int .i64 0)))), none, 0⟩])
 (.reg false [⟨some 70, .fa 0 (.t 5), none, 0⟩,
   ⟨none, .st 1 (.t 70) (.c (.d (.v (.int .i64 71)))), none, 0⟩])
def K54_7 : CC := .cond 90 (.reg false [⟨some 98, .mv (.t 10), none, 0⟩,
     ⟨some 99, .call (.t 98) [.c (.d (.v (.int .i64 2)))], none, 0⟩])
   (.seq (.reg true [⟨some 101, .fa 28 (.t 5), none, 0⟩,
     ⟨some 102, .ld 1 false (.t 101), none, 1⟩,
     ⟨some 103, .mv (.t 0), none, 0⟩,
     ⟨some 104, .nilc (.t 103), none, 4⟩,
     ⟨some 105, .fa 0 (.t 104), none, 12⟩,
     ⟨some 106, .fa 0 (.t 105), none, 28⟩,
     ⟨some 107, .fa 0 (.t 106), none, 60⟩,
     ⟨some 108, .ld 1 false (.t 107), none, 124⟩,
     ⟨some 109, .bin .sub (.t 108) (.c (.d (.v (.int .i64 1)))), none, 252⟩,
     ⟨some 110, .bin .geq (.t 102) (.t 109), none, 511⟩,
     ⟨some 100, .mv (.t 110), none, 1023⟩])
   (.cond 100 (.seq (.reg false [⟨some 111, .fa 28 (.t 5), none, 0⟩,
       ⟨some 112, .ld 1 false (.t 111), none, 0⟩,
       ⟨some 113, .bin .add (.t 112) (.c (.d (.v (.int .i64 1)))), none, 0⟩,
       ⟨some 114, .fa 28 (.t 5), none, 0⟩,
       ⟨none, .st 1 (.t 114) (.t 113), none, 0⟩])
     (.reg false [⟨some 115, .fa 0 (.t 5), none, 0⟩,
       ⟨none, .st 1 (.t 115) (.c (.d (.v (.int .i64 72)))), none, 0⟩]))
     (.reg false [⟨some 86, .fa 28 (.t 5), none, 0⟩,
       ⟨some 87, .ld 1 false (.t 86), none, 0⟩,
       ⟨some 88, .bin .add (.t 87) (.c (.d (.v (.int .i64 1)))), none, 0⟩,
       ⟨some 89, .fa 28 (.t 5), none, 0⟩,
       ⟨none, .st 1 (.t 89) (.t 88), none, 0⟩])))
def K54_8 : CC := .reg false [⟨some 91, .mv (.t 13), none, 0⟩,
   ⟨some 92, .mv (.t 91), none, 0⟩,
   ⟨some 93, .mv (.t 12), some (92, true), 0⟩,
   ⟨some 94, .fa 25 (.t 5), some (92, true), 0⟩,
   ⟨some 95, .ld 1 false (.t 94), some (92, true), 0⟩,
   ⟨some 96, .eq .int true (.t 93) (.t 95), some (92, true), 0⟩,
   ⟨some 97, .pick (.t 92) (.t 96) (.c (.d (.v (.bool false)))), none, 0⟩,
   ⟨some 90, .mv (.t 97), none, 0⟩]
def K54_9 : CC := .reg true [⟨some 74, .mv (.t 0), none, 0⟩,
   ⟨some 75, .mv (.t 0), none, 0⟩,
   ⟨some 76, .nilc (.t 75), none, 2⟩,
   ⟨some 77, .fa 0 (.t 76), none, 6⟩,
   ⟨some 78, .ld 8 true (.t 77), none, 14⟩,
   ⟨some 79, .fa 28 (.t 5), none, 0⟩,
   ⟨some 80, .ld 1 false (.t 79), none, 32⟩,
   ⟨some 81, .call (.c (.fn (.func 88) [] [])) [.t 78, .t 80], none, 126⟩,
   ⟨some 82, .call (.c (.fn (.func 21) [] [])) [.t 74, .t 81], none, 255⟩,
   ⟨some 83, .call (.c (.fn (.func 87) [] [])) [.t 82], none, 511⟩,
   ⟨some 73, .mv (.t 83), none, 1023⟩,
   ⟨some 84, .ext 0 (.t 73), none, 2047⟩,
   ⟨some 85, .ext 1 (.t 73), none, 2047⟩,
   ⟨some 12, .mv (.t 84), none, 4095⟩,
   ⟨some 13, .mv (.t 85), none, 16383⟩]
def K54_10 : CC := .seq (.reg false [⟨some 117, .eq .int false (.t 27) (.c (.d (.v (.int .i64 72)))), none, 0⟩,
   ⟨some 116, .mv (.t 117), none, 0⟩])
 (.cond 116 (.seq (.reg false [⟨some 118, .mv (.t 10), none, 0⟩,
     ⟨some 119, .call (.t 118) [.c (.d (.v (.int .i64 2)))], none, 0⟩])
   (.seq (.reg false [⟨some 120, .mv (.t 0), none, 0⟩,
     ⟨some 121, .fa 25 (.t 5), none, 0⟩,
     ⟨some 122, .ld 1 false (.t 121), none, 0⟩,
     ⟨some 123, .fa 25 (.t 5), none, 0⟩,
     ⟨some 124, .ld 1 false (.t 123), none, 0⟩,
     ⟨some 125, .bin .add (.t 124) (.c (.d (.v (.int .u64 1)))), none, 0⟩,
     ⟨some 126, .call (.c (.fn (.func 25) [] [])) [.t 120, .c (.d (.v (.int .i64 0))), .t 122, .t 125], none, 0⟩])
   (.cond 126 (.reg false [⟨none, .st 1 (.t 9) (.c (.d (.v (.int .i64 1)))), none, 0⟩])
     (.skip))))
   (.skip))
def K54_11 : CC := .reg false [⟨some 72, .eq .int false (.t 27) (.c (.d (.v (.int .i64 71)))), none, 0⟩,
   ⟨some 71, .mv (.t 72), none, 0⟩]
def K54_12 : CC := .reg false [⟨some 65, .eq .int false (.t 27) (.c (.d (.v (.int .i64 70)))), none, 0⟩,
   ⟨some 64, .mv (.t 65), none, 0⟩]
def K54_13 : CC := .reg false [⟨some 56, .eq .int false (.t 27) (.c (.d (.v (.int .i64 90)))), none, 0⟩,
   ⟨some 55, .mv (.t 56), none, 0⟩]
def K54_14 : CC := .reg false [⟨some 43, .eq .int false (.t 27) (.c (.d (.v (.int .i64 3)))), none, 0⟩,
   ⟨some 42, .mv (.t 43), none, 0⟩]
def K54_15 : CC := .reg false [⟨some 35, .eq .int false (.t 27) (.c (.d (.v (.int .i64 2)))), none, 0⟩,
   ⟨some 34, .mv (.t 35), none, 0⟩]
def K54_16 : CC := .reg false [⟨some 29, .eq .int false (.t 27) (.c (.d (.v (.int .i64 1)))), none, 0⟩,
   ⟨some 28, .mv (.t 29), none, 0⟩]
def K54_17 : CC := .reg false [⟨some 26, .fa 0 (.t 5), none, 0⟩,
   ⟨some 27, .ld 1 false (.t 26), none, 0⟩]
def K54_18 : CC := .reg false [⟨some 25, .mkf (.func 85) [] [.t 5, .t 9], none, 0⟩,
   ⟨some 10, .mv (.t 25), none, 0⟩]
def K54_19 : CC := .reg false [⟨some 9, .newc 3 [.d (.v (.int .i64 0))], none, 0⟩,
   ⟨none, .st 1 (.t 9) (.c (.d (.v (.int .i64 0)))), none, 0⟩]
def K54_20 : CC := .reg false [⟨some 23, .mv (.t 0), none, 0⟩,
   ⟨some 24, .call (.c (.fn (.func 29) [] [])) [.t 23], none, 0⟩]
def K54_21 : CC := .seq (.reg false [⟨some 14, .mv (.t 0), none, 0⟩,
   ⟨some 15, .eq .ptr false (.t 14) (.c (.d (.v (.pointer none)))), none, 0⟩,
   ⟨some 16, .mv (.t 15), none, 0⟩,
   ⟨some 17, .fa 0 (.t 5), some (16, false), 0⟩,
   ⟨some 18, .ld 1 false (.t 17), some (16, false), 0⟩,
   ⟨some 19, .call (.c (.fn (.func 84) [] [])) [.t 18], some (16, false), 0⟩,
   ⟨some 20, .un .not (.t 19), some (16, false), 0⟩,
   ⟨some 21, .pick (.t 16) (.c (.d (.v (.bool true)))) (.t 20), none, 0⟩])
 (.cond 21 (.seq (.reg false [⟨some 22, .ld 33 true (.t 5), none, 0⟩,
     ⟨none, .st 33 (.t 6) (.t 22), none, 0⟩,
     ⟨some 7, .mv (.c (.d (.v (.int .i64 0)))), none, 0⟩,
     ⟨some 8, .mv (.c (.d (.v (.bool false)))), none, 0⟩])
   (.ret))
   (.skip))
def K54_22 : CC := .reg false [⟨some 5, .box 73 33 (.t 2), none, 0⟩,
   ⟨some 6, .newc 73 [.d (.v (.int .i64 0)), .d (.v (.int .i64 0)), .d (.v (.int .u64 0)), .d (.v (.int .u64 0)), .d (.v (.int .i64 0)), .d (.v (.bool false)), .d (.v (.int .i64 0)), .d (.v (.int .i64 0)), .d (.v (.bool false)), .d (.v (.int .u64 0)), .d (.v (.slice none 0 0)), .d (.v (.int .u64 0)), .d (.v (.slice none 0 0)), .d (.v (.int .u64 0)), .d (.v (.slice none 0 0)), .d (.v (.int .u64 0)), .d (.v (.slice none 0 0)), .d (.v (.slice none 0 0)), .d (.v (.int .i64 0)), .d (.v (.int .i64 0)), .d (.v (.int .i64 0)), .d (.v (.int .i64 0)), .d (.v (.int .i64 0)), .d (.v (.int .u64 0)), .d (.v (.int .u64 0)), .d (.v (.int .u64 0)), .d (.v (.int .u64 0)), .d (.v (.int .u64 0)), .d (.v (.int .i64 0)), .d (.v (.slice none 0 0)), .d (.v (.int .u64 0)), .d (.v (.int .i64 0)), .d (.v (.bool false))], none, 0⟩,
   ⟨some 7, .mv (.c (.d (.v (.int .i64 0)))), none, 0⟩,
   ⟨some 8, .mv (.c (.d (.v (.bool false)))), none, 0⟩]
/-- coatcheck/epoch.Step -/
def C54 : CF := ⟨3, [(6, some (33, true)), (7, none), (8, none)],
 .seq K54_22 (.seq K54_21 (.seq K54_20 (.seq K54_19 (.seq K54_18 (.seq (.seq K54_17 (.block 0 (.seq K54_16 (.cond 28 K54_2 (.seq K54_15 (.cond 34 K54_3 (.seq K54_14 (.cond 42 K54_4 (.seq K54_13 (.cond 55 K54_5 (.seq K54_12 (.cond 64 K54_6 (.seq K54_11 (.cond 71 (.seq K54_9 (.block 1 (.seq K54_8 K54_7))) K54_10)))))))))))))) K54_1)))))⟩
theorem c54 : coF Try.prog Try.f54 = some C54 := by kernel_rfl
def A54 : Ann := { keep := [0, 1, 2, 5, 6, 7, 8, 9, 10, 11, 12, 13, 21, 27, 28, 34, 42, 49, 55, 64, 71, 90, 100, 116, 126], live := [] }
def E54 {Ω : Type} : Env Ω := econs 21 S21 (econs 25 S25 (econs 29 S29 (econs 84 S84 (econs 85 S85 (econs 86 S86 (econs 87 S87 (econs 88 S88 (enil))))))))
theorem e54 : GoodE Try.prog E54 := GoodE.cons g21 (GoodE.cons g25 (GoodE.cons g29 (GoodE.cons g84 (GoodE.cons g85 (GoodE.cons g86 (GoodE.cons g87 (GoodE.cons g88 (GoodE.nil))))))))
def S54 {Ω : Type} : Spec Ω := inl E54 A54 C54 false
theorem g54 : Good1 Try.prog 54 S54 := Good1.inl e54 mix Try.func54 (by kernel_rfl) c54 A54 false
def K57_1 : CC := .seq (.reg false [⟨some 33, .mv (.t 1), none, 0⟩,
   ⟨some 34, .ld 8 true (.t 8), none, 0⟩,
   ⟨some 35, .mv (.t 2), none, 0⟩,
   ⟨some 36, .call (.c (.fn (.func 88) [] [])) [.t 34, .t 35], none, 0⟩,
   ⟨some 37, .ixs 1 (.t 33) (.t 36), none, 0⟩,
   ⟨some 38, .ld 1 false (.t 37), none, 0⟩,
   ⟨some 39, .call (.c (.fn (.func 87) [] [])) [.t 38], none, 0⟩,
   ⟨some 32, .mv (.t 39), none, 0⟩,
   ⟨some 40, .ext 0 (.t 32), none, 0⟩,
   ⟨some 41, .ext 1 (.t 32), none, 0⟩,
   ⟨some 10, .mv (.t 40), none, 0⟩,
   ⟨some 11, .mv (.t 41), none, 0⟩])
 (.seq (.seq (.reg false [⟨some 42, .mv (.t 11), none, 0⟩,
   ⟨some 43, .un .not (.t 42), none, 0⟩])
 (.cond 43 (.seq (.reg false [⟨some 6, .mv (.c (.d (.v (.int .u64 0)))), none, 0⟩,
     ⟨some 7, .mv (.c (.d (.v (.bool false)))), none, 0⟩])
   (.ret))
   (.skip)))
 (.seq (.reg false [⟨some 44, .mv (.t 10), none, 0⟩,
   ⟨some 6, .mv (.t 44), none, 0⟩,
   ⟨some 7, .mv (.c (.d (.v (.bool true)))), none, 0⟩])
 (.ret)))
def K57_2 : CC := .seq (.reg false [⟨some 17, .mv (.t 9), none, 0⟩,
   ⟨some 18, .eq .int true (.t 17) (.c (.d (.v (.int .i64 0)))), none, 0⟩,
   ⟨some 19, .mv (.t 18), none, 0⟩,
   ⟨some 20, .mv (.t 1), some (19, false), 0⟩,
   ⟨some 21, .len (.t 20), some (19, false), 0⟩,
   ⟨some 22, .ld 8 true (.t 8), some (19, false), 0⟩,
   ⟨some 23, .call (.c (.fn (.func 64) [] [])) [.t 22], some (19, false), 0⟩,
   ⟨some 24, .eq .int true (.t 21) (.t 23), some (19, false), 0⟩,
   ⟨some 25, .pick (.t 19) (.c (.d (.v (.bool true)))) (.t 24), none, 0⟩,
   ⟨some 26, .mv (.t 25), none, 0⟩,
   ⟨some 27, .ld 8 true (.t 8), some (26, false), 0⟩,
   ⟨some 28, .mv (.t 2), some (26, false), 0⟩,
   ⟨some 29, .call (.c (.fn (.func 88) [] [])) [.t 27, .t 28], some (26, false), 0⟩,
   ⟨some 30, .bin .lss (.t 29) (.c (.d (.v (.int .i64 0)))), some (26, false), 0⟩,
   ⟨some 31, .pick (.t 26) (.c (.d (.v (.bool true)))) (.t 30), none, 0⟩])
 (.cond 31 (.seq (.reg false [⟨some 6, .mv (.c (.d (.v (.int .u64 0)))), none, 0⟩,
     ⟨some 7, .mv (.c (.d (.v (.bool false)))), none, 0⟩])
   (.ret))
   (.skip))
def K57_3 : CC := .reg false [⟨some 13, .ld 8 true (.t 3), none, 0⟩,
   ⟨some 14, .call (.c (.fn (.func 63) [] [])) [.t 13], none, 0⟩,
   ⟨some 12, .mv (.t 14), none, 0⟩,
   ⟨some 15, .ext 0 (.t 12), none, 0⟩,
   ⟨some 16, .ext 1 (.t 12), none, 0⟩,
   ⟨some 8, .newc 49 [.d (.v (.int .i64 0)), .d (.v (.int .i64 0)), .d (.v (.int .i64 0)), .d (.v (.int .i64 0)), .d (.v (.int .i64 0)), .d (.v (.int .i64 0)), .d (.v (.int .i64 0)), .d (.v (.int .u64 0))], none, 0⟩,
   ⟨none, .st 8 (.t 8) (.t 15), none, 0⟩,
   ⟨some 9, .mv (.t 16), none, 0⟩]
def K57_4 : CC := .reg false [⟨some 3, .box 24 8 (.t 0), none, 0⟩,
   ⟨some 6, .mv (.c (.d (.v (.int .u64 0)))), none, 0⟩,
   ⟨some 7, .mv (.c (.d (.v (.bool false)))), none, 0⟩]
/-- coatcheck/epoch.Inside -/
def C57 : CF := ⟨3, [(6, none), (7, none)],
 .seq K57_4 (.seq K57_3 (.seq K57_2 K57_1))⟩
theorem c57 : coF Try.prog Try.f57 = some C57 := by kernel_rfl
def A57 : Ann := { keep := [0, 1, 2, 3, 6, 7, 8, 9, 10, 11, 31, 43], live := [] }
def E57 {Ω : Type} : Env Ω := econs 63 S63 (econs 64 S64 (econs 87 S87 (econs 88 S88 (enil))))
theorem e57 : GoodE Try.prog E57 := GoodE.cons g63 (GoodE.cons g64 (GoodE.cons g87 (GoodE.cons g88 (GoodE.nil))))
def K58_1 : CC := .seq (.reg false [⟨some 30, .mv (.t 1), none, 0⟩,
   ⟨some 31, .mv (.t 2), none, 0⟩,
   ⟨some 32, .bin .add (.c (.d (.v (.int .i64 3)))) (.t 31), none, 0⟩,
   ⟨some 33, .ixs 1 (.t 30) (.t 32), none, 0⟩,
   ⟨some 34, .ld 1 false (.t 33), none, 0⟩,
   ⟨some 8, .mv (.t 34), none, 0⟩])
 (.seq (.seq (.reg false [⟨some 35, .mv (.t 8), none, 0⟩,
   ⟨some 36, .bin .rem (.t 35) (.c (.d (.v (.int .u64 2)))), none, 0⟩,
   ⟨some 37, .eq .int false (.t 36) (.c (.d (.v (.int .u64 0)))), none, 0⟩])
 (.cond 37 (.seq (.reg false [⟨some 6, .mv (.c (.d (.v (.int .u64 0)))), none, 0⟩,
     ⟨some 7, .mv (.c (.d (.v (.bool false)))), none, 0⟩])
   (.ret))
   (.skip)))
 (.seq (.reg false [⟨some 38, .mv (.t 8), none, 0⟩,
   ⟨some 39, .bin .quo (.t 38) (.c (.d (.v (.int .u64 2)))), none, 0⟩,
   ⟨some 6, .mv (.t 39), none, 0⟩,
   ⟨some 7, .mv (.c (.d (.v (.bool true)))), none, 0⟩])
 (.ret)))
def K58_2 : CC := .seq (.reg false [⟨some 9, .ld 8 true (.t 3), none, 0⟩,
   ⟨some 10, .call (.c (.fn (.func 19) [] [])) [.t 9], none, 0⟩,
   ⟨some 11, .eq .int true (.t 10) (.c (.d (.v (.int .i64 0)))), none, 0⟩,
   ⟨some 12, .mv (.t 11), none, 0⟩,
   ⟨some 13, .mv (.t 1), some (12, false), 0⟩,
   ⟨some 14, .len (.t 13), some (12, false), 0⟩,
   ⟨some 15, .ld 8 true (.t 3), some (12, false), 0⟩,
   ⟨some 16, .call (.c (.fn (.func 20) [] [])) [.t 15], some (12, false), 0⟩,
   ⟨some 17, .len (.t 16), some (12, false), 0⟩,
   ⟨some 18, .eq .int true (.t 14) (.t 17), some (12, false), 0⟩,
   ⟨some 19, .pick (.t 12) (.c (.d (.v (.bool true)))) (.t 18), none, 0⟩,
   ⟨some 20, .mv (.t 19), none, 0⟩,
   ⟨some 21, .mv (.t 2), some (20, false), 0⟩,
   ⟨some 22, .bin .lss (.t 21) (.c (.d (.v (.int .i64 0)))), some (20, false), 0⟩,
   ⟨some 23, .pick (.t 20) (.c (.d (.v (.bool true)))) (.t 22), none, 0⟩,
   ⟨some 24, .mv (.t 23), none, 0⟩,
   ⟨some 25, .mv (.t 2), some (24, false), 0⟩,
   ⟨some 26, .fa 0 (.t 3), some (24, false), 0⟩,
   ⟨some 27, .ld 1 false (.t 26), some (24, false), 0⟩,
   ⟨some 28, .bin .geq (.t 25) (.t 27), some (24, false), 0⟩,
   ⟨some 29, .pick (.t 24) (.c (.d (.v (.bool true)))) (.t 28), none, 0⟩])
 (.cond 29 (.seq (.reg false [⟨some 6, .mv (.c (.d (.v (.int .u64 0)))), none, 0⟩,
     ⟨some 7, .mv (.c (.d (.v (.bool false)))), none, 0⟩])
   (.ret))
   (.skip))
def K58_3 : CC := .reg false [⟨some 3, .box 24 8 (.t 0), none, 0⟩,
   ⟨some 6, .mv (.c (.d (.v (.int .u64 0)))), none, 0⟩,
   ⟨some 7, .mv (.c (.d (.v (.bool false)))), none, 0⟩]
/-- coatcheck/coatcheckref07.Inside -/
def C58 : CF := ⟨3, [(6, none), (7, none)],
 .seq K58_3 (.seq K58_2 K58_1)⟩
theorem c58 : coF Try.prog Try.f58 = some C58 := by kernel_rfl
def A58 : Ann := { keep := [0, 1, 2, 3, 6, 7, 8, 29, 37], live := [] }
def E58 {Ω : Type} : Env Ω := econs 19 S19 (econs 20 S20 (enil))
theorem e58 : GoodE Try.prog E58 := GoodE.cons g19 (GoodE.cons g20 (GoodE.nil))
end Go.Sx.Pr
