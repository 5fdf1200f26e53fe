/- Pieces of the code of functions, compiled for the symbolic interpreter, each checked against the program; no conditions. -/
import Derived.Test.YthbknbmfcklebaaGreatR7
import Derived.Test.YthbknbmfcklebaaGreatRows
import Derived.KernelRfl
set_option linter.all false
set_option linter.unusedVariables false
set_option linter.unusedSimpArgs false
set_option linter.unnecessarySimpa false
namespace Go.Sx.Pr
open Go Go.Sx Go.Proofs
set_option maxRecDepth 100000
/-- coatcheck/epoch.line -/
def C84 : CF := ⟨1, [(2, none)],
 .seq (.reg false [⟨some 2, .mv (.c (.d (.v (.bool false)))), none, 0⟩])
 (.seq (.seq (.reg false [⟨some 3, .mv (.t 0), none, 0⟩])
 (.block 0 (.seq (.block 3 (.block 2 (.block 1 (.seq (.seq (.seq (.seq (.reg false [⟨some 5, .eq .int false (.t 3) (.c (.d (.v (.int .i64 1)))), none, 0⟩,
           ⟨some 4, .mv (.t 5), none, 0⟩])
         (.cond 4 (.skip)
           (.seq (.reg false [⟨some 6, .eq .int false (.t 3) (.c (.d (.v (.int .i64 2)))), none, 0⟩,
             ⟨some 4, .mv (.t 6), none, 0⟩])
           (.cond 4 (.skip)
             (.reg false [⟨some 7, .eq .int false (.t 3) (.c (.d (.v (.int .i64 3)))), none, 0⟩,
               ⟨some 4, .mv (.t 7), none, 0⟩])))))
         (.cond 4 (.exit 1)
           (.skip)))
         (.seq (.seq (.seq (.reg false [⟨some 9, .eq .int false (.t 3) (.c (.d (.v (.int .i64 70)))), none, 0⟩,
           ⟨some 8, .mv (.t 9), none, 0⟩])
         (.cond 8 (.skip)
           (.seq (.reg false [⟨some 10, .eq .int false (.t 3) (.c (.d (.v (.int .i64 71)))), none, 0⟩,
             ⟨some 8, .mv (.t 10), none, 0⟩])
           (.cond 8 (.skip)
             (.reg false [⟨some 11, .eq .int false (.t 3) (.c (.d (.v (.int .i64 72)))), none, 0⟩,
               ⟨some 8, .mv (.t 11), none, 0⟩])))))
         (.cond 8 (.exit 2)
           (.skip)))
         (.seq (.reg false [⟨some 13, .eq .int false (.t 3) (.c (.d (.v (.int .i64 90)))), none, 0⟩,
           ⟨some 12, .mv (.t 13), none, 0⟩])
         (.cond 12 (.exit 3)
           (.skip)))))
         (.exit 0)))))
   (.seq (.seq (.reg false [⟨some 2, .mv (.c (.d (.v (.bool true)))), none, 0⟩])
   (.ret))
   (.exit 0)))))
 (.seq (.reg false [⟨some 2, .mv (.c (.d (.v (.bool false)))), none, 0⟩])
 (.ret)))⟩
theorem c84 : coF Tryz.prog Tryz.f89 = some C84 := by kernel_rfl
def A84 : Ann := { keep := [0, 2, 3, 4, 8, 12], live := [], kc := [4, 8] }
def E84 {Ω : Type} : Env Ω := enil
theorem e84 : GoodE Tryz.prog E84 := GoodE.nil
def S84 {Ω : Type} : Spec Ω := inl E84 A84 C84 false
theorem g84 : Good1 Tryz.prog 89 S84 := Good1.inl e84 mix Tryz.func89 (by kernel_rfl) c84 A84 false
/-- coatcheck/epoch.Step$1 -/
def C85 : CF := ⟨3, [],
 .reg false [⟨some 4, .mv (.t 0), none, 0⟩,
   ⟨some 5, .fa 0 (.t 1), none, 0⟩,
   ⟨none, .st 1 (.t 5) (.c (.d (.v (.int .i64 0)))), none, 0⟩,
   ⟨none, .st 1 (.t 2) (.t 4), none, 0⟩]⟩
theorem c85 : coF Tryz.prog Tryz.f90 = some C85 := by kernel_rfl
def A85 : Ann := { keep := [0, 1, 2], live := [] }
def E85 {Ω : Type} : Env Ω := enil
theorem e85 : GoodE Tryz.prog E85 := GoodE.nil
def S85 {Ω : Type} : Spec Ω := inl E85 A85 C85 false
theorem g85 : Good1 Tryz.prog 90 S85 := Good1.inl e85 mix Tryz.func90 (by kernel_rfl) c85 A85 false
/-- coatcheck/epoch.announce -/
def C86 : CF := ⟨4, [],
 .reg false [⟨some 8, .mv (.t 0), none, 0⟩,
   ⟨some 9, .mv (.t 0), none, 0⟩,
   ⟨some 10, .nilc (.t 9), none, 0⟩,
   ⟨some 11, .fa 0 (.t 10), none, 0⟩,
   ⟨some 12, .ld 8 true (.t 11), none, 0⟩,
   ⟨some 13, .mv (.t 1), none, 0⟩,
   ⟨some 14, .call (.c (.fn (.func 93) [] [])) [.t 12, .t 13], none, 0⟩,
   ⟨some 15, .mv (.t 2), none, 0⟩,
   ⟨some 16, .mv (.t 3), none, 0⟩,
   ⟨some 17, .call (.c (.fn (.func 124) [] [])) [.t 15, .t 16], none, 0⟩,
   ⟨some 18, .call (.c (.fn (.func 53) [] [])) [.t 8, .t 14, .t 17], none, 0⟩]⟩
theorem c86 : coF Tryz.prog Tryz.f91 = some C86 := by kernel_rfl
def A86 : Ann := { keep := [0, 1, 2, 3], live := [] }
def E86 {Ω : Type} : Env Ω := econs 53 S23m (econs 93 S88 (econs 124 S121c (enil)))
theorem e86 : GoodE Tryz.prog E86 := GoodE.cons g23m (GoodE.cons g88 (GoodE.cons g121c (GoodE.nil)))
def S86 {Ω : Type} : Spec Ω := inl E86 A86 C86 false
theorem g86 : Good1 Tryz.prog 91 S86 := Good1.inl e86 mix Tryz.func91 (by kernel_rfl) c86 A86 false
def K54_1 : CC := .seq (.reg true [⟨some 127, .ld 33 true (.t 5), none, 0⟩,
   ⟨some 128, .ld 1 false (.t 9), none, 0⟩,
   ⟨none, .st 33 (.t 6) (.t 127), none, 1⟩,
   ⟨some 7, .mv (.t 128), none, 7⟩,
   ⟨some 8, .mv (.c (.d (.v (.bool true)))), none, 15⟩])
 (.ret)
def K54_2 : CC := .seq (.reg false [⟨some 30, .mv (.t 0), none, 0⟩,
   ⟨some 31, .call (.c (.fn (.func 52) [] [])) [.t 30, .c (.d (.v (.int .i64 0)))], none, 0⟩,
   ⟨some 32, .fa 9 (.t 5), none, 0⟩,
   ⟨none, .st 1 (.t 32) (.t 31), none, 0⟩])
 (.reg false [⟨some 33, .fa 0 (.t 5), none, 0⟩,
   ⟨none, .st 1 (.t 33) (.c (.d (.v (.int .i64 2)))), none, 0⟩])
def K54_3 : CC := .seq (.reg false [⟨some 36, .mv (.t 0), none, 0⟩,
   ⟨some 37, .mv (.t 1), none, 0⟩,
   ⟨some 38, .fa 9 (.t 5), none, 0⟩,
   ⟨some 39, .ld 1 false (.t 38), none, 0⟩,
   ⟨some 40, .call (.c (.fn (.func 91) [] [])) [.t 36, .t 37, .t 39, .c (.d (.v (.bool true)))], none, 0⟩])
 (.reg false [⟨some 41, .fa 0 (.t 5), none, 0⟩,
   ⟨none, .st 1 (.t 41) (.c (.d (.v (.int .i64 3)))), none, 0⟩])
def K54_4 : CC := .seq (.reg false [⟨some 44, .mv (.t 0), none, 0⟩,
   ⟨some 45, .call (.c (.fn (.func 52) [] [])) [.t 44, .c (.d (.v (.int .i64 0)))], none, 0⟩,
   ⟨some 11, .mv (.t 45), none, 0⟩])
 (.seq (.reg false [⟨some 46, .mv (.t 11), none, 0⟩,
   ⟨some 47, .fa 9 (.t 5), none, 0⟩,
   ⟨some 48, .ld 1 false (.t 47), none, 0⟩,
   ⟨some 49, .eq .int false (.t 46) (.t 48), none, 0⟩])
 (.cond 49 (.reg false [⟨some 50, .mv (.t 10), none, 0⟩,
     ⟨some 51, .call (.t 50) [.c (.d (.v (.int .i64 1)))], none, 0⟩])
   (.reg false [⟨some 52, .mv (.t 11), none, 0⟩,
     ⟨some 53, .fa 9 (.t 5), none, 0⟩,
     ⟨none, .st 1 (.t 53) (.t 52), none, 0⟩,
     ⟨some 54, .fa 0 (.t 5), none, 0⟩,
     ⟨none, .st 1 (.t 54) (.c (.d (.v (.int .i64 2)))), none, 0⟩])))
def K54_5 : CC := .seq (.reg false [⟨some 57, .mv (.t 0), none, 0⟩,
   ⟨some 58, .mv (.t 1), none, 0⟩,
   ⟨some 59, .fa 9 (.t 5), none, 0⟩,
   ⟨some 60, .ld 1 false (.t 59), none, 0⟩,
   ⟨some 61, .call (.c (.fn (.func 91) [] [])) [.t 57, .t 58, .t 60, .c (.d (.v (.bool false)))], none, 0⟩])
 (.reg false [⟨some 62, .mv (.t 10), none, 0⟩,
   ⟨some 63, .call (.t 62) [.c (.d (.v (.int .i64 1)))], none, 0⟩])
def K54_6 : CC := .seq (.reg false [⟨some 66, .mv (.t 0), none, 0⟩,
   ⟨some 67, .call (.c (.fn (.func 52) [] [])) [.t 66, .c (.d (.v (.int .i64 0)))], none, 0⟩,
   ⟨some 68, .fa 25 (.t 5), none, 0⟩,
   ⟨none, .st 1 (.t 68) (.t 67), none, 0⟩,
   ⟨some 69, .fa 28 (.t 5), none, 0⟩,
   ⟨none, .st 1 (.t 69) (.c (.d (.v (.int .i64 0)))), none, 0⟩])
 (.reg false [⟨some 70, .fa 0 (.t 5), none, 0⟩,
   ⟨none, .st 1 (.t 70) (.c (.d (.v (.int .i64 71)))), none, 0⟩])
def K54_7 : CC := .cond 90 (.reg false [⟨some 98, .mv (.t 10), none, 0⟩,
     ⟨some 99, .call (.t 98) [.c (.d (.v (.int .i64 2)))], none, 0⟩])
   (.seq (.reg true [⟨some 101, .fa 28 (.t 5), none, 0⟩,
     ⟨some 102, .ld 1 false (.t 101), none, 1⟩,
     ⟨some 103, .mv (.t 0), none, 0⟩,
     ⟨some 104, .nilc (.t 103), none, 4⟩,
     ⟨some 105, .fa 0 (.t 104), none, 12⟩,
     ⟨some 106, .fa 0 (.t 105), none, 28⟩,
     ⟨some 107, .fa 0 (.t 106), none, 60⟩,
     ⟨some 108, .ld 1 false (.t 107), none, 124⟩,
     ⟨some 109, .bin .sub (.t 108) (.c (.d (.v (.int .i64 1)))), none, 252⟩,
     ⟨some 110, .bin .geq (.t 102) (.t 109), none, 511⟩,
     ⟨some 100, .mv (.t 110), none, 1023⟩])
   (.cond 100 (.seq (.reg false [⟨some 111, .fa 28 (.t 5), none, 0⟩,
       ⟨some 112, .ld 1 false (.t 111), none, 0⟩,
       ⟨some 113, .bin .add (.t 112) (.c (.d (.v (.int .i64 1)))), none, 0⟩,
       ⟨some 114, .fa 28 (.t 5), none, 0⟩,
       ⟨none, .st 1 (.t 114) (.t 113), none, 0⟩])
     (.reg false [⟨some 115, .fa 0 (.t 5), none, 0⟩,
       ⟨none, .st 1 (.t 115) (.c (.d (.v (.int .i64 72)))), none, 0⟩]))
     (.reg false [⟨some 86, .fa 28 (.t 5), none, 0⟩,
       ⟨some 87, .ld 1 false (.t 86), none, 0⟩,
       ⟨some 88, .bin .add (.t 87) (.c (.d (.v (.int .i64 1)))), none, 0⟩,
       ⟨some 89, .fa 28 (.t 5), none, 0⟩,
       ⟨none, .st 1 (.t 89) (.t 88), none, 0⟩])))
def K54_8 : CC := .reg false [⟨some 91, .mv (.t 13), none, 0⟩,
   ⟨some 92, .mv (.t 91), none, 0⟩,
   ⟨some 93, .mv (.t 12), some (92, true), 0⟩,
   ⟨some 94, .fa 25 (.t 5), some (92, true), 0⟩,
   ⟨some 95, .ld 1 false (.t 94), some (92, true), 0⟩,
   ⟨some 96, .eq .int true (.t 93) (.t 95), some (92, true), 0⟩,
   ⟨some 97, .pick (.t 92) (.t 96) (.c (.d (.v (.bool false)))), none, 0⟩,
   ⟨some 90, .mv (.t 97), none, 0⟩]
def K54_9 : CC := .reg true [⟨some 74, .mv (.t 0), none, 0⟩,
   ⟨some 75, .mv (.t 0), none, 0⟩,
   ⟨some 76, .nilc (.t 75), none, 2⟩,
   ⟨some 77, .fa 0 (.t 76), none, 6⟩,
   ⟨some 78, .ld 8 true (.t 77), none, 14⟩,
   ⟨some 79, .fa 28 (.t 5), none, 0⟩,
   ⟨some 80, .ld 1 false (.t 79), none, 32⟩,
   ⟨some 81, .call (.c (.fn (.func 93) [] [])) [.t 78, .t 80], none, 126⟩,
   ⟨some 82, .call (.c (.fn (.func 52) [] [])) [.t 74, .t 81], none, 255⟩,
   ⟨some 83, .call (.c (.fn (.func 92) [] [])) [.t 82], none, 511⟩,
   ⟨some 73, .mv (.t 83), none, 1023⟩,
   ⟨some 84, .ext 0 (.t 73), none, 2047⟩,
   ⟨some 85, .ext 1 (.t 73), none, 2047⟩,
   ⟨some 12, .mv (.t 84), none, 4095⟩,
   ⟨some 13, .mv (.t 85), none, 16383⟩]
def K54_10 : CC := .seq (.reg false [⟨some 117, .eq .int false (.t 27) (.c (.d (.v (.int .i64 72)))), none, 0⟩,
   ⟨some 116, .mv (.t 117), none, 0⟩])
 (.cond 116 (.seq (.reg false [⟨some 118, .mv (.t 10), none, 0⟩,
     ⟨some 119, .call (.t 118) [.c (.d (.v (.int .i64 2)))], none, 0⟩])
   (.seq (.reg false [⟨some 120, .mv (.t 0), none, 0⟩,
     ⟨some 121, .fa 25 (.t 5), none, 0⟩,
     ⟨some 122, .ld 1 false (.t 121), none, 0⟩,
     ⟨some 123, .fa 25 (.t 5), none, 0⟩,
     ⟨some 124, .ld 1 false (.t 123), none, 0⟩,
     ⟨some 125, .bin .add (.t 124) (.c (.d (.v (.int .u64 1)))), none, 0⟩,
     ⟨some 126, .call (.c (.fn (.func 94) [] [])) [.t 120, .c (.d (.v (.int .i64 0))), .t 122, .t 125], none, 0⟩])
   (.cond 126 (.reg false [⟨none, .st 1 (.t 9) (.c (.d (.v (.int .i64 1)))), none, 0⟩])
     (.skip))))
   (.skip))
def K54_11 : CC := .reg false [⟨some 72, .eq .int false (.t 27) (.c (.d (.v (.int .i64 71)))), none, 0⟩,
   ⟨some 71, .mv (.t 72), none, 0⟩]
def K54_12 : CC := .reg false [⟨some 65, .eq .int false (.t 27) (.c (.d (.v (.int .i64 70)))), none, 0⟩,
   ⟨some 64, .mv (.t 65), none, 0⟩]
def K54_13 : CC := .reg false [⟨some 56, .eq .int false (.t 27) (.c (.d (.v (.int .i64 90)))), none, 0⟩,
   ⟨some 55, .mv (.t 56), none, 0⟩]
def K54_14 : CC := .reg false [⟨some 43, .eq .int false (.t 27) (.c (.d (.v (.int .i64 3)))), none, 0⟩,
   ⟨some 42, .mv (.t 43), none, 0⟩]
def K54_15 : CC := .reg false [⟨some 35, .eq .int false (.t 27) (.c (.d (.v (.int .i64 2)))), none, 0⟩,
   ⟨some 34, .mv (.t 35), none, 0⟩]
def K54_16 : CC := .reg false [⟨some 29, .eq .int false (.t 27) (.c (.d (.v (.int .i64 1)))), none, 0⟩,
   ⟨some 28, .mv (.t 29), none, 0⟩]
def K54_17 : CC := .reg false [⟨some 26, .fa 0 (.t 5), none, 0⟩,
   ⟨some 27, .ld 1 false (.t 26), none, 0⟩]
def K54_18 : CC := .reg false [⟨some 25, .mkf (.func 90) [] [.t 5, .t 9], none, 0⟩,
   ⟨some 10, .mv (.t 25), none, 0⟩]
def K54_19 : CC := .reg false [⟨some 9, .newc 3 [.d (.v (.int .i64 0))], none, 0⟩,
   ⟨none, .st 1 (.t 9) (.c (.d (.v (.int .i64 0)))), none, 0⟩]
def K54_20 : CC := .reg false [⟨some 23, .mv (.t 0), none, 0⟩,
   ⟨some 24, .call (.c (.fn (.func 49) [] [])) [.t 23], none, 0⟩]
def K54_21 : CC := .seq (.reg false [⟨some 14, .mv (.t 0), none, 0⟩,
   ⟨some 15, .eq .ptr false (.t 14) (.c (.d (.v (.pointer none)))), none, 0⟩,
   ⟨some 16, .mv (.t 15), none, 0⟩,
   ⟨some 17, .fa 0 (.t 5), some (16, false), 0⟩,
   ⟨some 18, .ld 1 false (.t 17), some (16, false), 0⟩,
   ⟨some 19, .call (.c (.fn (.func 89) [] [])) [.t 18], some (16, false), 0⟩,
   ⟨some 20, .un .not (.t 19), some (16, false), 0⟩,
   ⟨some 21, .pick (.t 16) (.c (.d (.v (.bool true)))) (.t 20), none, 0⟩])
 (.cond 21 (.seq (.reg false [⟨some 22, .ld 33 true (.t 5), none, 0⟩,
     ⟨none, .st 33 (.t 6) (.t 22), none, 0⟩,
     ⟨some 7, .mv (.c (.d (.v (.int .i64 0)))), none, 0⟩,
     ⟨some 8, .mv (.c (.d (.v (.bool false)))), none, 0⟩])
   (.ret))
   (.skip))
def K54_22 : CC := .reg false [⟨some 5, .box 34 33 (.t 2), none, 0⟩,
   ⟨some 6, .newc 34 [.d (.v (.int .i64 0)), .d (.v (.int .i64 0)), .d (.v (.int .u64 0)), .d (.v (.int .u64 0)), .d (.v (.int .i64 0)), .d (.v (.bool false)), .d (.v (.int .i64 0)), .d (.v (.int .i64 0)), .d (.v (.bool false)), .d (.v (.int .u64 0)), .d (.v (.slice none 0 0)), .d (.v (.int .u64 0)), .d (.v (.slice none 0 0)), .d (.v (.int .u64 0)), .d (.v (.slice none 0 0)), .d (.v (.int .u64 0)), .d (.v (.slice none 0 0)), .d (.v (.slice none 0 0)), .d (.v (.int .i64 0)), .d (.v (.int .i64 0)), .d (.v (.int .i64 0)), .d (.v (.int .i64 0)), .d (.v (.int .i64 0)), .d (.v (.int .u64 0)), .d (.v (.int .u64 0)), .d (.v (.int .u64 0)), .d (.v (.int .u64 0)), .d (.v (.int .u64 0)), .d (.v (.int .i64 0)), .d (.v (.slice none 0 0)), .d (.v (.int .u64 0)), .d (.v (.int .i64 0)), .d (.v (.bool false))], none, 0⟩,
   ⟨some 7, .mv (.c (.d (.v (.int .i64 0)))), none, 0⟩,
   ⟨some 8, .mv (.c (.d (.v (.bool false)))), none, 0⟩]
/-- coatcheck/epoch.Step -/
def C54 : CF := ⟨3, [(6, some (33, true)), (7, none), (8, none)],
 .seq K54_22 (.seq K54_21 (.seq K54_20 (.seq K54_19 (.seq K54_18 (.seq (.seq K54_17 (.block 0 (.seq K54_16 (.cond 28 K54_2 (.seq K54_15 (.cond 34 K54_3 (.seq K54_14 (.cond 42 K54_4 (.seq K54_13 (.cond 55 K54_5 (.seq K54_12 (.cond 64 K54_6 (.seq K54_11 (.cond 71 (.seq K54_9 (.block 1 (.seq K54_8 K54_7))) K54_10)))))))))))))) K54_1)))))⟩
theorem c54 : coF Tryz.prog Tryz.f57 = some C54 := by kernel_rfl
def A54 : Ann := { keep := [0, 1, 2, 5, 6, 7, 8, 9, 10, 11, 12, 13, 21, 27, 28, 34, 42, 49, 55, 64, 71, 90, 100, 116, 126], live := [] }
def E54 {Ω : Type} : Env Ω := econs 49 S29m (econs 52 S21m (econs 94 S25m (econs 89 S84 (econs 90 S85 (econs 91 S86 (econs 92 S87c (econs 93 S88 (enil))))))))
theorem e54 : GoodE Tryz.prog E54 := GoodE.cons g29m (GoodE.cons g21m (GoodE.cons g25m (GoodE.cons g84 (GoodE.cons g85 (GoodE.cons g86 (GoodE.cons g87c (GoodE.cons g88 (GoodE.nil))))))))
end Go.Sx.Pr

/- The steps of one layer, program and document, against the pure model. -/
namespace Go.Sx.Pr
open Go Go.Sx Go.Sx.Md Go.Proofs
set_option maxRecDepth 100000
theorem nEP_1 (m : Mm) (x : Wk) (t tw : Nat) (w : Int) :
    sxFn (E54 (Ω := SV × SH)) (An A54 2) C54 [.ptr 0 0, I w, .agg (I 1 :: encT x)] (objs LM t tw m) (KT 2) =
    some (.tup [.agg (encW { x with line := 2, E := mLoadV (mClear (m)) 0 }), I 0, B true], (objs LM t tw (mLoad (mClear (m)) 0))) := by kernel_rfl
theorem nEP_71 (m : Mm) (x : Wk) (t tw : Nat) (w : Int) :
    sxFn (E54 (Ω := SV × SH)) (An A54 2) C54 [.ptr 0 0, I w, .agg (I 71 :: encT x)] (objs LM t tw m) (KT 2) =
    br (uB (mLoadV (mClear (m)) (adr (Mm.c m) 1 (Wk.J x)))) (br (mLoadV (mClear (m)) (adr (Mm.c m) 1 (Wk.J x)) % 2 == 1) (br (!mLoadV (mClear (m)) (adr (Mm.c m) 1 (Wk.J x)) / 2 == Wk.V x) (some (.tup [.agg (encW { x with line := 0 }), I 2, B true], (objs LM t tw (mLoad (mClear (m)) (adr (Mm.c m) 1 (Wk.J x)))))) (br (decide (Wk.J x ≥ IntKind.wrap .i64 (Cf.a (Mm.c m) - 1))) (some (.tup [.agg (encW { x with line := 72, J := IntKind.wrap .i64 (Wk.J x + 1) }), I 0, B true], (objs LM t tw (mLoad (mClear (m)) (adr (Mm.c m) 1 (Wk.J x)))))) (some (.tup [.agg (encW { x with line := 71, J := IntKind.wrap .i64 (Wk.J x + 1) }), I 0, B true], (objs LM t tw (mLoad (mClear (m)) (adr (Mm.c m) 1 (Wk.J x)))))))) (br (decide (Wk.J x ≥ IntKind.wrap .i64 (Cf.a (Mm.c m) - 1))) (some (.tup [.agg (encW { x with line := 72, J := IntKind.wrap .i64 (Wk.J x + 1) }), I 0, B true], (objs LM t tw (mLoad (mClear (m)) (adr (Mm.c m) 1 (Wk.J x)))))) (some (.tup [.agg (encW { x with line := 71, J := IntKind.wrap .i64 (Wk.J x + 1) }), I 0, B true], (objs LM t tw (mLoad (mClear (m)) (adr (Mm.c m) 1 (Wk.J x)))))))) none := by kernel_rfl
theorem nEP_2 (m : Mm) (x : Wk) (t tw : Nat) (w : Int) :
    sxFn (E54 (Ω := SV × SH)) (An A54 2) C54 [.ptr 0 0, I w, .agg (I 2 :: encT x)] (objs LM t tw m) (KT 2) =
    br (uB (Wk.E x)) (some (.tup [.agg (encW { x with line := 3 }), I 0, B true], (objs LM t tw (mStore (mClear (m)) (adr (Mm.c m) 1 w) (pAnn (Wk.E x) true))))) none := by kernel_rfl
theorem nEP_72 (m : Mm) (x : Wk) (t tw : Nat) (w : Int) :
    sxFn (E54 (Ω := SV × SH)) (An A54 2) C54 [.ptr 0 0, I w, .agg (I 72 :: encT x)] (objs LM t tw m) (KT 2) =
    br (mCasB (mClear (m)) 0 (Wk.V x)) (some (.tup [.agg (encW { x with line := 0 }), I 1, B true], (objs LM t tw (mCas (mClear (m)) 0 (Wk.V x) (wU (Wk.V x + 1)))))) (some (.tup [.agg (encW { x with line := 0 }), I 2, B true], (objs LM t tw (mCas (mClear (m)) 0 (Wk.V x) (wU (Wk.V x + 1)))))) := by kernel_rfl
theorem nEP_3 (m : Mm) (x : Wk) (t tw : Nat) (w : Int) :
    sxFn (E54 (Ω := SV × SH)) (An A54 2) C54 [.ptr 0 0, I w, .agg (I 3 :: encT x)] (objs LM t tw m) (KT 2) =
    br (mLoadV (mClear (m)) 0 == Wk.E x) (some (.tup [.agg (encW { x with line := 0 }), I 1, B true], (objs LM t tw (mLoad (mClear (m)) 0)))) (some (.tup [.agg (encW { x with line := 2, E := mLoadV (mClear (m)) 0 }), I 0, B true], (objs LM t tw (mLoad (mClear (m)) 0)))) := by kernel_rfl
theorem nEP_90 (m : Mm) (x : Wk) (t tw : Nat) (w : Int) :
    sxFn (E54 (Ω := SV × SH)) (An A54 2) C54 [.ptr 0 0, I w, .agg (I 90 :: encT x)] (objs LM t tw m) (KT 2) =
    br (uB (Wk.E x)) (some (.tup [.agg (encW { x with line := 0 }), I 1, B true], (objs LM t tw (mStore (mClear (m)) (adr (Mm.c m) 1 w) (pAnn (Wk.E x) false))))) none := by kernel_rfl
theorem nEP_70 (m : Mm) (x : Wk) (t tw : Nat) (w : Int) :
    sxFn (E54 (Ω := SV × SH)) (An A54 2) C54 [.ptr 0 0, I w, .agg (I 70 :: encT x)] (objs LM t tw m) (KT 2) =
    some (.tup [.agg (encW { x with line := 71, V := mLoadV (mClear (m)) 0, J := 0 }), I 0, B true], (objs LM t tw (mLoad (mClear (m)) 0))) := by kernel_rfl
abbrev OEP (q : Int) : Prop := ∀ (m : Mm) (x : Wk) (t tw : TypeId) (w : Int), sxFn (E54 (Ω := SV × SH)) (An A54 2) C54 [.ptr 0 0, I w, .agg (I q :: encT x)] (objs LM t tw m) (KT 2) = some (.tup [.agg (I q :: encT x), I 0, B false], objs LM t tw m)
theorem oEP_neg (n : Nat) : OEP (Int.negSucc n) := fun m x t tw w => by kernel_rfl
theorem oEP_top (n : Nat) : OEP (Int.ofNat (n + 91)) := fun m x t tw w => by kernel_rfl
theorem oEP_0 : OEP (Int.ofNat 0) := fun m x t tw w => by kernel_rfl
theorem oEP_4 : OEP (Int.ofNat 4) := fun m x t tw w => by kernel_rfl
theorem oEP_5 : OEP (Int.ofNat 5) := fun m x t tw w => by kernel_rfl
theorem oEP_6 : OEP (Int.ofNat 6) := fun m x t tw w => by kernel_rfl
theorem oEP_7 : OEP (Int.ofNat 7) := fun m x t tw w => by kernel_rfl
theorem oEP_8 : OEP (Int.ofNat 8) := fun m x t tw w => by kernel_rfl
theorem oEP_9 : OEP (Int.ofNat 9) := fun m x t tw w => by kernel_rfl
theorem oEP_10 : OEP (Int.ofNat 10) := fun m x t tw w => by kernel_rfl
theorem oEP_11 : OEP (Int.ofNat 11) := fun m x t tw w => by kernel_rfl
theorem oEP_12 : OEP (Int.ofNat 12) := fun m x t tw w => by kernel_rfl
theorem oEP_13 : OEP (Int.ofNat 13) := fun m x t tw w => by kernel_rfl
theorem oEP_14 : OEP (Int.ofNat 14) := fun m x t tw w => by kernel_rfl
theorem oEP_15 : OEP (Int.ofNat 15) := fun m x t tw w => by kernel_rfl
theorem oEP_16 : OEP (Int.ofNat 16) := fun m x t tw w => by kernel_rfl
theorem oEP_17 : OEP (Int.ofNat 17) := fun m x t tw w => by kernel_rfl
theorem oEP_18 : OEP (Int.ofNat 18) := fun m x t tw w => by kernel_rfl
theorem oEP_19 : OEP (Int.ofNat 19) := fun m x t tw w => by kernel_rfl
theorem oEP_20 : OEP (Int.ofNat 20) := fun m x t tw w => by kernel_rfl
theorem oEP_21 : OEP (Int.ofNat 21) := fun m x t tw w => by kernel_rfl
theorem oEP_22 : OEP (Int.ofNat 22) := fun m x t tw w => by kernel_rfl
theorem oEP_23 : OEP (Int.ofNat 23) := fun m x t tw w => by kernel_rfl
theorem oEP_24 : OEP (Int.ofNat 24) := fun m x t tw w => by kernel_rfl
theorem oEP_25 : OEP (Int.ofNat 25) := fun m x t tw w => by kernel_rfl
theorem oEP_26 : OEP (Int.ofNat 26) := fun m x t tw w => by kernel_rfl
theorem oEP_27 : OEP (Int.ofNat 27) := fun m x t tw w => by kernel_rfl
theorem oEP_28 : OEP (Int.ofNat 28) := fun m x t tw w => by kernel_rfl
theorem oEP_29 : OEP (Int.ofNat 29) := fun m x t tw w => by kernel_rfl
theorem oEP_30 : OEP (Int.ofNat 30) := fun m x t tw w => by kernel_rfl
theorem oEP_31 : OEP (Int.ofNat 31) := fun m x t tw w => by kernel_rfl
theorem oEP_32 : OEP (Int.ofNat 32) := fun m x t tw w => by kernel_rfl
theorem oEP_33 : OEP (Int.ofNat 33) := fun m x t tw w => by kernel_rfl
theorem oEP_34 : OEP (Int.ofNat 34) := fun m x t tw w => by kernel_rfl
theorem oEP_35 : OEP (Int.ofNat 35) := fun m x t tw w => by kernel_rfl
theorem oEP_36 : OEP (Int.ofNat 36) := fun m x t tw w => by kernel_rfl
theorem oEP_37 : OEP (Int.ofNat 37) := fun m x t tw w => by kernel_rfl
theorem oEP_38 : OEP (Int.ofNat 38) := fun m x t tw w => by kernel_rfl
theorem oEP_39 : OEP (Int.ofNat 39) := fun m x t tw w => by kernel_rfl
theorem oEP_40 : OEP (Int.ofNat 40) := fun m x t tw w => by kernel_rfl
theorem oEP_41 : OEP (Int.ofNat 41) := fun m x t tw w => by kernel_rfl
theorem oEP_42 : OEP (Int.ofNat 42) := fun m x t tw w => by kernel_rfl
theorem oEP_43 : OEP (Int.ofNat 43) := fun m x t tw w => by kernel_rfl
theorem oEP_44 : OEP (Int.ofNat 44) := fun m x t tw w => by kernel_rfl
theorem oEP_45 : OEP (Int.ofNat 45) := fun m x t tw w => by kernel_rfl
theorem oEP_46 : OEP (Int.ofNat 46) := fun m x t tw w => by kernel_rfl
theorem oEP_47 : OEP (Int.ofNat 47) := fun m x t tw w => by kernel_rfl
theorem oEP_48 : OEP (Int.ofNat 48) := fun m x t tw w => by kernel_rfl
theorem oEP_49 : OEP (Int.ofNat 49) := fun m x t tw w => by kernel_rfl
theorem oEP_50 : OEP (Int.ofNat 50) := fun m x t tw w => by kernel_rfl
theorem oEP_51 : OEP (Int.ofNat 51) := fun m x t tw w => by kernel_rfl
theorem oEP_52 : OEP (Int.ofNat 52) := fun m x t tw w => by kernel_rfl
theorem oEP_53 : OEP (Int.ofNat 53) := fun m x t tw w => by kernel_rfl
theorem oEP_54 : OEP (Int.ofNat 54) := fun m x t tw w => by kernel_rfl
theorem oEP_55 : OEP (Int.ofNat 55) := fun m x t tw w => by kernel_rfl
theorem oEP_56 : OEP (Int.ofNat 56) := fun m x t tw w => by kernel_rfl
theorem oEP_57 : OEP (Int.ofNat 57) := fun m x t tw w => by kernel_rfl
theorem oEP_58 : OEP (Int.ofNat 58) := fun m x t tw w => by kernel_rfl
theorem oEP_59 : OEP (Int.ofNat 59) := fun m x t tw w => by kernel_rfl
theorem oEP_60 : OEP (Int.ofNat 60) := fun m x t tw w => by kernel_rfl
theorem oEP_61 : OEP (Int.ofNat 61) := fun m x t tw w => by kernel_rfl
theorem oEP_62 : OEP (Int.ofNat 62) := fun m x t tw w => by kernel_rfl
theorem oEP_63 : OEP (Int.ofNat 63) := fun m x t tw w => by kernel_rfl
theorem oEP_64 : OEP (Int.ofNat 64) := fun m x t tw w => by kernel_rfl
theorem oEP_65 : OEP (Int.ofNat 65) := fun m x t tw w => by kernel_rfl
theorem oEP_66 : OEP (Int.ofNat 66) := fun m x t tw w => by kernel_rfl
theorem oEP_67 : OEP (Int.ofNat 67) := fun m x t tw w => by kernel_rfl
theorem oEP_68 : OEP (Int.ofNat 68) := fun m x t tw w => by kernel_rfl
theorem oEP_69 : OEP (Int.ofNat 69) := fun m x t tw w => by kernel_rfl
theorem oEP_73 : OEP (Int.ofNat 73) := fun m x t tw w => by kernel_rfl
theorem oEP_74 : OEP (Int.ofNat 74) := fun m x t tw w => by kernel_rfl
theorem oEP_75 : OEP (Int.ofNat 75) := fun m x t tw w => by kernel_rfl
theorem oEP_76 : OEP (Int.ofNat 76) := fun m x t tw w => by kernel_rfl
theorem oEP_77 : OEP (Int.ofNat 77) := fun m x t tw w => by kernel_rfl
theorem oEP_78 : OEP (Int.ofNat 78) := fun m x t tw w => by kernel_rfl
theorem oEP_79 : OEP (Int.ofNat 79) := fun m x t tw w => by kernel_rfl
theorem oEP_80 : OEP (Int.ofNat 80) := fun m x t tw w => by kernel_rfl
theorem oEP_81 : OEP (Int.ofNat 81) := fun m x t tw w => by kernel_rfl
theorem oEP_82 : OEP (Int.ofNat 82) := fun m x t tw w => by kernel_rfl
theorem oEP_83 : OEP (Int.ofNat 83) := fun m x t tw w => by kernel_rfl
theorem oEP_84 : OEP (Int.ofNat 84) := fun m x t tw w => by kernel_rfl
theorem oEP_85 : OEP (Int.ofNat 85) := fun m x t tw w => by kernel_rfl
theorem oEP_86 : OEP (Int.ofNat 86) := fun m x t tw w => by kernel_rfl
theorem oEP_87 : OEP (Int.ofNat 87) := fun m x t tw w => by kernel_rfl
theorem oEP_88 : OEP (Int.ofNat 88) := fun m x t tw w => by kernel_rfl
theorem oEP_89 : OEP (Int.ofNat 89) := fun m x t tw w => by kernel_rfl
theorem mE_no {m : Mm} {x : Wk} {w : Int} (h : x.line ≠ 1 ∧ x.line ≠ 2 ∧ x.line ≠ 3 ∧ x.line ≠ 70 ∧ x.line ≠ 71 ∧ x.line ≠ 72 ∧ x.line ≠ 90) : stepE w m x = ⟨m, x, 0, false⟩ := by
  simp only [stepE, h, ↓reduceIte]
theorem vEP_1 {m : Mm} {x : Wk} {t tw : TypeId} {w : Int} (hm : okM m = true) (hx : okW x = true) : sxFn (E54 (Ω := SV × SH)) (An A54 2) C54 [.ptr 0 0, I w, .agg (I 1 :: encT x)] (objs LM t tw m) (KT 2) = some (.tup [.agg (encW (stepE w m { x with line := 1 }).x), I (stepE w m { x with line := 1 }).way, B (stepE w m { x with line := 1 }).ok], objs LM t tw (stepE w m { x with line := 1 }).m) := by
  obtain ⟨b1, b2, b3, b4, b5, b6, b7, b8, b9, b10, b11, b12⟩ := okW_all hx
  have hu := okM_u hm
  rw [nEP_1]
  try simp only [clrV, clrL, clrS, clrB, clrC, clrA, clrAV, b1, b2, b3, b4, b5, b6, b7, b8, b9, b10, b11, b12, uB_load hu, tmod_load hu, tdiv_load hu (show (0 : Int) < 2 by decide), cfg_a1 hm, ge_iff_le, Bool.true_and, br_t]
  simp only [stepE, Int.reduceEq, ↓reduceIte]
  all_goals rfl
theorem vEP_2 {m : Mm} {x : Wk} {t tw : TypeId} {w : Int} (hm : okM m = true) (hx : okW x = true) : sxFn (E54 (Ω := SV × SH)) (An A54 2) C54 [.ptr 0 0, I w, .agg (I 2 :: encT x)] (objs LM t tw m) (KT 2) = some (.tup [.agg (encW (stepE w m { x with line := 2 }).x), I (stepE w m { x with line := 2 }).way, B (stepE w m { x with line := 2 }).ok], objs LM t tw (stepE w m { x with line := 2 }).m) := by
  obtain ⟨b1, b2, b3, b4, b5, b6, b7, b8, b9, b10, b11, b12⟩ := okW_all hx
  have hu := okM_u hm
  rw [nEP_2]
  try simp only [clrV, clrL, clrS, clrB, clrC, clrA, clrAV, b1, b2, b3, b4, b5, b6, b7, b8, b9, b10, b11, b12, uB_load hu, tmod_load hu, tdiv_load hu (show (0 : Int) < 2 by decide), cfg_a1 hm, ge_iff_le, Bool.true_and, br_t]
  simp only [stepE, Int.reduceEq, ↓reduceIte]
  all_goals rfl
theorem vEP_3 {m : Mm} {x : Wk} {t tw : TypeId} {w : Int} (hm : okM m = true) (hx : okW x = true) : sxFn (E54 (Ω := SV × SH)) (An A54 2) C54 [.ptr 0 0, I w, .agg (I 3 :: encT x)] (objs LM t tw m) (KT 2) = some (.tup [.agg (encW (stepE w m { x with line := 3 }).x), I (stepE w m { x with line := 3 }).way, B (stepE w m { x with line := 3 }).ok], objs LM t tw (stepE w m { x with line := 3 }).m) := by
  obtain ⟨b1, b2, b3, b4, b5, b6, b7, b8, b9, b10, b11, b12⟩ := okW_all hx
  have hu := okM_u hm
  rw [nEP_3]
  try simp only [clrV, clrL, clrS, clrB, clrC, clrA, clrAV, b1, b2, b3, b4, b5, b6, b7, b8, b9, b10, b11, b12, uB_load hu, tmod_load hu, tdiv_load hu (show (0 : Int) < 2 by decide), cfg_a1 hm, ge_iff_le, Bool.true_and, br_t]
  simp only [stepE, Int.reduceEq, ↓reduceIte]
  cases h0 : (mLoadV m 0 == x.E) <;> simp only [h0, br_t, br_f, cond_true, cond_false, Bool.not_true, Bool.not_false, Bool.true_and, Bool.false_and, Bool.and_true, Bool.and_false] <;> first | rfl | (rw [eq_of_beq h0]; done) | (rw [eq_of_beq h0]; rfl)
theorem vEP_70 {m : Mm} {x : Wk} {t tw : TypeId} {w : Int} (hm : okM m = true) (hx : okW x = true) : sxFn (E54 (Ω := SV × SH)) (An A54 2) C54 [.ptr 0 0, I w, .agg (I 70 :: encT x)] (objs LM t tw m) (KT 2) = some (.tup [.agg (encW (stepE w m { x with line := 70 }).x), I (stepE w m { x with line := 70 }).way, B (stepE w m { x with line := 70 }).ok], objs LM t tw (stepE w m { x with line := 70 }).m) := by
  obtain ⟨b1, b2, b3, b4, b5, b6, b7, b8, b9, b10, b11, b12⟩ := okW_all hx
  have hu := okM_u hm
  rw [nEP_70]
  try simp only [clrV, clrL, clrS, clrB, clrC, clrA, clrAV, b1, b2, b3, b4, b5, b6, b7, b8, b9, b10, b11, b12, uB_load hu, tmod_load hu, tdiv_load hu (show (0 : Int) < 2 by decide), cfg_a1 hm, ge_iff_le, Bool.true_and, br_t]
  simp only [stepE, Int.reduceEq, ↓reduceIte]
  all_goals rfl
theorem vEP_71 {m : Mm} {x : Wk} {t tw : TypeId} {w : Int} (hm : okM m = true) (hx : okW x = true) : sxFn (E54 (Ω := SV × SH)) (An A54 2) C54 [.ptr 0 0, I w, .agg (I 71 :: encT x)] (objs LM t tw m) (KT 2) = some (.tup [.agg (encW (stepE w m { x with line := 71 }).x), I (stepE w m { x with line := 71 }).way, B (stepE w m { x with line := 71 }).ok], objs LM t tw (stepE w m { x with line := 71 }).m) := by
  obtain ⟨b1, b2, b3, b4, b5, b6, b7, b8, b9, b10, b11, b12⟩ := okW_all hx
  have hu := okM_u hm
  rw [nEP_71]
  try simp only [clrV, clrL, clrS, clrB, clrC, clrA, clrAV, b1, b2, b3, b4, b5, b6, b7, b8, b9, b10, b11, b12, uB_load hu, tmod_load hu, tdiv_load hu (show (0 : Int) < 2 by decide), cfg_a1 hm, ge_iff_le, Bool.true_and, br_t]
  simp only [stepE, Int.reduceEq, ↓reduceIte]
  cases h0 : (mLoadV m (adr m.c 1 x.J) % 2 == 1) <;> cases h1 : (mLoadV m (adr m.c 1 x.J) / 2 == x.V) <;> cases h2 : (decide (m.c.a - 1 ≤ x.J)) <;> simp only [h0, h1, h2, br_t, br_f, cond_true, cond_false, Bool.not_true, Bool.not_false, Bool.true_and, Bool.false_and, Bool.and_true, Bool.and_false] <;> first | rfl | (rw [eq_of_beq h0]; done) | (rw [eq_of_beq h0]; rfl)
theorem vEP_72 {m : Mm} {x : Wk} {t tw : TypeId} {w : Int} (hm : okM m = true) (hx : okW x = true) : sxFn (E54 (Ω := SV × SH)) (An A54 2) C54 [.ptr 0 0, I w, .agg (I 72 :: encT x)] (objs LM t tw m) (KT 2) = some (.tup [.agg (encW (stepE w m { x with line := 72 }).x), I (stepE w m { x with line := 72 }).way, B (stepE w m { x with line := 72 }).ok], objs LM t tw (stepE w m { x with line := 72 }).m) := by
  obtain ⟨b1, b2, b3, b4, b5, b6, b7, b8, b9, b10, b11, b12⟩ := okW_all hx
  have hu := okM_u hm
  rw [nEP_72]
  try simp only [clrV, clrL, clrS, clrB, clrC, clrA, clrAV, b1, b2, b3, b4, b5, b6, b7, b8, b9, b10, b11, b12, uB_load hu, tmod_load hu, tdiv_load hu (show (0 : Int) < 2 by decide), cfg_a1 hm, ge_iff_le, Bool.true_and, br_t]
  simp only [stepE, Int.reduceEq, ↓reduceIte]
  cases h0 : (mCasB m 0 x.V) <;> simp only [h0, br_t, br_f, cond_true, cond_false, Bool.not_true, Bool.not_false, Bool.true_and, Bool.false_and, Bool.and_true, Bool.and_false] <;> first | rfl | (rw [eq_of_beq h0]; done) | (rw [eq_of_beq h0]; rfl)
theorem vEP_90 {m : Mm} {x : Wk} {t tw : TypeId} {w : Int} (hm : okM m = true) (hx : okW x = true) : sxFn (E54 (Ω := SV × SH)) (An A54 2) C54 [.ptr 0 0, I w, .agg (I 90 :: encT x)] (objs LM t tw m) (KT 2) = some (.tup [.agg (encW (stepE w m { x with line := 90 }).x), I (stepE w m { x with line := 90 }).way, B (stepE w m { x with line := 90 }).ok], objs LM t tw (stepE w m { x with line := 90 }).m) := by
  obtain ⟨b1, b2, b3, b4, b5, b6, b7, b8, b9, b10, b11, b12⟩ := okW_all hx
  have hu := okM_u hm
  rw [nEP_90]
  try simp only [clrV, clrL, clrS, clrB, clrC, clrA, clrAV, b1, b2, b3, b4, b5, b6, b7, b8, b9, b10, b11, b12, uB_load hu, tmod_load hu, tdiv_load hu (show (0 : Int) < 2 by decide), cfg_a1 hm, ge_iff_le, Bool.true_and, br_t]
  simp only [stepE, Int.reduceEq, ↓reduceIte]
  all_goals rfl
theorem vEP {m : Mm} {x : Wk} {t tw : TypeId} {w : Int} (hm : okM m = true) (hx : okW x = true) : sxFn (E54 (Ω := SV × SH)) (An A54 2) C54 [.ptr 0 0, I w, .agg (encW x)] (objs LM t tw m) (KT 2) = some (.tup [.agg (encW (stepE w m x).x), I (stepE w m x).way, B (stepE w m x).ok], objs LM t tw (stepE w m x).m) := by
  have no : ∀ q : Int, x.line = q → OEP q → (x.line ≠ 1 ∧ x.line ≠ 2 ∧ x.line ≠ 3 ∧ x.line ≠ 70 ∧ x.line ≠ 71 ∧ x.line ≠ 72 ∧ x.line ≠ 90) → sxFn (E54 (Ω := SV × SH)) (An A54 2) C54 [.ptr 0 0, I w, .agg (encW x)] (objs LM t tw m) (KT 2) = some (.tup [.agg (encW (stepE w m x).x), I (stepE w m x).way, B (stepE w m x).ok], objs LM t tw (stepE w m x).m) := fun q hq ho hn => by
    rw [mE_no hn]
    have := ho m x t tw w
    rw [← hq] at this
    exact this
  have ye : ∀ q : Int, x.line = q → (sxFn (E54 (Ω := SV × SH)) (An A54 2) C54 [.ptr 0 0, I w, .agg (I q :: encT x)] (objs LM t tw m) (KT 2) = some (.tup [.agg (encW (stepE w m { x with line := q }).x), I (stepE w m { x with line := q }).way, B (stepE w m { x with line := q }).ok], objs LM t tw (stepE w m { x with line := q }).m)) → sxFn (E54 (Ω := SV × SH)) (An A54 2) C54 [.ptr 0 0, I w, .agg (encW x)] (objs LM t tw m) (KT 2) = some (.tup [.agg (encW (stepE w m x).x), I (stepE w m x).way, B (stepE w m x).ok], objs LM t tw (stepE w m x).m) := fun q hq h => by
    have e1 : { x with line := q } = x := by rw [← hq]
    have e : I q :: encT x = encW x := by simp only [encW]; rw [hq]
    rw [e1, e] at h
    exact h
  rcases hl : x.line with n | n
  · by_cases hn : 91 ≤ n
    · obtain ⟨k, rfl⟩ : ∃ k, n = k + 91 := ⟨n - 91, by omega⟩
      exact no _ hl (oEP_top k) (by rw [hl]; simp only [Int.ofNat_eq_natCast, ne_eq]; omega)
    · have : n < 91 := by omega
      match n, hl, this with
      | 0, hl, _ => exact no _ hl oEP_0 (by rw [hl]; simp only [Int.ofNat_eq_natCast, ne_eq]; omega)
      | 1, hl, _ => exact ye 1 hl (vEP_1 hm hx)
      | 2, hl, _ => exact ye 2 hl (vEP_2 hm hx)
      | 3, hl, _ => exact ye 3 hl (vEP_3 hm hx)
      | 4, hl, _ => exact no _ hl oEP_4 (by rw [hl]; simp only [Int.ofNat_eq_natCast, ne_eq]; omega)
      | 5, hl, _ => exact no _ hl oEP_5 (by rw [hl]; simp only [Int.ofNat_eq_natCast, ne_eq]; omega)
      | 6, hl, _ => exact no _ hl oEP_6 (by rw [hl]; simp only [Int.ofNat_eq_natCast, ne_eq]; omega)
      | 7, hl, _ => exact no _ hl oEP_7 (by rw [hl]; simp only [Int.ofNat_eq_natCast, ne_eq]; omega)
      | 8, hl, _ => exact no _ hl oEP_8 (by rw [hl]; simp only [Int.ofNat_eq_natCast, ne_eq]; omega)
      | 9, hl, _ => exact no _ hl oEP_9 (by rw [hl]; simp only [Int.ofNat_eq_natCast, ne_eq]; omega)
      | 10, hl, _ => exact no _ hl oEP_10 (by rw [hl]; simp only [Int.ofNat_eq_natCast, ne_eq]; omega)
      | 11, hl, _ => exact no _ hl oEP_11 (by rw [hl]; simp only [Int.ofNat_eq_natCast, ne_eq]; omega)
      | 12, hl, _ => exact no _ hl oEP_12 (by rw [hl]; simp only [Int.ofNat_eq_natCast, ne_eq]; omega)
      | 13, hl, _ => exact no _ hl oEP_13 (by rw [hl]; simp only [Int.ofNat_eq_natCast, ne_eq]; omega)
      | 14, hl, _ => exact no _ hl oEP_14 (by rw [hl]; simp only [Int.ofNat_eq_natCast, ne_eq]; omega)
      | 15, hl, _ => exact no _ hl oEP_15 (by rw [hl]; simp only [Int.ofNat_eq_natCast, ne_eq]; omega)
      | 16, hl, _ => exact no _ hl oEP_16 (by rw [hl]; simp only [Int.ofNat_eq_natCast, ne_eq]; omega)
      | 17, hl, _ => exact no _ hl oEP_17 (by rw [hl]; simp only [Int.ofNat_eq_natCast, ne_eq]; omega)
      | 18, hl, _ => exact no _ hl oEP_18 (by rw [hl]; simp only [Int.ofNat_eq_natCast, ne_eq]; omega)
      | 19, hl, _ => exact no _ hl oEP_19 (by rw [hl]; simp only [Int.ofNat_eq_natCast, ne_eq]; omega)
      | 20, hl, _ => exact no _ hl oEP_20 (by rw [hl]; simp only [Int.ofNat_eq_natCast, ne_eq]; omega)
      | 21, hl, _ => exact no _ hl oEP_21 (by rw [hl]; simp only [Int.ofNat_eq_natCast, ne_eq]; omega)
      | 22, hl, _ => exact no _ hl oEP_22 (by rw [hl]; simp only [Int.ofNat_eq_natCast, ne_eq]; omega)
      | 23, hl, _ => exact no _ hl oEP_23 (by rw [hl]; simp only [Int.ofNat_eq_natCast, ne_eq]; omega)
      | 24, hl, _ => exact no _ hl oEP_24 (by rw [hl]; simp only [Int.ofNat_eq_natCast, ne_eq]; omega)
      | 25, hl, _ => exact no _ hl oEP_25 (by rw [hl]; simp only [Int.ofNat_eq_natCast, ne_eq]; omega)
      | 26, hl, _ => exact no _ hl oEP_26 (by rw [hl]; simp only [Int.ofNat_eq_natCast, ne_eq]; omega)
      | 27, hl, _ => exact no _ hl oEP_27 (by rw [hl]; simp only [Int.ofNat_eq_natCast, ne_eq]; omega)
      | 28, hl, _ => exact no _ hl oEP_28 (by rw [hl]; simp only [Int.ofNat_eq_natCast, ne_eq]; omega)
      | 29, hl, _ => exact no _ hl oEP_29 (by rw [hl]; simp only [Int.ofNat_eq_natCast, ne_eq]; omega)
      | 30, hl, _ => exact no _ hl oEP_30 (by rw [hl]; simp only [Int.ofNat_eq_natCast, ne_eq]; omega)
      | 31, hl, _ => exact no _ hl oEP_31 (by rw [hl]; simp only [Int.ofNat_eq_natCast, ne_eq]; omega)
      | 32, hl, _ => exact no _ hl oEP_32 (by rw [hl]; simp only [Int.ofNat_eq_natCast, ne_eq]; omega)
      | 33, hl, _ => exact no _ hl oEP_33 (by rw [hl]; simp only [Int.ofNat_eq_natCast, ne_eq]; omega)
      | 34, hl, _ => exact no _ hl oEP_34 (by rw [hl]; simp only [Int.ofNat_eq_natCast, ne_eq]; omega)
      | 35, hl, _ => exact no _ hl oEP_35 (by rw [hl]; simp only [Int.ofNat_eq_natCast, ne_eq]; omega)
      | 36, hl, _ => exact no _ hl oEP_36 (by rw [hl]; simp only [Int.ofNat_eq_natCast, ne_eq]; omega)
      | 37, hl, _ => exact no _ hl oEP_37 (by rw [hl]; simp only [Int.ofNat_eq_natCast, ne_eq]; omega)
      | 38, hl, _ => exact no _ hl oEP_38 (by rw [hl]; simp only [Int.ofNat_eq_natCast, ne_eq]; omega)
      | 39, hl, _ => exact no _ hl oEP_39 (by rw [hl]; simp only [Int.ofNat_eq_natCast, ne_eq]; omega)
      | 40, hl, _ => exact no _ hl oEP_40 (by rw [hl]; simp only [Int.ofNat_eq_natCast, ne_eq]; omega)
      | 41, hl, _ => exact no _ hl oEP_41 (by rw [hl]; simp only [Int.ofNat_eq_natCast, ne_eq]; omega)
      | 42, hl, _ => exact no _ hl oEP_42 (by rw [hl]; simp only [Int.ofNat_eq_natCast, ne_eq]; omega)
      | 43, hl, _ => exact no _ hl oEP_43 (by rw [hl]; simp only [Int.ofNat_eq_natCast, ne_eq]; omega)
      | 44, hl, _ => exact no _ hl oEP_44 (by rw [hl]; simp only [Int.ofNat_eq_natCast, ne_eq]; omega)
      | 45, hl, _ => exact no _ hl oEP_45 (by rw [hl]; simp only [Int.ofNat_eq_natCast, ne_eq]; omega)
      | 46, hl, _ => exact no _ hl oEP_46 (by rw [hl]; simp only [Int.ofNat_eq_natCast, ne_eq]; omega)
      | 47, hl, _ => exact no _ hl oEP_47 (by rw [hl]; simp only [Int.ofNat_eq_natCast, ne_eq]; omega)
      | 48, hl, _ => exact no _ hl oEP_48 (by rw [hl]; simp only [Int.ofNat_eq_natCast, ne_eq]; omega)
      | 49, hl, _ => exact no _ hl oEP_49 (by rw [hl]; simp only [Int.ofNat_eq_natCast, ne_eq]; omega)
      | 50, hl, _ => exact no _ hl oEP_50 (by rw [hl]; simp only [Int.ofNat_eq_natCast, ne_eq]; omega)
      | 51, hl, _ => exact no _ hl oEP_51 (by rw [hl]; simp only [Int.ofNat_eq_natCast, ne_eq]; omega)
      | 52, hl, _ => exact no _ hl oEP_52 (by rw [hl]; simp only [Int.ofNat_eq_natCast, ne_eq]; omega)
      | 53, hl, _ => exact no _ hl oEP_53 (by rw [hl]; simp only [Int.ofNat_eq_natCast, ne_eq]; omega)
      | 54, hl, _ => exact no _ hl oEP_54 (by rw [hl]; simp only [Int.ofNat_eq_natCast, ne_eq]; omega)
      | 55, hl, _ => exact no _ hl oEP_55 (by rw [hl]; simp only [Int.ofNat_eq_natCast, ne_eq]; omega)
      | 56, hl, _ => exact no _ hl oEP_56 (by rw [hl]; simp only [Int.ofNat_eq_natCast, ne_eq]; omega)
      | 57, hl, _ => exact no _ hl oEP_57 (by rw [hl]; simp only [Int.ofNat_eq_natCast, ne_eq]; omega)
      | 58, hl, _ => exact no _ hl oEP_58 (by rw [hl]; simp only [Int.ofNat_eq_natCast, ne_eq]; omega)
      | 59, hl, _ => exact no _ hl oEP_59 (by rw [hl]; simp only [Int.ofNat_eq_natCast, ne_eq]; omega)
      | 60, hl, _ => exact no _ hl oEP_60 (by rw [hl]; simp only [Int.ofNat_eq_natCast, ne_eq]; omega)
      | 61, hl, _ => exact no _ hl oEP_61 (by rw [hl]; simp only [Int.ofNat_eq_natCast, ne_eq]; omega)
      | 62, hl, _ => exact no _ hl oEP_62 (by rw [hl]; simp only [Int.ofNat_eq_natCast, ne_eq]; omega)
      | 63, hl, _ => exact no _ hl oEP_63 (by rw [hl]; simp only [Int.ofNat_eq_natCast, ne_eq]; omega)
      | 64, hl, _ => exact no _ hl oEP_64 (by rw [hl]; simp only [Int.ofNat_eq_natCast, ne_eq]; omega)
      | 65, hl, _ => exact no _ hl oEP_65 (by rw [hl]; simp only [Int.ofNat_eq_natCast, ne_eq]; omega)
      | 66, hl, _ => exact no _ hl oEP_66 (by rw [hl]; simp only [Int.ofNat_eq_natCast, ne_eq]; omega)
      | 67, hl, _ => exact no _ hl oEP_67 (by rw [hl]; simp only [Int.ofNat_eq_natCast, ne_eq]; omega)
      | 68, hl, _ => exact no _ hl oEP_68 (by rw [hl]; simp only [Int.ofNat_eq_natCast, ne_eq]; omega)
      | 69, hl, _ => exact no _ hl oEP_69 (by rw [hl]; simp only [Int.ofNat_eq_natCast, ne_eq]; omega)
      | 70, hl, _ => exact ye 70 hl (vEP_70 hm hx)
      | 71, hl, _ => exact ye 71 hl (vEP_71 hm hx)
      | 72, hl, _ => exact ye 72 hl (vEP_72 hm hx)
      | 73, hl, _ => exact no _ hl oEP_73 (by rw [hl]; simp only [Int.ofNat_eq_natCast, ne_eq]; omega)
      | 74, hl, _ => exact no _ hl oEP_74 (by rw [hl]; simp only [Int.ofNat_eq_natCast, ne_eq]; omega)
      | 75, hl, _ => exact no _ hl oEP_75 (by rw [hl]; simp only [Int.ofNat_eq_natCast, ne_eq]; omega)
      | 76, hl, _ => exact no _ hl oEP_76 (by rw [hl]; simp only [Int.ofNat_eq_natCast, ne_eq]; omega)
      | 77, hl, _ => exact no _ hl oEP_77 (by rw [hl]; simp only [Int.ofNat_eq_natCast, ne_eq]; omega)
      | 78, hl, _ => exact no _ hl oEP_78 (by rw [hl]; simp only [Int.ofNat_eq_natCast, ne_eq]; omega)
      | 79, hl, _ => exact no _ hl oEP_79 (by rw [hl]; simp only [Int.ofNat_eq_natCast, ne_eq]; omega)
      | 80, hl, _ => exact no _ hl oEP_80 (by rw [hl]; simp only [Int.ofNat_eq_natCast, ne_eq]; omega)
      | 81, hl, _ => exact no _ hl oEP_81 (by rw [hl]; simp only [Int.ofNat_eq_natCast, ne_eq]; omega)
      | 82, hl, _ => exact no _ hl oEP_82 (by rw [hl]; simp only [Int.ofNat_eq_natCast, ne_eq]; omega)
      | 83, hl, _ => exact no _ hl oEP_83 (by rw [hl]; simp only [Int.ofNat_eq_natCast, ne_eq]; omega)
      | 84, hl, _ => exact no _ hl oEP_84 (by rw [hl]; simp only [Int.ofNat_eq_natCast, ne_eq]; omega)
      | 85, hl, _ => exact no _ hl oEP_85 (by rw [hl]; simp only [Int.ofNat_eq_natCast, ne_eq]; omega)
      | 86, hl, _ => exact no _ hl oEP_86 (by rw [hl]; simp only [Int.ofNat_eq_natCast, ne_eq]; omega)
      | 87, hl, _ => exact no _ hl oEP_87 (by rw [hl]; simp only [Int.ofNat_eq_natCast, ne_eq]; omega)
      | 88, hl, _ => exact no _ hl oEP_88 (by rw [hl]; simp only [Int.ofNat_eq_natCast, ne_eq]; omega)
      | 89, hl, _ => exact no _ hl oEP_89 (by rw [hl]; simp only [Int.ofNat_eq_natCast, ne_eq]; omega)
      | 90, hl, _ => exact ye 90 hl (vEP_90 hm hx)
      | n + 91, _, h => exact absurd h (by omega)
  · exact no _ hl (oEP_neg n) (by rw [hl]; simp only [ne_eq]; omega)
def GE (m : Mm) (l : List SV) : Option (Bool × SV × Mm) := match l with
  | [p, .agg c] => match sI p with
    | some w => bif isC ctsW c then some (okM m && okW (decW c), .tup [.agg (encW (stepE w m (decW c)).x), I (stepE w m (decW c)).way, B (stepE w m (decW c)).ok], (stepE w m (decW c)).m) else none
    | none => none
  | _ => none
def GEn (l : List SV) : Option SV := match l with
  | [p, .agg c] => match sI p with
    | some _ => bif isC ctsW c then some (.tup [.agg (encW (decW c)), I 0, B false]) else none
    | none => none
  | _ => none
theorem nE_nil (x : Wk) (w : Int) : sxFn (E54 (Ω := SV × SH)) (An A54 0) C54 [.d (.v (.pointer none)), I w, .agg (encW x)] [] (KT 0) = some (.tup [.agg (encW x), I 0, B false], []) := by kernel_rfl
def S54m {Ω : Type} : Spec Ω := memSpec [none, none, some ctsW] (findM LM.own) [] (memF LM GE GEn)
theorem g54m : Good1 Tryz.prog 57 S54m := memFGood (A := A54) Tryz.func57 (by kernel_rfl) c54 e54 mix (L := LM) lay_M (fun m xs r m' t tw h => by
  unfold GE at h
  split at h
  · split at h
    · rename_i hw
      obtain ⟨hc, h⟩ := cond_some h
      simp only [Option.some.injEq, Prod.mk.injEq, Bool.and_eq_true] at h
      obtain ⟨⟨hm, hx⟩, rfl, rfl⟩ := h
      rw [sI_eq hw]
      rw [← enc_decW hc]
      rw [dec_encW]
      exact ⟨_, LeV.refl _, vEP hm hx⟩
    · cases h
  · cases h) (fun xs r h => by
  unfold GEn at h
  split at h
  · split at h
    · rename_i hw
      obtain ⟨hc, h⟩ := cond_some h
      simp only [Option.some.injEq] at h
      subst h
      rw [sI_eq hw, ← enc_decW hc, dec_encW]
      exact nE_nil _ _
    · cases h
  · cases h)
end Go.Sx.Pr
