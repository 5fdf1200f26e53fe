/- The contract of work.table: a table of functions, as data. -/
import Derived.Test.YtaejdljgfmclpaaGreatV4
import Derived.Test.YtaejdljgfmclpaaGreatV31
import Derived.KernelRfl
import Derived.Test.YtaejdljgfmclpaaGreatSxCon3
import Derived.Test.YtaejdljgfmclpaaGreatRows
import Derived.Test.YtaejdljgfmclpaaGreatQ2
import Derived.Test.YtaejdljgfmclpaaGreatQ39
import Derived.Test.YtaejdljgfmclpaaGreatSxFrame
set_option linter.all false
set_option linter.unusedVariables false
set_option linter.unusedSimpArgs false
set_option linter.unnecessarySimpa false
namespace Go.Sx.Pr
open Go Go.Sx Go.Sx.Md Go.Proofs
set_option maxRecDepth 100000
abbrev clI (g : Nat) (x : Int) : SV := .fn (.func g) [] [.rc [I x] 0]
abbrev clF (g f : Nat) : SV := .fn (.func g) [] [.rc [fnC f] 0]
abbrev endsC (a b c : SV) : SV := .agg [a, b, c]
def TA : List SV := [endsC (fnC 85) (fnC 86) (fnC 86), endsC (fnC 85) (fnC 86) (fnC 86), endsC (fnC 85) (fnC 86) (fnC 86), endsC (fnC 85) (fnC 87) (fnC 87), endsC (fnC 85) (clI 121 73) (clI 121 73), endsC (fnC 85) (clI 121 73) (clI 121 73), endsC (fnC 85) (clI 121 73) (clI 121 73), endsC (clF 122 90) (clI 131 0) (clI 131 9), endsC (clF 122 90) (clI 131 0) (clI 131 9)]
def TG : SV := endsC (clF 122 94) (fnC 92) (fnC 92)
def TT : SV := endsC (clF 122 95) (clI 136 50) (clI 137 5)
def TB : List SV := [endsC (clF 122 98) (fnC 99) (clI 137 5), endsC (clF 122 98) (fnC 99) (clI 137 5), endsC (clF 122 98) (fnC 99) (clI 137 5), endsC (clF 122 98) (fnC 99) (clI 137 5), endsC (clF 122 98) (fnC 99) (clI 137 5), endsC (clF 122 98) (fnC 99) (fnC 99), endsC (clF 122 98) (fnC 99) (fnC 99), endsC (clF 122 98) (fnC 99) (fnC 99), endsC (clF 122 98) (clI 144 43) (clI 137 7), endsC (clF 122 98) (fnC 101) (fnC 101), endsC (clF 122 98) (fnC 102) (clI 137 7), endsC (clF 122 98) (clI 144 45) (clI 137 7), endsC (clF 122 98) (fnC 103) (fnC 103), endsC (clF 122 98) (clI 136 61) (clI 137 7)]
def tblL (give : Bool) : SV := match give with
  | true => .md ([1, 2, 3, 90, 70, 71, 72, 36, 37, 13, 14, 15, 30, 31, 32, 39, 20, 21, 22, 40, 41, 23, 24, 25, 42, 43, 46, 44, 45, 60].map kI) (TA ++ (List.replicate 7 TG ++ TB))
  | false => .md ([1, 2, 3, 90, 70, 71, 72, 36, 37, 10, 11, 12, 30, 31, 32, 33, 34, 35, 38, 20, 21, 22, 40, 41, 23, 24, 25, 42, 43, 46, 44, 45, 60].map kI) (TA ++ (List.replicate 10 TT ++ TB))
def S1136p {Ω : Type} : Spec Ω := pureSpec [.any] fun xs => match xs with | [.d (.v (.bool b))] => [(true, tblL b)] | _ => []
theorem g1136p : Good1 Tryz.prog 61 S1136p := pureGood Tryz.func61 (by kernel_rfl) c1136 e1136 mix (A := A1136) fun xs r hF => by
  split at hF
  · rename_i b
    simp only [firstP, cond_true, Option.some.injEq] at hF
    subst hF
    cases b with
    | true => exact dat_of e1136 (by kernel_rfl)
    | false => exact dat_of e1136 (by kernel_rfl)
  · cases hF
end Go.Sx.Pr

namespace Go.Sx.Pr
open Go Go.Sx Go.Proofs
set_option maxRecDepth 100000
/-- (coatcheck/plan.Plan).Word -/
def C1082 : CF := ⟨3, [(6, none)],
 .seq (.reg false [⟨some 3, .box 87 8 (.t 0), none, 0⟩,
   ⟨some 6, .mv (.c (.d (.v (.int .i64 0)))), none, 0⟩])
 (.seq (.seq (.reg false [⟨some 8, .ld 8 true (.t 3), none, 0⟩,
   ⟨some 9, .mv (.t 1), none, 0⟩,
   ⟨some 10, .call (.c (.fn (.func 113) [] [])) [.t 8, .t 9], none, 0⟩,
   ⟨some 7, .mv (.t 10), none, 0⟩])
 (.seq (.reg false [⟨some 11, .mv (.t 7), none, 0⟩,
   ⟨some 12, .bin .geq (.t 11) (.c (.d (.v (.int .i64 0)))), none, 0⟩,
   ⟨some 13, .mv (.t 12), none, 0⟩,
   ⟨some 14, .mv (.t 2), some (13, true), 0⟩,
   ⟨some 15, .bin .geq (.t 14) (.c (.d (.v (.int .i64 0)))), some (13, true), 0⟩,
   ⟨some 16, .pick (.t 13) (.t 15) (.c (.d (.v (.bool false)))), none, 0⟩,
   ⟨some 17, .mv (.t 16), none, 0⟩,
   ⟨some 18, .mv (.t 2), some (17, true), 0⟩,
   ⟨some 19, .fa 0 (.t 3), some (17, true), 0⟩,
   ⟨some 20, .fa 3 (.t 19), some (17, true), 0⟩,
   ⟨some 21, .ld 1 false (.t 20), some (17, true), 0⟩,
   ⟨some 22, .bin .lss (.t 18) (.t 21), some (17, true), 0⟩,
   ⟨some 23, .pick (.t 17) (.t 22) (.c (.d (.v (.bool false)))), none, 0⟩])
 (.cond 23 (.seq (.reg false [⟨some 24, .mv (.t 7), none, 0⟩,
     ⟨some 25, .bin .add (.t 24) (.c (.d (.v (.int .i64 1)))), none, 0⟩,
     ⟨some 26, .mv (.t 2), none, 0⟩,
     ⟨some 27, .bin .add (.t 25) (.t 26), none, 0⟩,
     ⟨some 6, .mv (.t 27), none, 0⟩])
   (.ret))
   (.skip))))
 (.seq (.reg false [⟨some 6, .mv (.c (.d (.v (.int .i64 (-1))))), none, 0⟩])
 (.ret)))⟩
theorem c1082 : coF Tryz.prog Tryz.f82 = some C1082 := by kernel_rfl
def A1082 : Ann := { keep := [0, 1, 2, 3, 6, 7, 23], live := [] }
def E1082 {Ω : Type} : Env Ω := econs 113 S117 (enil)
theorem e1082 : GoodE Tryz.prog E1082 := GoodE.cons g117 (GoodE.nil)
def S1082 {Ω : Type} : Spec Ω := inl E1082 A1082 C1082 false
theorem g1082 : Good1 Tryz.prog 82 S1082 := Good1.inl e1082 mix Tryz.func82 (by kernel_rfl) c1082 A1082 false
def K1135_1 : CC := .seq (.reg false [⟨some 116, .ld 33 true (.t 3), none, 0⟩,
   ⟨none, .st 33 (.t 4) (.t 116), none, 0⟩,
   ⟨some 5, .mv (.c (.d (.v (.bool true)))), none, 0⟩])
 (.ret)
def K1135_2 : CC := .seq (.reg false [⟨some 12, .mv (.t 0), none, 0⟩,
   ⟨some 13, .call (.c (.fn (.func 77) [] [])) [.t 12], none, 0⟩])
 (.seq (.reg true [⟨some 14, .ld 33 true (.t 3), none, 0⟩,
   ⟨some 15, .mv (.t 0), none, 0⟩,
   ⟨some 16, .call (.c (.fn (.func 80) [] [])) [.t 15, .c (.d (.v (.int .i64 0)))], none, 2⟩,
   ⟨some 17, .call (.c (.fn (.func 79) [] [])) [.t 14, .t 16], none, 7⟩,
   ⟨some 18, .call (.c (.fn (.func 78) [] [])) [.t 17], none, 15⟩,
   ⟨none, .st 33 (.t 4) (.t 18), none, 31⟩,
   ⟨some 5, .mv (.c (.d (.v (.bool true)))), none, 63⟩])
 (.ret))
def K1135_3 : CC := .seq (.reg false [⟨some 42, .fa 28 (.t 3), none, 0⟩,
   ⟨some 43, .ld 1 false (.t 42), none, 0⟩,
   ⟨some 44, .bin .add (.t 43) (.c (.d (.v (.int .i64 1)))), none, 0⟩,
   ⟨some 45, .fa 28 (.t 3), none, 0⟩,
   ⟨none, .st 1 (.t 45) (.t 44), none, 0⟩])
 (.seq (.reg true [⟨some 46, .fa 28 (.t 3), none, 0⟩,
   ⟨some 47, .ld 1 false (.t 46), none, 1⟩,
   ⟨some 48, .mv (.t 0), none, 0⟩,
   ⟨some 49, .nilc (.t 48), none, 4⟩,
   ⟨some 50, .fa 0 (.t 49), none, 12⟩,
   ⟨some 51, .fa 0 (.t 50), none, 28⟩,
   ⟨some 52, .fa 3 (.t 51), none, 60⟩,
   ⟨some 53, .ld 1 false (.t 52), none, 124⟩,
   ⟨some 54, .bin .geq (.t 47) (.t 53), none, 255⟩])
 (.cond 54 (.seq (.reg false [⟨some 55, .fa 0 (.t 3), none, 0⟩,
     ⟨none, .st 1 (.t 55) (.c (.d (.v (.int .i64 20)))), none, 0⟩])
   (.seq (.reg false [⟨some 56, .fa 1 (.t 3), none, 0⟩,
     ⟨some 57, .fa 0 (.t 56), none, 0⟩,
     ⟨some 58, .ld 1 false (.t 57), none, 0⟩,
     ⟨some 59, .eq .int false (.t 58) (.c (.d (.v (.int .i64 5)))), none, 0⟩])
   (.cond 59 (.reg false [⟨some 60, .fa 0 (.t 3), none, 0⟩,
       ⟨none, .st 1 (.t 60) (.c (.d (.v (.int .i64 44)))), none, 0⟩])
     (.skip))))
   (.skip)))
def K1135_4 : CC := .reg true [⟨some 23, .mv (.t 0), none, 0⟩,
   ⟨some 24, .mv (.t 0), none, 0⟩,
   ⟨some 25, .nilc (.t 24), none, 2⟩,
   ⟨some 26, .fa 0 (.t 25), none, 6⟩,
   ⟨some 27, .ld 8 true (.t 26), none, 14⟩,
   ⟨some 28, .fa 18 (.t 3), none, 0⟩,
   ⟨some 29, .ld 1 false (.t 28), none, 32⟩,
   ⟨some 30, .bin .sub (.t 29) (.c (.d (.v (.int .i64 1)))), none, 96⟩,
   ⟨some 31, .fa 28 (.t 3), none, 0⟩,
   ⟨some 32, .ld 1 false (.t 31), none, 256⟩,
   ⟨some 33, .call (.c (.fn (.func 82) [] [])) [.t 27, .t 30, .t 32], none, 1022⟩,
   ⟨some 34, .fa 1 (.t 3), none, 0⟩,
   ⟨some 35, .fa 2 (.t 34), none, 2048⟩,
   ⟨some 36, .ld 1 false (.t 35), none, 6144⟩,
   ⟨some 37, .fa 28 (.t 3), none, 0⟩,
   ⟨some 38, .ld 1 false (.t 37), none, 16384⟩,
   ⟨some 39, .conv .u64 (.t 38), none, 49152⟩,
   ⟨some 40, .bin .add (.t 36) (.t 39), none, 129024⟩,
   ⟨some 41, .call (.c (.fn (.func 81) [] [])) [.t 23, .t 33, .t 40], none, 262143⟩]
def K1135_5 : CC := .reg false [⟨some 21, .mv (.t 0), none, 0⟩,
   ⟨some 22, .call (.c (.fn (.func 77) [] [])) [.t 21], none, 0⟩]
def K1135_6 : CC := .seq (.seq (.reg false [⟨some 104, .fa 0 (.t 3), none, 0⟩,
   ⟨some 105, .ld 1 false (.t 104), none, 0⟩,
   ⟨some 106, .eq .int false (.t 105) (.c (.d (.v (.int .i64 62)))), none, 0⟩])
 (.cond 106 (.seq (.reg false [⟨some 107, .fa 0 (.t 3), none, 0⟩,
     ⟨none, .st 1 (.t 107) (.c (.d (.v (.int .i64 0)))), none, 0⟩])
   (.exit 0))
   (.skip)))
 (.seq (.seq (.reg false [⟨some 108, .fa 8 (.t 3), none, 0⟩,
   ⟨some 109, .ld 1 false (.t 108), none, 0⟩])
 (.cond 109 (.reg false [⟨some 110, .fa 21 (.t 3), none, 0⟩,
     ⟨some 111, .ld 1 false (.t 110), none, 0⟩,
     ⟨some 112, .fa 22 (.t 3), none, 0⟩,
     ⟨none, .st 1 (.t 112) (.t 111), none, 0⟩])
   (.skip)))
 (.seq (.reg false [⟨some 113, .fa 21 (.t 3), none, 0⟩,
   ⟨none, .st 1 (.t 113) (.c (.d (.v (.int .i64 0)))), none, 0⟩])
 (.reg false [⟨some 114, .ld 33 true (.t 3), none, 0⟩,
   ⟨some 115, .call (.c (.fn (.func 78) [] [])) [.t 114], none, 0⟩,
   ⟨none, .st 33 (.t 3) (.t 115), none, 0⟩])))
def K1135_7 : CC := .seq (.reg false [⟨some 91, .fa 28 (.t 3), none, 0⟩,
   ⟨some 92, .ld 1 false (.t 91), none, 0⟩,
   ⟨some 93, .bin .add (.t 92) (.c (.d (.v (.int .i64 1)))), none, 0⟩,
   ⟨some 94, .fa 28 (.t 3), none, 0⟩,
   ⟨none, .st 1 (.t 94) (.t 93), none, 0⟩])
 (.seq (.reg true [⟨some 95, .fa 28 (.t 3), none, 0⟩,
   ⟨some 96, .ld 1 false (.t 95), none, 1⟩,
   ⟨some 97, .mv (.t 0), none, 0⟩,
   ⟨some 98, .nilc (.t 97), none, 4⟩,
   ⟨some 99, .fa 0 (.t 98), none, 12⟩,
   ⟨some 100, .fa 0 (.t 99), none, 28⟩,
   ⟨some 101, .fa 3 (.t 100), none, 60⟩,
   ⟨some 102, .ld 1 false (.t 101), none, 124⟩,
   ⟨some 103, .bin .lss (.t 96) (.t 102), none, 255⟩])
 (.cond 103 (.exit 0)
   (.skip)))
def K1135_8 : CC := .reg true [⟨some 75, .fa 29 (.t 3), none, 0⟩,
   ⟨some 76, .ld 1 false (.t 75), none, 1⟩,
   ⟨some 77, .mv (.t 0), none, 0⟩,
   ⟨some 78, .mv (.t 0), none, 0⟩,
   ⟨some 79, .nilc (.t 78), none, 8⟩,
   ⟨some 80, .fa 0 (.t 79), none, 24⟩,
   ⟨some 81, .ld 8 true (.t 80), none, 56⟩,
   ⟨some 82, .mv (.t 6), none, 0⟩,
   ⟨some 83, .fa 28 (.t 3), none, 0⟩,
   ⟨some 84, .ld 1 false (.t 83), none, 256⟩,
   ⟨some 85, .call (.c (.fn (.func 82) [] [])) [.t 81, .t 82, .t 84], none, 1016⟩,
   ⟨some 86, .call (.c (.fn (.func 80) [] [])) [.t 77, .t 85], none, 2044⟩,
   ⟨some 87, .bsl 22 1 1 [.d (.v (.int .u64 0))] [(0, 1, .t 86)], none, 4092⟩,
   ⟨some 88, .bsl 38 1 2 [.d (.v (.slice none 0 0))] [(0, 1, .t 76), (1, 1, .t 87)], none, 8191⟩,
   ⟨some 89, .call (.c (.fn (.func 83) [] [])) [.t 88], none, 16383⟩,
   ⟨some 90, .fa 29 (.t 3), none, 32767⟩,
   ⟨none, .st 1 (.t 90) (.t 89), none, 65535⟩]
def K1135_9 : CC := .seq (.reg false [⟨some 69, .fa 0 (.t 3), none, 0⟩,
   ⟨some 70, .ld 1 false (.t 69), none, 0⟩,
   ⟨some 71, .eq .int false (.t 70) (.c (.d (.v (.int .i64 62)))), none, 0⟩])
 (.cond 71 (.reg false [⟨some 72, .fa 22 (.t 3), none, 0⟩,
     ⟨some 73, .ld 1 false (.t 72), none, 0⟩,
     ⟨some 74, .bin .sub (.t 73) (.c (.d (.v (.int .i64 1)))), none, 0⟩,
     ⟨some 6, .mv (.t 74), none, 0⟩])
   (.skip))
def K1135_10 : CC := .reg false [⟨some 66, .fa 21 (.t 3), none, 0⟩,
   ⟨some 67, .ld 1 false (.t 66), none, 0⟩,
   ⟨some 68, .bin .sub (.t 67) (.c (.d (.v (.int .i64 1)))), none, 0⟩,
   ⟨some 6, .mv (.t 68), none, 0⟩]
def K1135_11 : CC := .reg false [⟨some 64, .mv (.t 0), none, 0⟩,
   ⟨some 65, .call (.c (.fn (.func 77) [] [])) [.t 64], none, 0⟩]
def K1135_12 : CC := .seq (.reg false [⟨some 9, .ld 33 true (.t 3), none, 0⟩,
   ⟨none, .st 33 (.t 4) (.t 9), none, 0⟩,
   ⟨some 5, .mv (.c (.d (.v (.bool false)))), none, 0⟩])
 (.ret)
def K1135_13 : CC := .seq (.reg false [⟨some 62, .eq .int false (.t 8) (.c (.d (.v (.int .i64 61)))), none, 0⟩,
   ⟨some 61, .mv (.t 62), none, 0⟩])
 (.cond 61 (.skip)
   (.reg false [⟨some 63, .eq .int false (.t 8) (.c (.d (.v (.int .i64 62)))), none, 0⟩,
     ⟨some 61, .mv (.t 63), none, 0⟩]))
def K1135_14 : CC := .reg false [⟨some 20, .eq .int false (.t 8) (.c (.d (.v (.int .i64 50)))), none, 0⟩,
   ⟨some 19, .mv (.t 20), none, 0⟩]
def K1135_15 : CC := .reg false [⟨some 11, .eq .int false (.t 8) (.c (.d (.v (.int .i64 73)))), none, 0⟩,
   ⟨some 10, .mv (.t 11), none, 0⟩]
def K1135_16 : CC := .reg false [⟨some 7, .fa 0 (.t 3), none, 0⟩,
   ⟨some 8, .ld 1 false (.t 7), none, 0⟩]
def K1135_17 : CC := .reg false [⟨some 3, .box 56 33 (.t 1), none, 0⟩,
   ⟨some 4, .newc 56 [.d (.v (.int .i64 0)), .d (.v (.int .i64 0)), .d (.v (.int .u64 0)), .d (.v (.int .u64 0)), .d (.v (.int .i64 0)), .d (.v (.bool false)), .d (.v (.int .i64 0)), .d (.v (.int .i64 0)), .d (.v (.bool false)), .d (.v (.int .u64 0)), .d (.v (.slice none 0 0)), .d (.v (.int .u64 0)), .d (.v (.slice none 0 0)), .d (.v (.int .u64 0)), .d (.v (.slice none 0 0)), .d (.v (.int .u64 0)), .d (.v (.slice none 0 0)), .d (.v (.slice none 0 0)), .d (.v (.int .i64 0)), .d (.v (.int .i64 0)), .d (.v (.int .i64 0)), .d (.v (.int .i64 0)), .d (.v (.int .i64 0)), .d (.v (.int .u64 0)), .d (.v (.int .u64 0)), .d (.v (.int .u64 0)), .d (.v (.int .u64 0)), .d (.v (.int .u64 0)), .d (.v (.int .i64 0)), .d (.v (.slice none 0 0)), .d (.v (.int .u64 0)), .d (.v (.int .i64 0)), .d (.v (.bool false))], none, 0⟩,
   ⟨some 5, .mv (.c (.d (.v (.bool false)))), none, 0⟩]
/-- coatcheck/work.own -/
def C1135 : CF := ⟨2, [(4, some (33, true)), (5, none)],
 .seq K1135_17 (.seq (.seq K1135_16 (.block 0 (.seq K1135_15 (.cond 10 K1135_2 (.seq K1135_14 (.cond 19 (.seq K1135_5 (.seq K1135_4 K1135_3)) (.seq K1135_13 (.cond 61 (.seq K1135_11 (.seq K1135_10 (.seq K1135_9 (.seq K1135_8 (.seq K1135_7 K1135_6))))) K1135_12)))))))) K1135_1)⟩
theorem c1135 : coF Tryz.prog Tryz.f60 = some C1135 := by kernel_rfl
def A1135 : Ann := { keep := [0, 1, 3, 4, 5, 6, 8, 10, 19, 54, 59, 61, 71, 103, 106, 109], live := [], kc := [61] }
def E1135 {Ω : Type} : Env Ω := econs 77 S29m (econs 78 S1139 (econs 79 S1140 (econs 80 S21m (econs 81 S23m (econs 82 S1082 (econs 83 S1141 (enil)))))))
theorem e1135 : GoodE Tryz.prog E1135 := GoodE.cons g29m (GoodE.cons g1139 (GoodE.cons g1140 (GoodE.cons g21m (GoodE.cons g23m (GoodE.cons g1082 (GoodE.cons g1141 (GoodE.nil)))))))
def S1135 {Ω : Type} : Spec Ω := inl E1135 A1135 C1135 false
theorem g1135 : Good1 Tryz.prog 60 S1135 := Good1.inl e1135 mix Tryz.func60 (by kernel_rfl) c1135 A1135 false
def K1126_1 : CC := .seq (.seq (.reg false [⟨some 47, .mv (.t 12), none, 0⟩])
 (.block 0 (.seq (.reg false [⟨some 49, .eq .int false (.t 47) (.c (.d (.v (.int .i64 1)))), none, 0⟩,
     ⟨some 48, .mv (.t 49), none, 0⟩])
   (.cond 48 (.reg false [⟨some 50, .fa 1 (.t 10), none, 0⟩,
       ⟨some 51, .ld 1 false (.t 50), none, 0⟩,
       ⟨some 52, .mv (.t 0), none, 0⟩,
       ⟨some 53, .ld 33 true (.t 5), none, 0⟩,
       ⟨some 54, .call (.t 51) [.t 52, .t 53], none, 0⟩,
       ⟨none, .st 33 (.t 5) (.t 54), none, 0⟩])
     (.seq (.reg false [⟨some 56, .eq .int false (.t 47) (.c (.d (.v (.int .i64 2)))), none, 0⟩,
       ⟨some 55, .mv (.t 56), none, 0⟩])
     (.cond 55 (.reg false [⟨some 57, .fa 2 (.t 10), none, 0⟩,
         ⟨some 58, .ld 1 false (.t 57), none, 0⟩,
         ⟨some 59, .mv (.t 0), none, 0⟩,
         ⟨some 60, .ld 33 true (.t 5), none, 0⟩,
         ⟨some 61, .call (.t 58) [.t 59, .t 60], none, 0⟩,
         ⟨none, .st 33 (.t 5) (.t 61), none, 0⟩])
       (.skip)))))))
 (.seq (.reg false [⟨some 62, .ld 33 true (.t 5), none, 0⟩,
   ⟨none, .st 33 (.t 6) (.t 62), none, 0⟩,
   ⟨some 7, .mv (.c (.d (.v (.bool true)))), none, 0⟩])
 (.ret))
def K1126_2 : CC := .reg false [⟨some 38, .fa 0 (.t 10), none, 0⟩,
   ⟨some 39, .ld 1 false (.t 38), none, 0⟩,
   ⟨some 40, .mv (.t 0), none, 0⟩,
   ⟨some 41, .mv (.t 1), none, 0⟩,
   ⟨some 42, .ld 33 true (.t 5), none, 0⟩,
   ⟨some 43, .call (.t 39) [.t 40, .t 41, .t 42], none, 0⟩,
   ⟨some 37, .mv (.t 43), none, 0⟩,
   ⟨some 44, .ext 0 (.t 37), none, 0⟩,
   ⟨some 45, .ext 1 (.t 37), none, 0⟩,
   ⟨some 46, .ext 2 (.t 37), none, 0⟩,
   ⟨none, .st 33 (.t 5) (.t 44), none, 0⟩,
   ⟨some 12, .mv (.t 45), none, 0⟩,
   ⟨some 13, .mv (.t 46), none, 0⟩]
def K1126_3 : CC := .seq (.reg false [⟨some 34, .mv (.t 11), none, 0⟩,
   ⟨some 35, .un .not (.t 34), none, 0⟩])
 (.cond 35 (.seq (.reg false [⟨some 36, .ld 33 true (.t 5), none, 0⟩,
     ⟨none, .st 33 (.t 6) (.t 36), none, 0⟩,
     ⟨some 7, .mv (.c (.d (.v (.bool false)))), none, 0⟩])
   (.ret))
   (.skip))
def K1126_4 : CC := .reg true [⟨some 26, .fa 32 (.t 5), none, 0⟩,
   ⟨some 27, .ld 1 false (.t 26), none, 1⟩,
   ⟨some 28, .call (.c (.fn (.func 61) [] [])) [.t 27], none, 3⟩,
   ⟨some 29, .fa 0 (.t 5), none, 0⟩,
   ⟨some 30, .ld 1 false (.t 29), none, 8⟩,
   ⟨some 31, .lku 0 (.agg [.d (.v (.nilFunc)), .d (.v (.nilFunc)), .d (.v (.nilFunc))]) true (.t 28) (.t 30), none, 31⟩,
   ⟨some 25, .mv (.t 31), none, 63⟩,
   ⟨some 32, .ext 0 (.t 25), none, 127⟩,
   ⟨some 33, .ext 1 (.t 25), none, 127⟩,
   ⟨some 10, .newc 114 [.d (.v (.nilFunc)), .d (.v (.nilFunc)), .d (.v (.nilFunc))], none, 0⟩,
   ⟨none, .st 3 (.t 10) (.t 32), none, 767⟩,
   ⟨some 11, .mv (.t 33), none, 2047⟩]
def K1126_5 : CC := .seq (.reg false [⟨some 18, .mv (.t 0), none, 0⟩,
   ⟨some 19, .ld 33 true (.t 5), none, 0⟩,
   ⟨some 20, .call (.c (.fn (.func 60) [] [])) [.t 18, .t 19], none, 0⟩,
   ⟨some 17, .mv (.t 20), none, 0⟩,
   ⟨some 21, .ext 0 (.t 17), none, 0⟩,
   ⟨some 22, .ext 1 (.t 17), none, 0⟩,
   ⟨some 8, .newc 56 [.d (.v (.int .i64 0)), .d (.v (.int .i64 0)), .d (.v (.int .u64 0)), .d (.v (.int .u64 0)), .d (.v (.int .i64 0)), .d (.v (.bool false)), .d (.v (.int .i64 0)), .d (.v (.int .i64 0)), .d (.v (.bool false)), .d (.v (.int .u64 0)), .d (.v (.slice none 0 0)), .d (.v (.int .u64 0)), .d (.v (.slice none 0 0)), .d (.v (.int .u64 0)), .d (.v (.slice none 0 0)), .d (.v (.int .u64 0)), .d (.v (.slice none 0 0)), .d (.v (.slice none 0 0)), .d (.v (.int .i64 0)), .d (.v (.int .i64 0)), .d (.v (.int .i64 0)), .d (.v (.int .i64 0)), .d (.v (.int .i64 0)), .d (.v (.int .u64 0)), .d (.v (.int .u64 0)), .d (.v (.int .u64 0)), .d (.v (.int .u64 0)), .d (.v (.int .u64 0)), .d (.v (.int .i64 0)), .d (.v (.slice none 0 0)), .d (.v (.int .u64 0)), .d (.v (.int .i64 0)), .d (.v (.bool false))], none, 0⟩,
   ⟨none, .st 33 (.t 8) (.t 21), none, 0⟩,
   ⟨some 9, .mv (.t 22), none, 0⟩])
 (.seq (.reg false [⟨some 23, .mv (.t 9), none, 0⟩])
 (.cond 23 (.seq (.reg false [⟨some 24, .ld 33 true (.t 8), none, 0⟩,
     ⟨none, .st 33 (.t 6) (.t 24), none, 0⟩,
     ⟨some 7, .mv (.c (.d (.v (.bool true)))), none, 0⟩])
   (.ret))
   (.skip)))
def K1126_6 : CC := .seq (.reg false [⟨some 14, .mv (.t 0), none, 0⟩,
   ⟨some 15, .eq .ptr false (.t 14) (.c (.d (.v (.pointer none)))), none, 0⟩])
 (.cond 15 (.seq (.reg false [⟨some 16, .ld 33 true (.t 5), none, 0⟩,
     ⟨none, .st 33 (.t 6) (.t 16), none, 0⟩,
     ⟨some 7, .mv (.c (.d (.v (.bool false)))), none, 0⟩])
   (.ret))
   (.skip))
def K1126_7 : CC := .reg false [⟨some 5, .box 56 33 (.t 2), none, 0⟩,
   ⟨some 6, .newc 56 [.d (.v (.int .i64 0)), .d (.v (.int .i64 0)), .d (.v (.int .u64 0)), .d (.v (.int .u64 0)), .d (.v (.int .i64 0)), .d (.v (.bool false)), .d (.v (.int .i64 0)), .d (.v (.int .i64 0)), .d (.v (.bool false)), .d (.v (.int .u64 0)), .d (.v (.slice none 0 0)), .d (.v (.int .u64 0)), .d (.v (.slice none 0 0)), .d (.v (.int .u64 0)), .d (.v (.slice none 0 0)), .d (.v (.int .u64 0)), .d (.v (.slice none 0 0)), .d (.v (.slice none 0 0)), .d (.v (.int .i64 0)), .d (.v (.int .i64 0)), .d (.v (.int .i64 0)), .d (.v (.int .i64 0)), .d (.v (.int .i64 0)), .d (.v (.int .u64 0)), .d (.v (.int .u64 0)), .d (.v (.int .u64 0)), .d (.v (.int .u64 0)), .d (.v (.int .u64 0)), .d (.v (.int .i64 0)), .d (.v (.slice none 0 0)), .d (.v (.int .u64 0)), .d (.v (.int .i64 0)), .d (.v (.bool false))], none, 0⟩,
   ⟨some 7, .mv (.c (.d (.v (.bool false)))), none, 0⟩]
/-- coatcheck/work.Step -/
def C1126 : CF := ⟨3, [(6, some (33, true)), (7, none)],
 .seq K1126_7 (.seq K1126_6 (.seq K1126_5 (.seq K1126_4 (.seq K1126_3 (.seq K1126_2 K1126_1)))))⟩
theorem c1126 : coF Tryz.prog Tryz.f37 = some C1126 := by kernel_rfl
def A1126 : Ann := { keep := [0, 1, 2, 5, 6, 7, 8, 9, 10, 11, 12, 15, 23, 35, 47, 48, 55], live := [], pu := [61] }
def E1126 {Ω : Type} : Env Ω := econs 60 S1135 (econs 61 S1136p (econs 85 S54i (econs 86 S1143 (econs 87 S1144 (econs 92 S1148 (econs 99 S1152 (econs 101 S1154 (econs 102 S1155 (econs 103 S1156 (econs 121 S1159 (econs 122 S1160 (econs 131 S1161 (econs 136 S1163 (econs 137 S1164 (econs 144 S1166 (enil))))))))))))))))
theorem e1126 : GoodE Tryz.prog E1126 := GoodE.cons g1135 (GoodE.cons g1136p (GoodE.cons g54i (GoodE.cons g1143 (GoodE.cons g1144 (GoodE.cons g1148 (GoodE.cons g1152 (GoodE.cons g1154 (GoodE.cons g1155 (GoodE.cons g1156 (GoodE.cons g1159 (GoodE.cons g1160 (GoodE.cons g1161 (GoodE.cons g1163 (GoodE.cons g1164 (GoodE.cons g1166 (GoodE.nil))))))))))))))))
def S1126 {Ω : Type} : Spec Ω := inl E1126 A1126 C1126 false
theorem g1126 : Good1 Tryz.prog 37 S1126 := Good1.inl e1126 mix Tryz.func37 (by kernel_rfl) c1126 A1126 false
/-- coatcheck/work.Idle -/
def C1125 : CF := ⟨1, [(2, none)],
 .seq (.reg false [⟨some 1, .box 56 33 (.t 0), none, 0⟩,
   ⟨some 2, .mv (.c (.d (.v (.bool false)))), none, 0⟩])
 (.seq (.reg false [⟨some 3, .fa 0 (.t 1), none, 0⟩,
   ⟨some 4, .ld 1 false (.t 3), none, 0⟩,
   ⟨some 5, .eq .int false (.t 4) (.c (.d (.v (.int .i64 0)))), none, 0⟩,
   ⟨some 2, .mv (.t 5), none, 0⟩])
 (.ret))⟩
theorem c1125 : coF Tryz.prog Tryz.f35 = some C1125 := by kernel_rfl
def A1125 : Ann := { keep := [0, 1, 2], live := [] }
def E1125 {Ω : Type} : Env Ω := enil
theorem e1125 : GoodE Tryz.prog E1125 := GoodE.nil
def S1125 {Ω : Type} : Spec Ω := inl E1125 A1125 C1125 false
theorem g1125 : Good1 Tryz.prog 35 S1125 := Good1.inl e1125 mix Tryz.func35 (by kernel_rfl) c1125 A1125 false
def K1119_1 : CC := .seq (.reg false [⟨some 91, .ld 33 true (.t 5), none, 0⟩,
   ⟨none, .st 33 (.t 8) (.t 91), none, 0⟩])
 (.ret)
def K1119_2 : CC := .seq (.seq (.reg false [⟨some 89, .ld 33 true (.t 5), none, 0⟩,
   ⟨some 90, .call (.c (.fn (.func 74) [] [])) [.t 89, .c (.d (.v (.int .i64 3)))], none, 0⟩,
   ⟨none, .st 33 (.t 8) (.t 90), none, 0⟩])
 (.ret))
 (.exit 0)
def K1119_3 : CC := .seq (.seq (.seq (.reg false [⟨some 76, .fa 3 (.t 6), none, 0⟩,
   ⟨some 77, .ld 1 false (.t 76), none, 0⟩,
   ⟨some 78, .bin .lss (.t 77) (.c (.d (.v (.int .i64 0)))), none, 0⟩,
   ⟨some 79, .mv (.t 78), none, 0⟩,
   ⟨some 80, .fa 3 (.t 6), some (79, false), 0⟩,
   ⟨some 81, .ld 1 false (.t 80), some (79, false), 0⟩,
   ⟨some 82, .fa 1 (.t 4), some (79, false), 0⟩,
   ⟨some 83, .ld 1 false (.t 82), some (79, false), 0⟩,
   ⟨some 84, .bin .geq (.t 81) (.t 83), some (79, false), 0⟩,
   ⟨some 85, .pick (.t 79) (.c (.d (.v (.bool true)))) (.t 84), none, 0⟩])
 (.cond 85 (.seq (.reg false [⟨some 86, .ld 33 true (.t 5), none, 0⟩,
     ⟨some 87, .call (.c (.fn (.func 74) [] [])) [.t 86, .c (.d (.v (.int .i64 8)))], none, 0⟩,
     ⟨none, .st 33 (.t 8) (.t 87), none, 0⟩])
   (.ret))
   (.skip)))
 (.reg false [⟨some 88, .fa 0 (.t 5), none, 0⟩,
   ⟨none, .st 1 (.t 88) (.c (.d (.v (.int .i64 36)))), none, 0⟩]))
 (.exit 0)
def K1119_4 : CC := .seq (.reg false [⟨some 75, .fa 0 (.t 5), none, 0⟩,
   ⟨none, .st 1 (.t 75) (.c (.d (.v (.int .i64 70)))), none, 0⟩])
 (.exit 0)
def K1119_5 : CC := .seq (.seq (.seq (.reg false [⟨some 64, .fa 8 (.t 5), none, 0⟩,
   ⟨some 65, .ld 1 false (.t 64), none, 0⟩,
   ⟨some 66, .un .not (.t 65), none, 0⟩,
   ⟨some 67, .mv (.t 66), none, 0⟩,
   ⟨some 68, .fa 22 (.t 5), some (67, false), 0⟩,
   ⟨some 69, .ld 1 false (.t 68), some (67, false), 0⟩,
   ⟨some 70, .eq .int false (.t 69) (.c (.d (.v (.int .i64 0)))), some (67, false), 0⟩,
   ⟨some 71, .pick (.t 67) (.c (.d (.v (.bool true)))) (.t 70), none, 0⟩])
 (.cond 71 (.seq (.reg false [⟨some 72, .ld 33 true (.t 5), none, 0⟩,
     ⟨some 73, .call (.c (.fn (.func 74) [] [])) [.t 72, .c (.d (.v (.int .i64 9)))], none, 0⟩,
     ⟨none, .st 33 (.t 8) (.t 73), none, 0⟩])
   (.ret))
   (.skip)))
 (.reg false [⟨some 74, .fa 0 (.t 5), none, 0⟩,
   ⟨none, .st 1 (.t 74) (.c (.d (.v (.int .i64 62)))), none, 0⟩]))
 (.exit 0)
def K1119_6 : CC := .seq (.seq (.seq (.reg false [⟨some 59, .fa 8 (.t 5), none, 0⟩,
   ⟨some 60, .ld 1 false (.t 59), none, 0⟩])
 (.cond 60 (.seq (.reg false [⟨some 61, .ld 33 true (.t 5), none, 0⟩,
     ⟨some 62, .call (.c (.fn (.func 76) [] [])) [.t 61], none, 0⟩,
     ⟨none, .st 33 (.t 8) (.t 62), none, 0⟩])
   (.ret))
   (.skip)))
 (.reg false [⟨some 63, .fa 0 (.t 5), none, 0⟩,
   ⟨none, .st 1 (.t 63) (.c (.d (.v (.int .i64 1)))), none, 0⟩]))
 (.exit 0)
def K1119_7 : CC := .seq (.reg false [⟨some 53, .ld 8 true (.t 4), none, 0⟩,
   ⟨some 54, .mv (.t 3), none, 0⟩,
   ⟨some 55, .call (.c (.fn (.func 75) [] [])) [.t 53, .t 54], none, 0⟩,
   ⟨some 56, .un .not (.t 55), none, 0⟩])
 (.cond 56 (.seq (.reg false [⟨some 57, .ld 33 true (.t 5), none, 0⟩,
     ⟨some 58, .call (.c (.fn (.func 74) [] [])) [.t 57, .c (.d (.v (.int .i64 8)))], none, 0⟩,
     ⟨none, .st 33 (.t 8) (.t 58), none, 0⟩])
   (.ret))
   (.skip))
def K1119_8 : CC := .seq (.seq (.seq (.reg false [⟨some 47, .fa 8 (.t 5), none, 0⟩,
   ⟨some 48, .ld 1 false (.t 47), none, 0⟩,
   ⟨some 49, .un .not (.t 48), none, 0⟩])
 (.cond 49 (.seq (.reg false [⟨some 50, .ld 33 true (.t 5), none, 0⟩,
     ⟨some 51, .call (.c (.fn (.func 74) [] [])) [.t 50, .c (.d (.v (.int .i64 9)))], none, 0⟩,
     ⟨none, .st 33 (.t 8) (.t 51), none, 0⟩])
   (.ret))
   (.skip)))
 (.reg false [⟨some 52, .fa 0 (.t 5), none, 0⟩,
   ⟨none, .st 1 (.t 52) (.c (.d (.v (.int .i64 90)))), none, 0⟩]))
 (.exit 0)
def K1119_9 : CC := .block 2 (.seq (.block 1 (.seq (.seq (.seq (.reg false [⟨some 27, .eq .int false (.t 25) (.c (.d (.v (.int .i64 1)))), none, 0⟩,
       ⟨some 26, .mv (.t 27), none, 0⟩])
     (.cond 26 (.exit 1)
       (.skip)))
     (.seq (.seq (.reg false [⟨some 29, .eq .int false (.t 25) (.c (.d (.v (.int .i64 2)))), none, 0⟩,
       ⟨some 28, .mv (.t 29), none, 0⟩])
     (.cond 28 (.exit 2)
       (.skip)))
     (.seq (.seq (.seq (.reg false [⟨some 31, .eq .int false (.t 25) (.c (.d (.v (.int .i64 4)))), none, 0⟩,
       ⟨some 30, .mv (.t 31), none, 0⟩])
     (.cond 30 (.skip)
       (.seq (.reg false [⟨some 32, .eq .int false (.t 25) (.c (.d (.v (.int .i64 5)))), none, 0⟩,
         ⟨some 30, .mv (.t 32), none, 0⟩])
       (.cond 30 (.skip)
         (.reg false [⟨some 33, .eq .int false (.t 25) (.c (.d (.v (.int .i64 6)))), none, 0⟩,
           ⟨some 30, .mv (.t 33), none, 0⟩])))))
     (.cond 30 (.exit 3)
       (.skip)))
     (.seq (.seq (.reg false [⟨some 35, .eq .int false (.t 25) (.c (.d (.v (.int .i64 3)))), none, 0⟩,
       ⟨some 34, .mv (.t 35), none, 0⟩])
     (.cond 34 (.exit 4)
       (.skip)))
     (.seq (.seq (.reg false [⟨some 37, .eq .int false (.t 25) (.c (.d (.v (.int .i64 7)))), none, 0⟩,
       ⟨some 36, .mv (.t 37), none, 0⟩])
     (.cond 36 (.exit 5)
       (.skip)))
     (.seq (.seq (.reg false [⟨some 39, .eq .int false (.t 25) (.c (.d (.v (.int .i64 8)))), none, 0⟩,
       ⟨some 38, .mv (.t 39), none, 0⟩])
     (.cond 38 (.exit 6)
       (.skip)))
     (.seq (.reg false [⟨some 41, .eq .int false (.t 25) (.c (.d (.v (.int .i64 9)))), none, 0⟩,
       ⟨some 40, .mv (.t 41), none, 0⟩])
     (.cond 40 (.exit 7)
       (.skip)))))))))
     (.exit 8)))
   (.seq (.seq (.seq (.reg false [⟨some 42, .fa 8 (.t 5), none, 0⟩,
     ⟨some 43, .ld 1 false (.t 42), none, 0⟩])
   (.cond 43 (.seq (.reg false [⟨some 44, .ld 33 true (.t 5), none, 0⟩,
       ⟨some 45, .call (.c (.fn (.func 74) [] [])) [.t 44, .c (.d (.v (.int .i64 9)))], none, 0⟩,
       ⟨none, .st 33 (.t 8) (.t 45), none, 0⟩])
     (.ret))
     (.skip)))
   (.reg false [⟨some 46, .fa 0 (.t 5), none, 0⟩,
     ⟨none, .st 1 (.t 46) (.c (.d (.v (.int .i64 1)))), none, 0⟩]))
   (.exit 0)))
def K1119_10 : CC := .reg false [⟨some 24, .fa 0 (.t 6), none, 0⟩,
   ⟨some 25, .ld 1 false (.t 24), none, 0⟩]
def K1119_11 : CC := .reg false [⟨some 19, .fa 18 (.t 5), none, 0⟩,
   ⟨none, .st 1 (.t 19) (.c (.d (.v (.int .i64 0)))), none, 0⟩,
   ⟨some 20, .fa 19 (.t 5), none, 0⟩,
   ⟨none, .st 1 (.t 20) (.c (.d (.v (.int .i64 0)))), none, 0⟩,
   ⟨some 21, .fa 20 (.t 5), none, 0⟩,
   ⟨none, .st 1 (.t 21) (.c (.d (.v (.int .i64 0)))), none, 0⟩,
   ⟨some 22, .fa 21 (.t 5), none, 0⟩,
   ⟨none, .st 1 (.t 22) (.c (.d (.v (.int .i64 0)))), none, 0⟩,
   ⟨some 23, .fa 28 (.t 5), none, 0⟩,
   ⟨none, .st 1 (.t 23) (.c (.d (.v (.int .i64 0)))), none, 0⟩]
def K1119_12 : CC := .reg false [⟨some 12, .ld 7 true (.t 6), none, 0⟩,
   ⟨some 13, .mv (.t 3), none, 0⟩,
   ⟨some 14, .fa 1 (.t 5), none, 0⟩,
   ⟨none, .st 7 (.t 14) (.t 12), none, 0⟩,
   ⟨some 15, .fa 30 (.t 5), none, 0⟩,
   ⟨none, .st 1 (.t 15) (.t 13), none, 0⟩,
   ⟨some 16, .fa 29 (.t 5), none, 0⟩,
   ⟨none, .st 1 (.t 16) (.c (.d (.v (.slice none 0 0)))), none, 0⟩,
   ⟨some 17, .fa 31 (.t 5), none, 0⟩,
   ⟨none, .st 1 (.t 17) (.c (.d (.v (.int .i64 0)))), none, 0⟩,
   ⟨some 18, .fa 32 (.t 5), none, 0⟩,
   ⟨none, .st 1 (.t 18) (.c (.d (.v (.bool false)))), none, 0⟩]
def K1119_13 : CC := .seq (.reg false [⟨some 9, .ld 7 true (.t 6), none, 0⟩,
   ⟨some 10, .call (.c (.fn (.func 73) [] [])) [.t 9], none, 0⟩,
   ⟨some 11, .un .not (.t 10), none, 0⟩])
 (.cond 11 (.reg false [⟨some 3, .mv (.c (.d (.v (.int .u64 0)))), none, 0⟩])
   (.skip))
def K1119_14 : CC := .reg false [⟨some 4, .box 24 8 (.t 0), none, 0⟩,
   ⟨some 5, .box 56 33 (.t 1), none, 0⟩,
   ⟨some 6, .box 37 7 (.t 2), none, 0⟩,
   ⟨some 8, .newc 56 [.d (.v (.int .i64 0)), .d (.v (.int .i64 0)), .d (.v (.int .u64 0)), .d (.v (.int .u64 0)), .d (.v (.int .i64 0)), .d (.v (.bool false)), .d (.v (.int .i64 0)), .d (.v (.int .i64 0)), .d (.v (.bool false)), .d (.v (.int .u64 0)), .d (.v (.slice none 0 0)), .d (.v (.int .u64 0)), .d (.v (.slice none 0 0)), .d (.v (.int .u64 0)), .d (.v (.slice none 0 0)), .d (.v (.int .u64 0)), .d (.v (.slice none 0 0)), .d (.v (.slice none 0 0)), .d (.v (.int .i64 0)), .d (.v (.int .i64 0)), .d (.v (.int .i64 0)), .d (.v (.int .i64 0)), .d (.v (.int .i64 0)), .d (.v (.int .u64 0)), .d (.v (.int .u64 0)), .d (.v (.int .u64 0)), .d (.v (.int .u64 0)), .d (.v (.int .u64 0)), .d (.v (.int .i64 0)), .d (.v (.slice none 0 0)), .d (.v (.int .u64 0)), .d (.v (.int .i64 0)), .d (.v (.bool false))], none, 0⟩]
/-- coatcheck/work.Begin -/
def C1119 : CF := ⟨4, [(8, some (33, true))],
 .seq K1119_14 (.seq K1119_13 (.seq K1119_12 (.seq K1119_11 (.seq (.seq K1119_10 (.block 0 (.seq (.block 8 (.seq (.block 7 (.seq (.block 6 (.seq (.block 5 (.seq (.block 4 (.seq (.block 3 (.seq K1119_9 K1119_8)) K1119_7)) K1119_6)) K1119_5)) K1119_4)) K1119_3)) K1119_2))) K1119_1))))⟩
theorem c1119 : coF Tryz.prog Tryz.f58 = some C1119 := by kernel_rfl
def A1119 : Ann := { keep := [0, 1, 2, 3, 4, 5, 6, 8, 11, 25, 26, 28, 30, 34, 36, 38, 40, 43, 49, 56, 60, 71, 85], live := [], kc := [30] }
def E1119 {Ω : Type} : Env Ω := econs 73 S1127 (econs 74 S1128 (econs 75 S1033c (econs 76 S1129 (enil))))
theorem e1119 : GoodE Tryz.prog E1119 := GoodE.cons g1127 (GoodE.cons g1128 (GoodE.cons g1033c (GoodE.cons g1129 (GoodE.nil))))
def S1119 {Ω : Type} : Spec Ω := inl E1119 A1119 C1119 false
theorem g1119 : Good1 Tryz.prog 58 S1119 := Good1.inl e1119 mix Tryz.func58 (by kernel_rfl) c1119 A1119 false
end Go.Sx.Pr

/- Contracts of functions of a literal slice of lists (slices.Concat). -/
namespace Go.Sx

end Go.Sx

/- Contracts with memory whose results are data: rows that the callee made become data. -/
namespace Go.Sx

end Go.Sx

/- Contracts of the library that the worker's lists use: Clone, Concat. -/
namespace Go.Sx.Pr
open Go Go.Sx Go.Sx.Md Go.Proofs
set_option maxRecDepth 100000
def S1076c {Ω : Type} : Spec Ω := sClone .i64 3 8
theorem g1076c : Good1 Tryz.prog 63 S1076c := clone_good Tryz.func63 (by kernel_rfl) c1076 (A := A1076) e1076 mix (fun cc => by kernel_rfl) (fun a c => ⟨[.dead, .rowi 3 .i64 []], 1, by kernel_rfl, rfl⟩) (fun x r => ⟨[.dead, .rowi 3 .i64 (x :: r)], 1, by
    have : sxFn E1076 A1076 C1076 [.d (.ints .i64 (x :: r))] [] (fun r h => some (r, h)) = br (fits (0 + List.length (x :: r)) 8) (some (.own 1, [.dead, .rowi 3 .i64 (x :: r)])) none := by kernel_rfl
    rw [this]
    simp, rfl⟩)
end Go.Sx.Pr

/- The contract of oper.shapes: a table as data. -/
namespace Go.Sx.Pr
open Go Go.Sx Go.Sx.Md Go.Proofs
set_option maxRecDepth 100000
abbrev shV (s : Array UInt8) (a b c : Bool) : SV := .agg [.d (.v (.string ⟨s⟩)), B a, B b, B c]
def shapL : SV := .md ([1, 2, 7, 8, 3, 4, 6, 5, 9].map kI)
  [shV #[112, 105, 110] false false false, shV #[117, 110, 112, 105, 110] false false false, shV #[112, 101, 101, 107] false false false, shV #[99, 111, 108, 108, 101, 99, 116] false false false,
   shV #[97, 108, 108, 111, 99] false true false, shV #[102, 114, 101, 101] true false false, shV #[100, 101, 114, 101, 102] true false false, shV #[119, 114, 105, 116, 101] true true false, shV #[100, 114, 97, 105, 110] false false true]
def S1137p {Ω : Type} : Spec Ω := pureSpec [] fun xs => match xs with | [] => [(true, shapL)] | _ => []
theorem g1137p : Good1 Tryz.prog 55 S1137p := pureGood Tryz.func55 (by kernel_rfl) c1137 e1137 mix (A := A1137) fun xs r hF => by
  split at hF
  · simp only [firstP, cond_true, Option.some.injEq] at hF
    subst hF
    exact dat_of e1137 (by kernel_rfl)
  · cases hF
end Go.Sx.Pr

/- A contract by hand: a copy of a row of structs. -/
namespace Go.Sx

/-- A fresh row, handed over to the caller's context. -/
theorem fresh_rowR {cx : Cx} {h : SH} {w : World} (hg : Gam cx h w) {d : Nat → Prop} {p : Nat → Bool} {cxs : Cx} {w' : World} {h' : SH} (gr : Grow p (cxL w d) w cxs w') (hG : Gam cxs h' w') {l : Nat} {t : TypeId} {sz n : Nat} {f g : Nat → Nat → DV} {v : Value}
    (hr : SRep cxs w' (.own l) v) (ho : hget h' l = .row t sz n g) (hc : ∀ i, i < n → ∀ j, j < sz → ∀ x, DRep cxs.fz w' (g i j) x → DRep cx.fz w' (f i j) x) : ∃ cx', Grow0 cx w cx' w' ∧ SRep cx' w' (.own h.length) v ∧ Gam cx' (h ++ [.row t sz n f]) w' := by
  have hsame : ∀ b, b < w.heap.size → w'.heap[b]? = w.heap[b]? := fun b hb => gr.same b (cxL_all hb)
  obtain ⟨g1, gr1⟩ := Gam.later hg hsame gr.size gr.io
  have hobj := hG.obj l
  rw [ho] at hobj
  simp only [ORep] at hobj
  obtain ⟨o1, o2, o3, o4, o5⟩ := hobj
  have hT := Gam.take g1 (.row t sz n f) (cxs.th l) (cxs.ln l) (cxs.cp l) (cxs.nl l) (cxs.rs l) (by
    simp only [ORep, Cx.ext, upd_same]
    refine ⟨o1, o2, o3, o4, fun hn => ?_⟩
    obtain ⟨t', c', q1, q2, q3⟩ := o5 hn
    refine ⟨t', c', q1, q2, fun i hi j hj => ?_⟩
    obtain ⟨x, q4, q5⟩ := q3 i hi j hj
    exact ⟨x, q4, hc i hi j hj x q5⟩) (fun hl => by
    have hnl : cxs.nl l = false := by
      have e : hget (h ++ [SO.row t sz n f]) cx.n = .row t sz n f := by rw [hg.n]; exact hget_append_eq
      unfold liv at hl
      rw [e] at hl
      simpa [Cx.ext] using hl
    have hlv : liv cxs h' l := by simp [liv, ho, hnl]
    have hge : w.heap.size ≤ cxs.th l := by
      rcases Nat.lt_or_ge (cxs.th l) w.heap.size with h | h
      · exact absurd (gr.hd _ (cxL_all h)) (hG.own l hlv)
      · exact h
    exact ⟨hG.lt l hlv, fun hh => by have := hg.fzlt _ hh; omega, fun m hm e => by have := hg.lt m hm; omega⟩)
  refine ⟨_, gr1.trans hT.2, ?_, hT.1⟩
  simp only [SRep] at hr ⊢
  have hn := hg.n
  simp [Cx.ext, ← hn, hr.2]

/-- A nil row, handed over. -/
theorem nil_rowR {cx : Cx} {h : SH} {w w' : World} (hg : Gam cx h w) (hs : ∀ b, b < w.heap.size → w'.heap[b]? = w.heap[b]?) (hz : w.heap.size ≤ w'.heap.size) (hio : Io w w') (t : TypeId) (sz : Nat) (f : Nat → Nat → DV) :
    ∃ cx', Grow0 cx w cx' w' ∧ SRep cx' w' (.own h.length) (.slice none 0 0) ∧ Gam cx' (h ++ [.row t sz 0 f]) w' := by
  obtain ⟨g1, gr1⟩ := Gam.later hg hs hz hio
  have hT := Gam.take g1 (.row t sz 0 f) 0 0 0 true sz (by simp [ORep, Cx.ext]) (fun hl => by
    have e : hget (h ++ [SO.row t sz 0 f]) cx.n = .row t sz 0 f := by rw [hg.n]; exact hget_append_eq
    unfold liv at hl
    rw [e] at hl
    simp [Cx.ext] at hl)
  refine ⟨_, gr1.trans hT.2, ?_, hT.1⟩
  have hn := hg.n
  simp [SRep, Cx.ext, ← hn]

theorem slice_adR {cx : Cx} {h : SH} {w : World} (g : Gam cx h w) {x : SV} {u : Value} (hx : SRep cx w x u) {sz m : Nat} {f : Nat → Nat → DV} (hi : rowOf h sz x = some (m, f)) (hc : capOk x = true)
    {bb : Option Addr} {n cc : Nat} (hu : u = .slice bb n cc) : n ≤ cc ∧ (n = 0 ∨ bb = none ∨ ∃ b o, bb = some (ad b o)) := by
  unfold rowOf at hi
  split at hi
  · simp only [SRep, DRep] at hx
    obtain ⟨a, c, e, hcc, hl⟩ := hx
    rw [e] at hu
    simp only [Value.slice.injEq] at hu
    obtain ⟨rfl, rfl, rfl⟩ := hu
    refine ⟨hcc, ?_⟩
    rename_i sz' n' f'
    by_cases h0 : n' = 0
    · exact .inl h0
    · obtain ⟨b, o, e1, _⟩ := hl h0
      exact .inr (.inr ⟨b, o, e1⟩)
  · simp only [SRep, DRep] at hx
    rw [hx.1] at hu
    simp only [Value.slice.injEq] at hu
    obtain ⟨rfl, rfl, rfl⟩ := hu
    exact ⟨Nat.le_refl _, .inl rfl⟩
  · simp only [SRep, DRep] at hx
    rw [hx.1] at hu
    simp only [Value.slice.injEq] at hu
    obtain ⟨rfl, rfl, rfl⟩ := hu
    exact ⟨Nat.zero_le _, .inl rfl⟩
  · rename_i l
    have ho := g.obj l
    simp only [SRep] at hx
    split at hi
    · rename_i hg
      rw [hg] at ho
      obtain ⟨hln, hrs, hcp, hnl, hb⟩ := ho
      rw [hx.2] at hu
      simp only [Value.slice.injEq] at hu
      obtain ⟨e1, rfl, rfl⟩ := hu
      refine ⟨by omega, ?_⟩
      cases hq : cx.nl l with
      | true => rw [hq] at e1; exact .inr (.inl e1.symm)
      | false => rw [hq] at e1; exact .inr (.inr ⟨_, _, e1.symm⟩)
    · simp at hi
  · simp only [SRep] at hx
    rw [hx.2] at hu
    simp only [Value.slice.injEq] at hu
    obtain ⟨rfl, rfl, rfl⟩ := hu
    simp only [capOk] at hc
    exact ⟨Nat.le_of_ble_eq_true hc, .inr (.inr ⟨_, _, rfl⟩)⟩
  · simp at hi

def sCloneR (t sz by_ : Nat) {Ω : Type} : Spec Ω := fun args h kk => match args with
  | [x] => bif capOk x then (match rowOf h sz x with
    | some (n, f) => br (fits n by_) (kk (.own h.length) [] [] (h ++ [.row t sz n f])) none
    | none => none) else none
  | _ => none

theorem cloneR_par {t sz by_ : Nat} {Ω Ω' : Type} : SpecPar (sCloneR t sz by_ (Ω := Ω)) (sCloneR t sz by_ (Ω := Ω')) := by
  intro args h kk out hs
  unfold sCloneR at hs ⊢
  split at hs
  · rename_i x
    cases hc : capOk x with
    | false => rw [hc] at hs; simp at hs
    | true =>
      rw [hc] at hs
      simp only [cond_true] at hs ⊢
      split at hs
      · rename_i n f hi
        cases hf : fits n by_ with
        | false => rw [hf] at hs; simp [br] at hs
        | true =>
          rw [hf] at hs
          exact ⟨_, _, _, _, by simpa [br] using hs, fun k' => by simp [br]⟩
      · simp at hs
  · simp at hs

theorem cellV_of {v : Value} (h : v.oneCell' = true) : cellV v := by
  cases v <;> simp_all [cellV, Value.oneCell']

theorem cloneR_good {P : Program} {t sz by_ : Nat} (hsz : 0 < sz) {g : Nat} {fn : Func} (hf : P.funcs[g]? = some fn) (hname : (fn.name == "runtime.NumGoroutine") = false) {C : CF} (hC : coF P fn = some C) {A : Ann} {e : {Ω : Type} → Env Ω} (he : GoodE P e) (hmix : P.follows .mixedOrders = true)
    (r0 : ∀ cc, sxFn (e (Ω := SV × SH)) A C [.d (.v (.slice none 0 cc))] [] (fun r h => some (r, h)) = some (.d (.v (.slice none 0 0)), []))
    (r1 : ∀ a c, ∃ h' l q, sxFn (e (Ω := SV × SH)) A C [.d (.v (.slice (some a) 0 c))] [] (fun r h => some (r, h)) = br (fits 0 by_) (some (.own l, h')) none ∧ hget h' l = .row t sz 0 q)
    (r2 : ∀ n f, ∃ h' l q, sxFn (e (Ω := SV × SH)) A C [.d (.sl sz (n + 1) f)] [] (fun r h => some (r, h)) = br (fits (0 + (n + 1)) by_) (some (.own l, h')) none ∧ hget h' l = .row t sz (0 + (n + 1)) q ∧ ∀ i j, q i j = f i j) :
    Good1 P g (fun {Ω} => sCloneR t sz by_ (Ω := Ω)) := by
  have hbody : ∃ c, fn.body = some c := by
    unfold coF at hC
    split at hC
    · rename_i c hb; exact ⟨c, hb⟩
    · cases hC
  obtain ⟨c, hb⟩ := hbody
  have henter : ∀ (args : Array Value) (w : World), (callFunc g args).run P w = .ok (.enter g args) w := fun args w => by
    have h1 : fn.name ≠ "runtime.NumGoroutine" := by simpa using hname
    simp [callFunc, hf, h1, hb]
  refine ⟨fun Ω => ⟨henter, fun args h kk out hs => ?_⟩, fun Ω Ω' => cloneR_par⟩
  unfold sCloneR at hs
  split at hs
  · rename_i x
    cases hcap : capOk x with
    | false => rw [hcap] at hs; simp at hs
    | true =>
    rw [hcap] at hs
    simp only [cond_true] at hs
    split at hs
    · rename_i n f hi
      cases hft : fits n by_ with
      | false => rw [hft] at hs; simp [br] at hs
      | true =>
      rw [hft] at hs
      refine ⟨_, _, _, _, by simpa [br] using hs, Keeps.new h _, fun cx w vals hg ha => ?_⟩
      match vals, ha with
      | [u], ha =>
        simp only [SRepL, and_true] at ha
        obtain ⟨bb, cc, l, hS, hH⟩ := src_row (e := t) hg ha hi
        obtain ⟨hle, had⟩ := slice_adR hg ha hi hcap hS.val
        have e1 := hS.val
        have conv : ∀ {p : Nat → Bool} {d : Nat → Prop} {cxs : Cx} {w' : World}, Grow p (cxL w d) w cxs w' → ∀ b, b < w.heap.size → w'.heap[b]? = w.heap[b]? := fun gr b hb => gr.same b (cxL_all hb)
        have nm : (fun l => nmem l []) = fun _ => false := funext fun l => by simp [nmem]
        rw [nm]
        match n, e1, hle, had, hft, hi, hS, hH with
        | 0, e1, hle, had, hft, hi, hS, hH =>
          match bb, e1 with
          | none, e1 =>
            refine (fn_calls (he.ok _) hmix hf hC (r0 cc) (cxL w (fun _ => False)) w [u] (gamL w _) (by simp [SRepL, SRep, DRep, cellV, e1])).mono fun e w' ⟨v, cxs, h1, gr, hr, hG⟩ => ?_
            simp only [SRep, DRep] at hr
            obtain ⟨cx', h2, h3, h4⟩ := nil_rowR hg (conv gr) gr.size gr.io t sz f
            exact ⟨v, cx', h1, h2, by rw [hr.1]; exact h3, h4⟩
          | some a, e1 =>
            obtain ⟨h', l', q, hrun, ho⟩ := r1 a cc
            rw [hft] at hrun
            simp only [br, cond_true] at hrun
            refine (fn_calls (he.ok _) hmix hf hC hrun (cxL w (fun _ => False)) w [u] (gamL w _) (by simp [SRepL, SRep, DRep, cellV, e1])).mono fun e w' ⟨v, cxs, h1, gr, hr, hG⟩ => ?_
            obtain ⟨cx', h2, h3, h4⟩ := fresh_rowR (f := f) hg gr hG hr ho (fun i hi => by omega)
            exact ⟨v, cx', h1, h2, h3, h4⟩
        | m + 1, e1, hle, had, hft, hi, hS, hH =>
          obtain ⟨b, o, hb'⟩ : ∃ b o, bb = some (ad b o) := by
            rcases had with h | h | h
            · omega
            · have h1 := hS.nil h
              have h2 := hS.len
              rw [h1] at h2
              simp only [List.length_nil] at h2
              have : 0 < (m + 1) * sz := Nat.mul_pos (by omega) hsz
              omega
            · exact h
          subst hb'
          -- the source's cells by their values
          have hl : l.length = (m + 1) * sz := hS.len
          have hat : ∀ i, i < m + 1 → ∀ j, j < sz → ∃ v, l[i * sz + j]? = some v ∧ DRep cx.fz w (f i j) v ∧ cellV v ∧ w.cell? (ad b (o + (i * sz + j))) = some v := by
            intro i hi' j hj
            obtain ⟨v, h1, h2⟩ := hH.2.2.2 i hi' j hj
            refine ⟨v, h1, h2, cellV_of h2.one, ?_⟩
            have := hS.cell _ rfl _ _ h1
            rwa [addr_add] at this
          obtain ⟨f0, hf0⟩ : ∃ f0 : Nat → Nat → DV, ∀ i j, f0 i j = .v (l.getD (i * sz + j) undef) := ⟨_, fun _ _ => rfl⟩
          obtain ⟨h', l', q, hrun, ho, hq⟩ := r2 m f0
          rw [Nat.zero_add] at ho hrun
          rw [hft] at hrun
          simp only [br, cond_true] at hrun
          refine (fn_calls (he.ok _) hmix hf hC hrun (cxL w (fun q => q = b)) w [u] (gamL w _) (by
            simp only [SRepL, SRep, DRep, and_true]
            refine ⟨some (ad b o), cc, e1, hle, fun _ => ?_⟩
            · obtain ⟨v, _, _, _, h4⟩ := hat 0 (by omega) 0 hsz
              have hlt : b < w.heap.size := by
                simp only [World.cell?, ad] at h4
                cases hbb : w.heap[b]? with
                | none => rw [hbb] at h4; simp at h4
                | some q => exact (Array.getElem?_eq_some_iff.1 hbb).1
              refine ⟨b, o, rfl, ⟨hlt, rfl⟩, fun i hi' j hj => ?_⟩
              obtain ⟨v, h1, _, h3, h4⟩ := hat i hi' j hj
              refine ⟨v, h4, ?_⟩
              rw [hf0, List.getD_eq_getElem?_getD, h1]
              exact ⟨rfl, h3⟩)).mono fun e w' ⟨v, cxs, h1, gr, hr, hG⟩ => ?_
          obtain ⟨cx', h2, h3, h4⟩ := fresh_rowR (f := f) hg gr hG hr ho (fun i hi' j hj x hx => by
            rw [hq, hf0] at hx
            obtain ⟨v, k1, k2, k3, k4⟩ := hat i hi' j hj
            rw [List.getD_eq_getElem?_getD, k1] at hx
            simp only [DRep, Option.getD_some] at hx
            rw [hx.1]
            exact DRep.mono (fun _ h => h) (fun b hb => conv gr b (hg.fzlt b (.inl hb))) _ _ k2)
          exact ⟨v, cx', h1, h2, h3, h4⟩
      | [], ha => simp [SRepL] at ha
      | _ :: _ :: _, ha => simp [SRepL] at ha
    · simp at hs
  · simp at hs
end Go.Sx

/- A contract whose fresh result is handed over as data. -/
namespace Go.Sx

def datSpec (S : {Ω : Type} → Spec Ω) {Ω : Type} : Spec Ω := fun args h k =>
  bif mentL (fun _ => true) args then none else S args [] fun r _ sc H => match sc with
    | [] => match dat true H r with
      | some y => k y [] [] h
      | none => none
    | _ => none

theorem datGood {P : Program} {g : Nat} {S : {Ω : Type} → Spec Ω} (hS : Good1 P g S) : Good1 P g (datSpec S) := by
  refine ⟨fun Ω => ⟨(hS.ok Ω).1, fun args h k out hs => ?_⟩, fun Ω Ω' => ?_⟩
  · unfold datSpec at hs
    cases hm : mentL (fun _ => true) args with
    | true => rw [hm] at hs; cases hs
    | false =>
      rw [hm, cond_false] at hs
      obtain ⟨r, m, sc, H, h1, hC⟩ := (hS.ok Ω).2 _ _ _ _ hs
      split at h1
      · split at h1
        · rename_i y hdat
          refine ⟨_, [], [], _, h1, ⟨Nat.le_refl _, fun _ _ _ => rfl⟩, fun cx w vals hg ha => ?_⟩
          have hfz : (cxL w cx.fz).fz = cx.fz := funext fun b => propext ⟨And.right, fun q => ⟨hg.fzlt b (.inl q), q⟩⟩
          refine (hC.2 (cxL w cx.fz) w vals (gamL w _) (SRepL.noloc hfz _ _ hm ha)).mono fun e w' ⟨v, cxq, e1, gr, hr, hG⟩ => ?_
          have hsame : ∀ b, b < w.heap.size → w'.heap[b]? = w.heap[b]? := fun b hb => gr.same b (cxL_all hb)
          obtain ⟨k1, k2⟩ := fresh_data hg hsame gr.size gr.io
          have nm : (fun l => nmem l []) = fun _ => false := funext fun l => by simp [nmem]
          rw [nm]
          refine ⟨v, cxN cx w w', e1, k1, dat_rep hG (fun _ b hb => ?_) (fun l hl => ?_) _ _ _ hdat hr, k2⟩
          · rcases Nat.lt_or_ge b w.heap.size with h1 | h1
            · refine .inl ?_
              have h2 := hG.dj b hb
              rw [gr.fr] at h2
              rcases Classical.em (cx.fz b) with h3 | h3
              · exact h3
              · exact absurd ⟨h1, h3⟩ h2
            · exact .inr ⟨h1, hG.fzlt b (.inl hb)⟩
          · refine .inr ⟨?_, hG.lt l hl⟩
            rcases Nat.lt_or_ge (cxq.th l) w.heap.size with h1 | h1
            · exact absurd (gr.hd _ (cxL_all h1)) (hG.own l hl)
            · exact h1
        · cases h1
      · cases h1
  · intro args h k out hs
    unfold datSpec at hs ⊢
    cases hm : mentL (fun _ => true) args with
    | true => rw [hm] at hs; cases hs
    | false =>
      rw [hm, cond_false] at hs
      obtain ⟨r, m, sc, H, h1, h2⟩ := hS.par Ω Ω' _ _ _ _ hs
      split at h1
      · split at h1
        · rename_i y hdat
          exact ⟨_, _, _, _, h1, fun k' => by rw [cond_false]; refine (h2 _).trans ?_; simp only [hdat]⟩
        · cases h1
      · cases h1
end Go.Sx
