/- The contract of work.table: a table of functions, as data. -/
import Derived.Test.YthbknbmfcklebaaGreatV4
import Derived.Test.YthbknbmfcklebaaGreatV31
import Derived.KernelRfl
import Derived.Test.YthbknbmfcklebaaGreatRows
set_option linter.all false
set_option linter.unusedVariables false
set_option linter.unusedSimpArgs false
set_option linter.unnecessarySimpa false
namespace Go.Sx.Pr
open Go Go.Sx Go.Sx.Md Go.Proofs
set_option maxRecDepth 100000
abbrev clI (g : Nat) (x : Int) : SV := .fn (.func g) [] [.rc [I x] 0]
abbrev clF (g f : Nat) : SV := .fn (.func g) [] [.rc [fnC f] 0]
abbrev endsC (a b c : SV) : SV := .agg [a, b, c]
def TA : List SV := [endsC (fnC 57) (fnC 58) (fnC 58), endsC (fnC 57) (fnC 58) (fnC 58), endsC (fnC 57) (fnC 58) (fnC 58), endsC (fnC 57) (fnC 59) (fnC 59), endsC (fnC 57) (clI 95 73) (clI 95 73), endsC (fnC 57) (clI 95 73) (clI 95 73), endsC (fnC 57) (clI 95 73) (clI 95 73), endsC (clF 96 62) (clI 105 0) (clI 105 9), endsC (clF 96 62) (clI 105 0) (clI 105 9)]
def TG : SV := endsC (clF 96 66) (fnC 64) (fnC 64)
def TT : SV := endsC (clF 96 67) (clI 110 50) (clI 111 5)
def TB : List SV := [endsC (clF 96 70) (fnC 71) (clI 111 5), endsC (clF 96 70) (fnC 71) (clI 111 5), endsC (clF 96 70) (fnC 71) (clI 111 5), endsC (clF 96 70) (fnC 71) (clI 111 5), endsC (clF 96 70) (fnC 71) (clI 111 5), endsC (clF 96 70) (fnC 71) (fnC 71), endsC (clF 96 70) (fnC 71) (fnC 71), endsC (clF 96 70) (fnC 71) (fnC 71), endsC (clF 96 70) (clI 118 43) (clI 111 7), endsC (clF 96 70) (fnC 73) (fnC 73), endsC (clF 96 70) (fnC 74) (clI 111 7), endsC (clF 96 70) (clI 118 45) (clI 111 7), endsC (clF 96 70) (fnC 75) (fnC 75), endsC (clF 96 70) (clI 110 61) (clI 111 7)]
def tblL (give : Bool) : SV := match give with
  | true => .md ([1, 2, 3, 90, 70, 71, 72, 36, 37, 13, 14, 15, 30, 31, 32, 39, 20, 21, 22, 40, 41, 23, 24, 25, 42, 43, 46, 44, 45, 60].map kI) (TA ++ (List.replicate 7 TG ++ TB))
  | false => .md ([1, 2, 3, 90, 70, 71, 72, 36, 37, 10, 11, 12, 30, 31, 32, 33, 34, 35, 38, 20, 21, 22, 40, 41, 23, 24, 25, 42, 43, 46, 44, 45, 60].map kI) (TA ++ (List.replicate 10 TT ++ TB))
def S1136p {Ω : Type} : Spec Ω := pureSpec [.any] fun xs => match xs with | [.d (.v (.bool b))] => [(true, tblL b)] | _ => []
theorem g1136p : Good1 Tryz.prog 35 S1136p := pureGood Tryz.func35 (by kernel_rfl) c1136 e1136 mix (A := A1136) fun xs r hF => by
  split at hF
  · rename_i b
    simp only [firstP, cond_true, Option.some.injEq] at hF
    subst hF
    cases b with
    | true => exact dat_of e1136 (by kernel_rfl)
    | false => exact dat_of e1136 (by kernel_rfl)
  · cases hF
end Go.Sx.Pr

namespace Go.Sx.Pr
open Go Go.Sx Go.Proofs
set_option maxRecDepth 100000
/-- (coatcheck/plan.Plan).Word -/
def C1082 : CF := ⟨3, [(6, none)],
 .seq (.reg false [⟨some 3, .box 64 8 (.t 0), none, 0⟩,
   ⟨some 6, .mv (.c (.d (.v (.int .i64 0)))), none, 0⟩])
 (.seq (.seq (.reg false [⟨some 8, .ld 8 true (.t 3), none, 0⟩,
   ⟨some 9, .mv (.t 1), none, 0⟩,
   ⟨some 10, .call (.c (.fn (.func 87) [] [])) [.t 8, .t 9], none, 0⟩,
   ⟨some 7, .mv (.t 10), none, 0⟩])
 (.seq (.reg false [⟨some 11, .mv (.t 7), none, 0⟩,
   ⟨some 12, .bin .geq (.t 11) (.c (.d (.v (.int .i64 0)))), none, 0⟩,
   ⟨some 13, .mv (.t 12), none, 0⟩,
   ⟨some 14, .mv (.t 2), some (13, true), 0⟩,
   ⟨some 15, .bin .geq (.t 14) (.c (.d (.v (.int .i64 0)))), some (13, true), 0⟩,
   ⟨some 16, .pick (.t 13) (.t 15) (.c (.d (.v (.bool false)))), none, 0⟩,
   ⟨some 17, .mv (.t 16), none, 0⟩,
   ⟨some 18, .mv (.t 2), some (17, true), 0⟩,
   ⟨some 19, .fa 0 (.t 3), some (17, true), 0⟩,
   ⟨some 20, .fa 3 (.t 19), some (17, true), 0⟩,
   ⟨some 21, .ld 1 false (.t 20), some (17, true), 0⟩,
   ⟨some 22, .bin .lss (.t 18) (.t 21), some (17, true), 0⟩,
   ⟨some 23, .pick (.t 17) (.t 22) (.c (.d (.v (.bool false)))), none, 0⟩])
 (.cond 23 (.seq (.reg false [⟨some 24, .mv (.t 7), none, 0⟩,
     ⟨some 25, .bin .add (.t 24) (.c (.d (.v (.int .i64 1)))), none, 0⟩,
     ⟨some 26, .mv (.t 2), none, 0⟩,
     ⟨some 27, .bin .add (.t 25) (.t 26), none, 0⟩,
     ⟨some 6, .mv (.t 27), none, 0⟩])
   (.ret))
   (.skip))))
 (.seq (.reg false [⟨some 6, .mv (.c (.d (.v (.int .i64 (-1))))), none, 0⟩])
 (.ret)))⟩
theorem c1082 : coF Tryz.prog Tryz.f54 = some C1082 := by kernel_rfl
def A1082 : Ann := { keep := [0, 1, 2, 3, 6, 7, 23], live := [] }
def E1082 {Ω : Type} : Env Ω := econs 87 S117 (enil)
theorem e1082 : GoodE Tryz.prog E1082 := GoodE.cons g117 (GoodE.nil)
def S1082 {Ω : Type} : Spec Ω := inl E1082 A1082 C1082 false
theorem g1082 : Good1 Tryz.prog 54 S1082 := Good1.inl e1082 mix Tryz.func54 (by kernel_rfl) c1082 A1082 false
def K1135_1 : CC := .seq (.reg false [⟨some 116, .ld 33 true (.t 3), none, 0⟩,
   ⟨none, .st 33 (.t 4) (.t 116), none, 0⟩,
   ⟨some 5, .mv (.c (.d (.v (.bool true)))), none, 0⟩])
 (.ret)
def K1135_2 : CC := .seq (.reg false [⟨some 12, .mv (.t 0), none, 0⟩,
   ⟨some 13, .call (.c (.fn (.func 49) [] [])) [.t 12], none, 0⟩])
 (.seq (.reg true [⟨some 14, .ld 33 true (.t 3), none, 0⟩,
   ⟨some 15, .mv (.t 0), none, 0⟩,
   ⟨some 16, .call (.c (.fn (.func 52) [] [])) [.t 15, .c (.d (.v (.int .i64 0)))], none, 2⟩,
   ⟨some 17, .call (.c (.fn (.func 51) [] [])) [.t 14, .t 16], none, 7⟩,
   ⟨some 18, .call (.c (.fn (.func 50) [] [])) [.t 17], none, 15⟩,
   ⟨none, .st 33 (.t 4) (.t 18), none, 31⟩,
   ⟨some 5, .mv (.c (.d (.v (.bool true)))), none, 63⟩])
 (.ret))
def K1135_3 : CC := .seq (.reg false [⟨some 42, .fa 28 (.t 3), none, 0⟩,
   ⟨some 43, .ld 1 false (.t 42), none, 0⟩,
   ⟨some 44, .bin .add (.t 43) (.c (.d (.v (.int .i64 1)))), none, 0⟩,
   ⟨some 45, .fa 28 (.t 3), none, 0⟩,
   ⟨none, .st 1 (.t 45) (.t 44), none, 0⟩])
 (.seq (.reg true [⟨some 46, .fa 28 (.t 3), none, 0⟩,
   ⟨some 47, .ld 1 false (.t 46), none, 1⟩,
   ⟨some 48, .mv (.t 0), none, 0⟩,
   ⟨some 49, .nilc (.t 48), none, 4⟩,
   ⟨some 50, .fa 0 (.t 49), none, 12⟩,
   ⟨some 51, .fa 0 (.t 50), none, 28⟩,
   ⟨some 52, .fa 3 (.t 51), none, 60⟩,
   ⟨some 53, .ld 1 false (.t 52), none, 124⟩,
   ⟨some 54, .bin .geq (.t 47) (.t 53), none, 255⟩])
 (.cond 54 (.seq (.reg false [⟨some 55, .fa 0 (.t 3), none, 0⟩,
     ⟨none, .st 1 (.t 55) (.c (.d (.v (.int .i64 20)))), none, 0⟩])
   (.seq (.reg false [⟨some 56, .fa 1 (.t 3), none, 0⟩,
     ⟨some 57, .fa 0 (.t 56), none, 0⟩,
     ⟨some 58, .ld 1 false (.t 57), none, 0⟩,
     ⟨some 59, .eq .int false (.t 58) (.c (.d (.v (.int .i64 5)))), none, 0⟩])
   (.cond 59 (.reg false [⟨some 60, .fa 0 (.t 3), none, 0⟩,
       ⟨none, .st 1 (.t 60) (.c (.d (.v (.int .i64 44)))), none, 0⟩])
     (.skip))))
   (.skip)))
def K1135_4 : CC := .reg true [⟨some 23, .mv (.t 0), none, 0⟩,
   ⟨some 24, .mv (.t 0), none, 0⟩,
   ⟨some 25, .nilc (.t 24), none, 2⟩,
   ⟨some 26, .fa 0 (.t 25), none, 6⟩,
   ⟨some 27, .ld 8 true (.t 26), none, 14⟩,
   ⟨some 28, .fa 18 (.t 3), none, 0⟩,
   ⟨some 29, .ld 1 false (.t 28), none, 32⟩,
   ⟨some 30, .bin .sub (.t 29) (.c (.d (.v (.int .i64 1)))), none, 96⟩,
   ⟨some 31, .fa 28 (.t 3), none, 0⟩,
   ⟨some 32, .ld 1 false (.t 31), none, 256⟩,
   ⟨some 33, .call (.c (.fn (.func 54) [] [])) [.t 27, .t 30, .t 32], none, 1022⟩,
   ⟨some 34, .fa 1 (.t 3), none, 0⟩,
   ⟨some 35, .fa 2 (.t 34), none, 2048⟩,
   ⟨some 36, .ld 1 false (.t 35), none, 6144⟩,
   ⟨some 37, .fa 28 (.t 3), none, 0⟩,
   ⟨some 38, .ld 1 false (.t 37), none, 16384⟩,
   ⟨some 39, .conv .u64 (.t 38), none, 49152⟩,
   ⟨some 40, .bin .add (.t 36) (.t 39), none, 129024⟩,
   ⟨some 41, .call (.c (.fn (.func 53) [] [])) [.t 23, .t 33, .t 40], none, 262143⟩]
def K1135_5 : CC := .reg false [⟨some 21, .mv (.t 0), none, 0⟩,
   ⟨some 22, .call (.c (.fn (.func 49) [] [])) [.t 21], none, 0⟩]
def K1135_6 : CC := .seq (.seq (.reg false [⟨some 104, .fa 0 (.t 3), none, 0⟩,
   ⟨some 105, .ld 1 false (.t 104), none, 0⟩,
   ⟨some 106, .eq .int false (.t 105) (.c (.d (.v (.int .i64 62)))), none, 0⟩])
 (.cond 106 (.seq (.reg false [⟨some 107, .fa 0 (.t 3), none, 0⟩,
     ⟨none, .st 1 (.t 107) (.c (.d (.v (.int .i64 0)))), none, 0⟩])
   (.exit 0))
   (.skip)))
 (.seq (.seq (.reg false [⟨some 108, .fa 8 (.t 3), none, 0⟩,
   ⟨some 109, .ld 1 false (.t 108), none, 0⟩])
 (.cond 109 (.reg false [⟨some 110, .fa 21 (.t 3), none, 0⟩,
     ⟨some 111, .ld 1 false (.t 110), none, 0⟩,
     ⟨some 112, .fa 22 (.t 3), none, 0⟩,
     ⟨none, .st 1 (.t 112) (.t 111), none, 0⟩])
   (.skip)))
 (.seq (.reg false [⟨some 113, .fa 21 (.t 3), none, 0⟩,
   ⟨none, .st 1 (.t 113) (.c (.d (.v (.int .i64 0)))), none, 0⟩])
 (.reg false [⟨some 114, .ld 33 true (.t 3), none, 0⟩,
   ⟨some 115, .call (.c (.fn (.func 50) [] [])) [.t 114], none, 0⟩,
   ⟨none, .st 33 (.t 3) (.t 115), none, 0⟩])))
def K1135_7 : CC := .seq (.reg false [⟨some 91, .fa 28 (.t 3), none, 0⟩,
   ⟨some 92, .ld 1 false (.t 91), none, 0⟩,
   ⟨some 93, .bin .add (.t 92) (.c (.d (.v (.int .i64 1)))), none, 0⟩,
   ⟨some 94, .fa 28 (.t 3), none, 0⟩,
   ⟨none, .st 1 (.t 94) (.t 93), none, 0⟩])
 (.seq (.reg true [⟨some 95, .fa 28 (.t 3), none, 0⟩,
   ⟨some 96, .ld 1 false (.t 95), none, 1⟩,
   ⟨some 97, .mv (.t 0), none, 0⟩,
   ⟨some 98, .nilc (.t 97), none, 4⟩,
   ⟨some 99, .fa 0 (.t 98), none, 12⟩,
   ⟨some 100, .fa 0 (.t 99), none, 28⟩,
   ⟨some 101, .fa 3 (.t 100), none, 60⟩,
   ⟨some 102, .ld 1 false (.t 101), none, 124⟩,
   ⟨some 103, .bin .lss (.t 96) (.t 102), none, 255⟩])
 (.cond 103 (.exit 0)
   (.skip)))
def K1135_8 : CC := .reg true [⟨some 75, .fa 29 (.t 3), none, 0⟩,
   ⟨some 76, .ld 1 false (.t 75), none, 1⟩,
   ⟨some 77, .mv (.t 0), none, 0⟩,
   ⟨some 78, .mv (.t 0), none, 0⟩,
   ⟨some 79, .nilc (.t 78), none, 8⟩,
   ⟨some 80, .fa 0 (.t 79), none, 24⟩,
   ⟨some 81, .ld 8 true (.t 80), none, 56⟩,
   ⟨some 82, .mv (.t 6), none, 0⟩,
   ⟨some 83, .fa 28 (.t 3), none, 0⟩,
   ⟨some 84, .ld 1 false (.t 83), none, 256⟩,
   ⟨some 85, .call (.c (.fn (.func 54) [] [])) [.t 81, .t 82, .t 84], none, 1016⟩,
   ⟨some 86, .call (.c (.fn (.func 52) [] [])) [.t 77, .t 85], none, 2044⟩,
   ⟨some 87, .bsl 22 1 1 [.d (.v (.int .u64 0))] [(0, 1, .t 86)], none, 4092⟩,
   ⟨some 88, .bsl 31 1 2 [.d (.v (.slice none 0 0))] [(0, 1, .t 76), (1, 1, .t 87)], none, 8191⟩,
   ⟨some 89, .call (.c (.fn (.func 55) [] [])) [.t 88], none, 16383⟩,
   ⟨some 90, .fa 29 (.t 3), none, 32767⟩,
   ⟨none, .st 1 (.t 90) (.t 89), none, 65535⟩]
def K1135_9 : CC := .seq (.reg false [⟨some 69, .fa 0 (.t 3), none, 0⟩,
   ⟨some 70, .ld 1 false (.t 69), none, 0⟩,
   ⟨some 71, .eq .int false (.t 70) (.c (.d (.v (.int .i64 62)))), none, 0⟩])
 (.cond 71 (.reg false [⟨some 72, .fa 22 (.t 3), none, 0⟩,
     ⟨some 73, .ld 1 false (.t 72), none, 0⟩,
     ⟨some 74, .bin .sub (.t 73) (.c (.d (.v (.int .i64 1)))), none, 0⟩,
     ⟨some 6, .mv (.t 74), none, 0⟩])
   (.skip))
def K1135_10 : CC := .reg false [⟨some 66, .fa 21 (.t 3), none, 0⟩,
   ⟨some 67, .ld 1 false (.t 66), none, 0⟩,
   ⟨some 68, .bin .sub (.t 67) (.c (.d (.v (.int .i64 1)))), none, 0⟩,
   ⟨some 6, .mv (.t 68), none, 0⟩]
def K1135_11 : CC := .reg false [⟨some 64, .mv (.t 0), none, 0⟩,
   ⟨some 65, .call (.c (.fn (.func 49) [] [])) [.t 64], none, 0⟩]
def K1135_12 : CC := .seq (.reg false [⟨some 9, .ld 33 true (.t 3), none, 0⟩,
   ⟨none, .st 33 (.t 4) (.t 9), none, 0⟩,
   ⟨some 5, .mv (.c (.d (.v (.bool false)))), none, 0⟩])
 (.ret)
def K1135_13 : CC := .seq (.reg false [⟨some 62, .eq .int false (.t 8) (.c (.d (.v (.int .i64 61)))), none, 0⟩,
   ⟨some 61, .mv (.t 62), none, 0⟩])
 (.cond 61 (.skip)
   (.reg false [⟨some 63, .eq .int false (.t 8) (.c (.d (.v (.int .i64 62)))), none, 0⟩,
     ⟨some 61, .mv (.t 63), none, 0⟩]))
def K1135_14 : CC := .reg false [⟨some 20, .eq .int false (.t 8) (.c (.d (.v (.int .i64 50)))), none, 0⟩,
   ⟨some 19, .mv (.t 20), none, 0⟩]
def K1135_15 : CC := .reg false [⟨some 11, .eq .int false (.t 8) (.c (.d (.v (.int .i64 73)))), none, 0⟩,
   ⟨some 10, .mv (.t 11), none, 0⟩]
def K1135_16 : CC := .reg false [⟨some 7, .fa 0 (.t 3), none, 0⟩,
   ⟨some 8, .ld 1 false (.t 7), none, 0⟩]
def K1135_17 : CC := .reg false [⟨some 3, .box 34 33 (.t 1), none, 0⟩,
   ⟨some 4, .newc 34 [.d (.v (.int .i64 0)), .d (.v (.int .i64 0)), .d (.v (.int .u64 0)), .d (.v (.int .u64 0)), .d (.v (.int .i64 0)), .d (.v (.bool false)), .d (.v (.int .i64 0)), .d (.v (.int .i64 0)), .d (.v (.bool false)), .d (.v (.int .u64 0)), .d (.v (.slice none 0 0)), .d (.v (.int .u64 0)), .d (.v (.slice none 0 0)), .d (.v (.int .u64 0)), .d (.v (.slice none 0 0)), .d (.v (.int .u64 0)), .d (.v (.slice none 0 0)), .d (.v (.slice none 0 0)), .d (.v (.int .i64 0)), .d (.v (.int .i64 0)), .d (.v (.int .i64 0)), .d (.v (.int .i64 0)), .d (.v (.int .i64 0)), .d (.v (.int .u64 0)), .d (.v (.int .u64 0)), .d (.v (.int .u64 0)), .d (.v (.int .u64 0)), .d (.v (.int .u64 0)), .d (.v (.int .i64 0)), .d (.v (.slice none 0 0)), .d (.v (.int .u64 0)), .d (.v (.int .i64 0)), .d (.v (.bool false))], none, 0⟩,
   ⟨some 5, .mv (.c (.d (.v (.bool false)))), none, 0⟩]
/-- coatcheck/work.own -/
def C1135 : CF := ⟨2, [(4, some (33, true)), (5, none)],
 .seq K1135_17 (.seq (.seq K1135_16 (.block 0 (.seq K1135_15 (.cond 10 K1135_2 (.seq K1135_14 (.cond 19 (.seq K1135_5 (.seq K1135_4 K1135_3)) (.seq K1135_13 (.cond 61 (.seq K1135_11 (.seq K1135_10 (.seq K1135_9 (.seq K1135_8 (.seq K1135_7 K1135_6))))) K1135_12)))))))) K1135_1)⟩
theorem c1135 : coF Tryz.prog Tryz.f34 = some C1135 := by kernel_rfl
def A1135 : Ann := { keep := [0, 1, 3, 4, 5, 6, 8, 10, 19, 54, 59, 61, 71, 103, 106, 109], live := [], kc := [61] }
def E1135 {Ω : Type} : Env Ω := econs 49 S29m (econs 50 S1139 (econs 51 S1140 (econs 52 S21m (econs 53 S23m (econs 54 S1082 (econs 55 S1141 (enil)))))))
theorem e1135 : GoodE Tryz.prog E1135 := GoodE.cons g29m (GoodE.cons g1139 (GoodE.cons g1140 (GoodE.cons g21m (GoodE.cons g23m (GoodE.cons g1082 (GoodE.cons g1141 (GoodE.nil)))))))
def S1135 {Ω : Type} : Spec Ω := inl E1135 A1135 C1135 false
theorem g1135 : Good1 Tryz.prog 34 S1135 := Good1.inl e1135 mix Tryz.func34 (by kernel_rfl) c1135 A1135 false
def K1126_1 : CC := .seq (.seq (.reg false [⟨some 47, .mv (.t 12), none, 0⟩])
 (.block 0 (.seq (.reg false [⟨some 49, .eq .int false (.t 47) (.c (.d (.v (.int .i64 1)))), none, 0⟩,
     ⟨some 48, .mv (.t 49), none, 0⟩])
   (.cond 48 (.reg false [⟨some 50, .fa 1 (.t 10), none, 0⟩,
       ⟨some 51, .ld 1 false (.t 50), none, 0⟩,
       ⟨some 52, .mv (.t 0), none, 0⟩,
       ⟨some 53, .ld 33 true (.t 5), none, 0⟩,
       ⟨some 54, .call (.t 51) [.t 52, .t 53], none, 0⟩,
       ⟨none, .st 33 (.t 5) (.t 54), none, 0⟩])
     (.seq (.reg false [⟨some 56, .eq .int false (.t 47) (.c (.d (.v (.int .i64 2)))), none, 0⟩,
       ⟨some 55, .mv (.t 56), none, 0⟩])
     (.cond 55 (.reg false [⟨some 57, .fa 2 (.t 10), none, 0⟩,
         ⟨some 58, .ld 1 false (.t 57), none, 0⟩,
         ⟨some 59, .mv (.t 0), none, 0⟩,
         ⟨some 60, .ld 33 true (.t 5), none, 0⟩,
         ⟨some 61, .call (.t 58) [.t 59, .t 60], none, 0⟩,
         ⟨none, .st 33 (.t 5) (.t 61), none, 0⟩])
       (.skip)))))))
 (.seq (.reg false [⟨some 62, .ld 33 true (.t 5), none, 0⟩,
   ⟨none, .st 33 (.t 6) (.t 62), none, 0⟩,
   ⟨some 7, .mv (.c (.d (.v (.bool true)))), none, 0⟩])
 (.ret))
def K1126_2 : CC := .reg false [⟨some 38, .fa 0 (.t 10), none, 0⟩,
   ⟨some 39, .ld 1 false (.t 38), none, 0⟩,
   ⟨some 40, .mv (.t 0), none, 0⟩,
   ⟨some 41, .mv (.t 1), none, 0⟩,
   ⟨some 42, .ld 33 true (.t 5), none, 0⟩,
   ⟨some 43, .call (.t 39) [.t 40, .t 41, .t 42], none, 0⟩,
   ⟨some 37, .mv (.t 43), none, 0⟩,
   ⟨some 44, .ext 0 (.t 37), none, 0⟩,
   ⟨some 45, .ext 1 (.t 37), none, 0⟩,
   ⟨some 46, .ext 2 (.t 37), none, 0⟩,
   ⟨none, .st 33 (.t 5) (.t 44), none, 0⟩,
   ⟨some 12, .mv (.t 45), none, 0⟩,
   ⟨some 13, .mv (.t 46), none, 0⟩]
def K1126_3 : CC := .seq (.reg false [⟨some 34, .mv (.t 11), none, 0⟩,
   ⟨some 35, .un .not (.t 34), none, 0⟩])
 (.cond 35 (.seq (.reg false [⟨some 36, .ld 33 true (.t 5), none, 0⟩,
     ⟨none, .st 33 (.t 6) (.t 36), none, 0⟩,
     ⟨some 7, .mv (.c (.d (.v (.bool false)))), none, 0⟩])
   (.ret))
   (.skip))
def K1126_4 : CC := .reg true [⟨some 26, .fa 32 (.t 5), none, 0⟩,
   ⟨some 27, .ld 1 false (.t 26), none, 1⟩,
   ⟨some 28, .call (.c (.fn (.func 35) [] [])) [.t 27], none, 3⟩,
   ⟨some 29, .fa 0 (.t 5), none, 0⟩,
   ⟨some 30, .ld 1 false (.t 29), none, 8⟩,
   ⟨some 31, .lku 0 (.agg [.d (.v (.nilFunc)), .d (.v (.nilFunc)), .d (.v (.nilFunc))]) true (.t 28) (.t 30), none, 31⟩,
   ⟨some 25, .mv (.t 31), none, 63⟩,
   ⟨some 32, .ext 0 (.t 25), none, 127⟩,
   ⟨some 33, .ext 1 (.t 25), none, 127⟩,
   ⟨some 10, .newc 73 [.d (.v (.nilFunc)), .d (.v (.nilFunc)), .d (.v (.nilFunc))], none, 0⟩,
   ⟨none, .st 3 (.t 10) (.t 32), none, 767⟩,
   ⟨some 11, .mv (.t 33), none, 2047⟩]
def K1126_5 : CC := .seq (.reg false [⟨some 18, .mv (.t 0), none, 0⟩,
   ⟨some 19, .ld 33 true (.t 5), none, 0⟩,
   ⟨some 20, .call (.c (.fn (.func 34) [] [])) [.t 18, .t 19], none, 0⟩,
   ⟨some 17, .mv (.t 20), none, 0⟩,
   ⟨some 21, .ext 0 (.t 17), none, 0⟩,
   ⟨some 22, .ext 1 (.t 17), none, 0⟩,
   ⟨some 8, .newc 34 [.d (.v (.int .i64 0)), .d (.v (.int .i64 0)), .d (.v (.int .u64 0)), .d (.v (.int .u64 0)), .d (.v (.int .i64 0)), .d (.v (.bool false)), .d (.v (.int .i64 0)), .d (.v (.int .i64 0)), .d (.v (.bool false)), .d (.v (.int .u64 0)), .d (.v (.slice none 0 0)), .d (.v (.int .u64 0)), .d (.v (.slice none 0 0)), .d (.v (.int .u64 0)), .d (.v (.slice none 0 0)), .d (.v (.int .u64 0)), .d (.v (.slice none 0 0)), .d (.v (.slice none 0 0)), .d (.v (.int .i64 0)), .d (.v (.int .i64 0)), .d (.v (.int .i64 0)), .d (.v (.int .i64 0)), .d (.v (.int .i64 0)), .d (.v (.int .u64 0)), .d (.v (.int .u64 0)), .d (.v (.int .u64 0)), .d (.v (.int .u64 0)), .d (.v (.int .u64 0)), .d (.v (.int .i64 0)), .d (.v (.slice none 0 0)), .d (.v (.int .u64 0)), .d (.v (.int .i64 0)), .d (.v (.bool false))], none, 0⟩,
   ⟨none, .st 33 (.t 8) (.t 21), none, 0⟩,
   ⟨some 9, .mv (.t 22), none, 0⟩])
 (.seq (.reg false [⟨some 23, .mv (.t 9), none, 0⟩])
 (.cond 23 (.seq (.reg false [⟨some 24, .ld 33 true (.t 8), none, 0⟩,
     ⟨none, .st 33 (.t 6) (.t 24), none, 0⟩,
     ⟨some 7, .mv (.c (.d (.v (.bool true)))), none, 0⟩])
   (.ret))
   (.skip)))
def K1126_6 : CC := .seq (.reg false [⟨some 14, .mv (.t 0), none, 0⟩,
   ⟨some 15, .eq .ptr false (.t 14) (.c (.d (.v (.pointer none)))), none, 0⟩])
 (.cond 15 (.seq (.reg false [⟨some 16, .ld 33 true (.t 5), none, 0⟩,
     ⟨none, .st 33 (.t 6) (.t 16), none, 0⟩,
     ⟨some 7, .mv (.c (.d (.v (.bool false)))), none, 0⟩])
   (.ret))
   (.skip))
def K1126_7 : CC := .reg false [⟨some 5, .box 34 33 (.t 2), none, 0⟩,
   ⟨some 6, .newc 34 [.d (.v (.int .i64 0)), .d (.v (.int .i64 0)), .d (.v (.int .u64 0)), .d (.v (.int .u64 0)), .d (.v (.int .i64 0)), .d (.v (.bool false)), .d (.v (.int .i64 0)), .d (.v (.int .i64 0)), .d (.v (.bool false)), .d (.v (.int .u64 0)), .d (.v (.slice none 0 0)), .d (.v (.int .u64 0)), .d (.v (.slice none 0 0)), .d (.v (.int .u64 0)), .d (.v (.slice none 0 0)), .d (.v (.int .u64 0)), .d (.v (.slice none 0 0)), .d (.v (.slice none 0 0)), .d (.v (.int .i64 0)), .d (.v (.int .i64 0)), .d (.v (.int .i64 0)), .d (.v (.int .i64 0)), .d (.v (.int .i64 0)), .d (.v (.int .u64 0)), .d (.v (.int .u64 0)), .d (.v (.int .u64 0)), .d (.v (.int .u64 0)), .d (.v (.int .u64 0)), .d (.v (.int .i64 0)), .d (.v (.slice none 0 0)), .d (.v (.int .u64 0)), .d (.v (.int .i64 0)), .d (.v (.bool false))], none, 0⟩,
   ⟨some 7, .mv (.c (.d (.v (.bool false)))), none, 0⟩]
/-- coatcheck/work.Step -/
def C1126 : CF := ⟨3, [(6, some (33, true)), (7, none)],
 .seq K1126_7 (.seq K1126_6 (.seq K1126_5 (.seq K1126_4 (.seq K1126_3 (.seq K1126_2 K1126_1)))))⟩
theorem c1126 : coF Tryz.prog Tryz.f18 = some C1126 := by kernel_rfl
def A1126 : Ann := { keep := [0, 1, 2, 5, 6, 7, 8, 9, 10, 11, 12, 15, 23, 35, 47, 48, 55], live := [], pu := [35] }
def E1126 {Ω : Type} : Env Ω := econs 34 S1135 (econs 35 S1136p (econs 57 S54m (econs 58 S1143 (econs 59 S1144 (econs 64 S1148 (econs 71 S1152 (econs 73 S1154 (econs 74 S1155 (econs 75 S1156 (econs 95 S1159 (econs 96 S1160 (econs 105 S1161 (econs 110 S1163 (econs 111 S1164 (econs 118 S1166 (enil))))))))))))))))
theorem e1126 : GoodE Tryz.prog E1126 := GoodE.cons g1135 (GoodE.cons g1136p (GoodE.cons g54m (GoodE.cons g1143 (GoodE.cons g1144 (GoodE.cons g1148 (GoodE.cons g1152 (GoodE.cons g1154 (GoodE.cons g1155 (GoodE.cons g1156 (GoodE.cons g1159 (GoodE.cons g1160 (GoodE.cons g1161 (GoodE.cons g1163 (GoodE.cons g1164 (GoodE.cons g1166 (GoodE.nil))))))))))))))))
def S1126 {Ω : Type} : Spec Ω := inl E1126 A1126 C1126 false
theorem g1126 : Good1 Tryz.prog 18 S1126 := Good1.inl e1126 mix Tryz.func18 (by kernel_rfl) c1126 A1126 false
/-- coatcheck/work.Idle -/
def C1125 : CF := ⟨1, [(2, none)],
 .seq (.reg false [⟨some 1, .box 34 33 (.t 0), none, 0⟩,
   ⟨some 2, .mv (.c (.d (.v (.bool false)))), none, 0⟩])
 (.seq (.reg false [⟨some 3, .fa 0 (.t 1), none, 0⟩,
   ⟨some 4, .ld 1 false (.t 3), none, 0⟩,
   ⟨some 5, .eq .int false (.t 4) (.c (.d (.v (.int .i64 0)))), none, 0⟩,
   ⟨some 2, .mv (.t 5), none, 0⟩])
 (.ret))⟩
theorem c1125 : coF Tryz.prog Tryz.f17 = some C1125 := by kernel_rfl
def A1125 : Ann := { keep := [0, 1, 2], live := [] }
def E1125 {Ω : Type} : Env Ω := enil
theorem e1125 : GoodE Tryz.prog E1125 := GoodE.nil
def S1125 {Ω : Type} : Spec Ω := inl E1125 A1125 C1125 false
theorem g1125 : Good1 Tryz.prog 17 S1125 := Good1.inl e1125 mix Tryz.func17 (by kernel_rfl) c1125 A1125 false
def K1119_1 : CC := .seq (.reg false [⟨some 91, .ld 33 true (.t 5), none, 0⟩,
   ⟨none, .st 33 (.t 8) (.t 91), none, 0⟩])
 (.ret)
def K1119_2 : CC := .seq (.seq (.reg false [⟨some 89, .ld 33 true (.t 5), none, 0⟩,
   ⟨some 90, .call (.c (.fn (.func 22) [] [])) [.t 89, .c (.d (.v (.int .i64 3)))], none, 0⟩,
   ⟨none, .st 33 (.t 8) (.t 90), none, 0⟩])
 (.ret))
 (.exit 0)
def K1119_3 : CC := .seq (.seq (.seq (.reg false [⟨some 76, .fa 3 (.t 6), none, 0⟩,
   ⟨some 77, .ld 1 false (.t 76), none, 0⟩,
   ⟨some 78, .bin .lss (.t 77) (.c (.d (.v (.int .i64 0)))), none, 0⟩,
   ⟨some 79, .mv (.t 78), none, 0⟩,
   ⟨some 80, .fa 3 (.t 6), some (79, false), 0⟩,
   ⟨some 81, .ld 1 false (.t 80), some (79, false), 0⟩,
   ⟨some 82, .fa 1 (.t 4), some (79, false), 0⟩,
   ⟨some 83, .ld 1 false (.t 82), some (79, false), 0⟩,
   ⟨some 84, .bin .geq (.t 81) (.t 83), some (79, false), 0⟩,
   ⟨some 85, .pick (.t 79) (.c (.d (.v (.bool true)))) (.t 84), none, 0⟩])
 (.cond 85 (.seq (.reg false [⟨some 86, .ld 33 true (.t 5), none, 0⟩,
     ⟨some 87, .call (.c (.fn (.func 22) [] [])) [.t 86, .c (.d (.v (.int .i64 8)))], none, 0⟩,
     ⟨none, .st 33 (.t 8) (.t 87), none, 0⟩])
   (.ret))
   (.skip)))
 (.reg false [⟨some 88, .fa 0 (.t 5), none, 0⟩,
   ⟨none, .st 1 (.t 88) (.c (.d (.v (.int .i64 36)))), none, 0⟩]))
 (.exit 0)
def K1119_4 : CC := .seq (.reg false [⟨some 75, .fa 0 (.t 5), none, 0⟩,
   ⟨none, .st 1 (.t 75) (.c (.d (.v (.int .i64 70)))), none, 0⟩])
 (.exit 0)
def K1119_5 : CC := .seq (.seq (.seq (.reg false [⟨some 64, .fa 8 (.t 5), none, 0⟩,
   ⟨some 65, .ld 1 false (.t 64), none, 0⟩,
   ⟨some 66, .un .not (.t 65), none, 0⟩,
   ⟨some 67, .mv (.t 66), none, 0⟩,
   ⟨some 68, .fa 22 (.t 5), some (67, false), 0⟩,
   ⟨some 69, .ld 1 false (.t 68), some (67, false), 0⟩,
   ⟨some 70, .eq .int false (.t 69) (.c (.d (.v (.int .i64 0)))), some (67, false), 0⟩,
   ⟨some 71, .pick (.t 67) (.c (.d (.v (.bool true)))) (.t 70), none, 0⟩])
 (.cond 71 (.seq (.reg false [⟨some 72, .ld 33 true (.t 5), none, 0⟩,
     ⟨some 73, .call (.c (.fn (.func 22) [] [])) [.t 72, .c (.d (.v (.int .i64 9)))], none, 0⟩,
     ⟨none, .st 33 (.t 8) (.t 73), none, 0⟩])
   (.ret))
   (.skip)))
 (.reg false [⟨some 74, .fa 0 (.t 5), none, 0⟩,
   ⟨none, .st 1 (.t 74) (.c (.d (.v (.int .i64 62)))), none, 0⟩]))
 (.exit 0)
def K1119_6 : CC := .seq (.seq (.seq (.reg false [⟨some 59, .fa 8 (.t 5), none, 0⟩,
   ⟨some 60, .ld 1 false (.t 59), none, 0⟩])
 (.cond 60 (.seq (.reg false [⟨some 61, .ld 33 true (.t 5), none, 0⟩,
     ⟨some 62, .call (.c (.fn (.func 24) [] [])) [.t 61], none, 0⟩,
     ⟨none, .st 33 (.t 8) (.t 62), none, 0⟩])
   (.ret))
   (.skip)))
 (.reg false [⟨some 63, .fa 0 (.t 5), none, 0⟩,
   ⟨none, .st 1 (.t 63) (.c (.d (.v (.int .i64 1)))), none, 0⟩]))
 (.exit 0)
def K1119_7 : CC := .seq (.reg false [⟨some 53, .ld 8 true (.t 4), none, 0⟩,
   ⟨some 54, .mv (.t 3), none, 0⟩,
   ⟨some 55, .call (.c (.fn (.func 23) [] [])) [.t 53, .t 54], none, 0⟩,
   ⟨some 56, .un .not (.t 55), none, 0⟩])
 (.cond 56 (.seq (.reg false [⟨some 57, .ld 33 true (.t 5), none, 0⟩,
     ⟨some 58, .call (.c (.fn (.func 22) [] [])) [.t 57, .c (.d (.v (.int .i64 8)))], none, 0⟩,
     ⟨none, .st 33 (.t 8) (.t 58), none, 0⟩])
   (.ret))
   (.skip))
def K1119_8 : CC := .seq (.seq (.seq (.reg false [⟨some 47, .fa 8 (.t 5), none, 0⟩,
   ⟨some 48, .ld 1 false (.t 47), none, 0⟩,
   ⟨some 49, .un .not (.t 48), none, 0⟩])
 (.cond 49 (.seq (.reg false [⟨some 50, .ld 33 true (.t 5), none, 0⟩,
     ⟨some 51, .call (.c (.fn (.func 22) [] [])) [.t 50, .c (.d (.v (.int .i64 9)))], none, 0⟩,
     ⟨none, .st 33 (.t 8) (.t 51), none, 0⟩])
   (.ret))
   (.skip)))
 (.reg false [⟨some 52, .fa 0 (.t 5), none, 0⟩,
   ⟨none, .st 1 (.t 52) (.c (.d (.v (.int .i64 90)))), none, 0⟩]))
 (.exit 0)
def K1119_9 : CC := .block 2 (.seq (.block 1 (.seq (.seq (.seq (.reg false [⟨some 27, .eq .int false (.t 25) (.c (.d (.v (.int .i64 1)))), none, 0⟩,
       ⟨some 26, .mv (.t 27), none, 0⟩])
     (.cond 26 (.exit 1)
       (.skip)))
     (.seq (.seq (.reg false [⟨some 29, .eq .int false (.t 25) (.c (.d (.v (.int .i64 2)))), none, 0⟩,
       ⟨some 28, .mv (.t 29), none, 0⟩])
     (.cond 28 (.exit 2)
       (.skip)))
     (.seq (.seq (.seq (.reg false [⟨some 31, .eq .int false (.t 25) (.c (.d (.v (.int .i64 4)))), none, 0⟩,
       ⟨some 30, .mv (.t 31), none, 0⟩])
     (.cond 30 (.skip)
       (.seq (.reg false [⟨some 32, .eq .int false (.t 25) (.c (.d (.v (.int .i64 5)))), none, 0⟩,
         ⟨some 30, .mv (.t 32), none, 0⟩])
       (.cond 30 (.skip)
         (.reg false [⟨some 33, .eq .int false (.t 25) (.c (.d (.v (.int .i64 6)))), none, 0⟩,
           ⟨some 30, .mv (.t 33), none, 0⟩])))))
     (.cond 30 (.exit 3)
       (.skip)))
     (.seq (.seq (.reg false [⟨some 35, .eq .int false (.t 25) (.c (.d (.v (.int .i64 3)))), none, 0⟩,
       ⟨some 34, .mv (.t 35), none, 0⟩])
     (.cond 34 (.exit 4)
       (.skip)))
     (.seq (.seq (.reg false [⟨some 37, .eq .int false (.t 25) (.c (.d (.v (.int .i64 7)))), none, 0⟩,
       ⟨some 36, .mv (.t 37), none, 0⟩])
     (.cond 36 (.exit 5)
       (.skip)))
     (.seq (.seq (.reg false [⟨some 39, .eq .int false (.t 25) (.c (.d (.v (.int .i64 8)))), none, 0⟩,
       ⟨some 38, .mv (.t 39), none, 0⟩])
     (.cond 38 (.exit 6)
       (.skip)))
     (.seq (.reg false [⟨some 41, .eq .int false (.t 25) (.c (.d (.v (.int .i64 9)))), none, 0⟩,
       ⟨some 40, .mv (.t 41), none, 0⟩])
     (.cond 40 (.exit 7)
       (.skip)))))))))
     (.exit 8)))
   (.seq (.seq (.seq (.reg false [⟨some 42, .fa 8 (.t 5), none, 0⟩,
     ⟨some 43, .ld 1 false (.t 42), none, 0⟩])
   (.cond 43 (.seq (.reg false [⟨some 44, .ld 33 true (.t 5), none, 0⟩,
       ⟨some 45, .call (.c (.fn (.func 22) [] [])) [.t 44, .c (.d (.v (.int .i64 9)))], none, 0⟩,
       ⟨none, .st 33 (.t 8) (.t 45), none, 0⟩])
     (.ret))
     (.skip)))
   (.reg false [⟨some 46, .fa 0 (.t 5), none, 0⟩,
     ⟨none, .st 1 (.t 46) (.c (.d (.v (.int .i64 1)))), none, 0⟩]))
   (.exit 0)))
def K1119_10 : CC := .reg false [⟨some 24, .fa 0 (.t 6), none, 0⟩,
   ⟨some 25, .ld 1 false (.t 24), none, 0⟩]
def K1119_11 : CC := .reg false [⟨some 19, .fa 18 (.t 5), none, 0⟩,
   ⟨none, .st 1 (.t 19) (.c (.d (.v (.int .i64 0)))), none, 0⟩,
   ⟨some 20, .fa 19 (.t 5), none, 0⟩,
   ⟨none, .st 1 (.t 20) (.c (.d (.v (.int .i64 0)))), none, 0⟩,
   ⟨some 21, .fa 20 (.t 5), none, 0⟩,
   ⟨none, .st 1 (.t 21) (.c (.d (.v (.int .i64 0)))), none, 0⟩,
   ⟨some 22, .fa 21 (.t 5), none, 0⟩,
   ⟨none, .st 1 (.t 22) (.c (.d (.v (.int .i64 0)))), none, 0⟩,
   ⟨some 23, .fa 28 (.t 5), none, 0⟩,
   ⟨none, .st 1 (.t 23) (.c (.d (.v (.int .i64 0)))), none, 0⟩]
def K1119_12 : CC := .reg false [⟨some 12, .ld 7 true (.t 6), none, 0⟩,
   ⟨some 13, .mv (.t 3), none, 0⟩,
   ⟨some 14, .fa 1 (.t 5), none, 0⟩,
   ⟨none, .st 7 (.t 14) (.t 12), none, 0⟩,
   ⟨some 15, .fa 30 (.t 5), none, 0⟩,
   ⟨none, .st 1 (.t 15) (.t 13), none, 0⟩,
   ⟨some 16, .fa 29 (.t 5), none, 0⟩,
   ⟨none, .st 1 (.t 16) (.c (.d (.v (.slice none 0 0)))), none, 0⟩,
   ⟨some 17, .fa 31 (.t 5), none, 0⟩,
   ⟨none, .st 1 (.t 17) (.c (.d (.v (.int .i64 0)))), none, 0⟩,
   ⟨some 18, .fa 32 (.t 5), none, 0⟩,
   ⟨none, .st 1 (.t 18) (.c (.d (.v (.bool false)))), none, 0⟩]
def K1119_13 : CC := .seq (.reg false [⟨some 9, .ld 7 true (.t 6), none, 0⟩,
   ⟨some 10, .call (.c (.fn (.func 21) [] [])) [.t 9], none, 0⟩,
   ⟨some 11, .un .not (.t 10), none, 0⟩])
 (.cond 11 (.reg false [⟨some 3, .mv (.c (.d (.v (.int .u64 0)))), none, 0⟩])
   (.skip))
def K1119_14 : CC := .reg false [⟨some 4, .box 24 8 (.t 0), none, 0⟩,
   ⟨some 5, .box 34 33 (.t 1), none, 0⟩,
   ⟨some 6, .box 26 7 (.t 2), none, 0⟩,
   ⟨some 8, .newc 34 [.d (.v (.int .i64 0)), .d (.v (.int .i64 0)), .d (.v (.int .u64 0)), .d (.v (.int .u64 0)), .d (.v (.int .i64 0)), .d (.v (.bool false)), .d (.v (.int .i64 0)), .d (.v (.int .i64 0)), .d (.v (.bool false)), .d (.v (.int .u64 0)), .d (.v (.slice none 0 0)), .d (.v (.int .u64 0)), .d (.v (.slice none 0 0)), .d (.v (.int .u64 0)), .d (.v (.slice none 0 0)), .d (.v (.int .u64 0)), .d (.v (.slice none 0 0)), .d (.v (.slice none 0 0)), .d (.v (.int .i64 0)), .d (.v (.int .i64 0)), .d (.v (.int .i64 0)), .d (.v (.int .i64 0)), .d (.v (.int .i64 0)), .d (.v (.int .u64 0)), .d (.v (.int .u64 0)), .d (.v (.int .u64 0)), .d (.v (.int .u64 0)), .d (.v (.int .u64 0)), .d (.v (.int .i64 0)), .d (.v (.slice none 0 0)), .d (.v (.int .u64 0)), .d (.v (.int .i64 0)), .d (.v (.bool false))], none, 0⟩]
/-- coatcheck/work.Begin -/
def C1119 : CF := ⟨4, [(8, some (33, true))],
 .seq K1119_14 (.seq K1119_13 (.seq K1119_12 (.seq K1119_11 (.seq (.seq K1119_10 (.block 0 (.seq (.block 8 (.seq (.block 7 (.seq (.block 6 (.seq (.block 5 (.seq (.block 4 (.seq (.block 3 (.seq K1119_9 K1119_8)) K1119_7)) K1119_6)) K1119_5)) K1119_4)) K1119_3)) K1119_2))) K1119_1))))⟩
theorem c1119 : coF Tryz.prog Tryz.f9 = some C1119 := by kernel_rfl
def A1119 : Ann := { keep := [0, 1, 2, 3, 4, 5, 6, 8, 11, 25, 26, 28, 30, 34, 36, 38, 40, 43, 49, 56, 60, 71, 85], live := [], kc := [30] }
def E1119 {Ω : Type} : Env Ω := econs 21 S1127 (econs 22 S1128 (econs 23 S1033c (econs 24 S1129 (enil))))
theorem e1119 : GoodE Tryz.prog E1119 := GoodE.cons g1127 (GoodE.cons g1128 (GoodE.cons g1033c (GoodE.cons g1129 (GoodE.nil))))
def S1119 {Ω : Type} : Spec Ω := inl E1119 A1119 C1119 false
theorem g1119 : Good1 Tryz.prog 9 S1119 := Good1.inl e1119 mix Tryz.func9 (by kernel_rfl) c1119 A1119 false
def K1117_1 : CC := .seq (.reg false [⟨some 37, .mv (.t 5), none, 0⟩,
   ⟨some 38, .eq .int false (.t 37) (.c (.d (.v (.int .i64 13)))), none, 0⟩,
   ⟨some 39, .mv (.t 38), none, 0⟩,
   ⟨some 40, .fa 31 (.t 4), some (39, true), 0⟩,
   ⟨some 41, .ld 1 false (.t 40), some (39, true), 0⟩,
   ⟨some 42, .eq .int false (.t 41) (.c (.d (.v (.int .i64 0)))), some (39, true), 0⟩,
   ⟨some 43, .pick (.t 39) (.t 42) (.c (.d (.v (.bool false)))), none, 0⟩,
   ⟨some 44, .mv (.t 43), none, 0⟩,
   ⟨some 45, .fa 30 (.t 4), some (44, true), 0⟩,
   ⟨some 46, .ld 1 false (.t 45), some (44, true), 0⟩,
   ⟨some 47, .eq .int false (.t 46) (.c (.d (.v (.int .u64 65537)))), some (44, true), 0⟩,
   ⟨some 48, .pick (.t 44) (.t 47) (.c (.d (.v (.bool false)))), none, 0⟩,
   ⟨some 0, .mv (.t 48), none, 0⟩])
 (.ret)
def L1117_2 : CC := .seq (.seq (.reg false [⟨some 22, .mv (.t 5), none, 0⟩,
   ⟨some 23, .bin .lss (.t 22) (.c (.d (.v (.int .i64 40)))), none, 0⟩,
   ⟨some 24, .mv (.t 23), none, 0⟩,
   ⟨some 25, .ld 33 true (.t 4), some (24, true), 0⟩,
   ⟨some 26, .call (.c (.fn (.func 17) [] [])) [.t 25], some (24, true), 0⟩,
   ⟨some 27, .un .not (.t 26), some (24, true), 0⟩,
   ⟨some 28, .pick (.t 24) (.t 27) (.c (.d (.v (.bool false)))), none, 0⟩])
 (.cond 28 (.skip)
   (.exit 0)))
 (.seq (.block 1 (.reg false [⟨some 32, .mv (.t 2), none, 0⟩,
     ⟨some 33, .ld 33 true (.t 4), none, 0⟩,
     ⟨some 34, .call (.c (.fn (.func 18) [] [])) [.t 32, .c (.d (.v (.int .i64 0))), .t 33], none, 0⟩,
     ⟨some 31, .mv (.t 34), none, 0⟩,
     ⟨some 35, .ext 0 (.t 31), none, 0⟩,
     ⟨some 36, .ext 1 (.t 31), none, 0⟩,
     ⟨none, .st 33 (.t 4) (.t 35), none, 0⟩]))
 (.reg false [⟨some 29, .mv (.t 5), none, 0⟩,
   ⟨some 30, .bin .add (.t 29) (.c (.d (.v (.int .i64 1)))), none, 0⟩,
   ⟨some 5, .mv (.t 30), none, 0⟩]))
def K1117_3 : CC := .reg false [⟨some 5, .mv (.c (.d (.v (.int .i64 0)))), none, 0⟩]
def K1117_4 : CC := .reg false [⟨some 18, .ld 8 true (.t 1), none, 0⟩,
   ⟨some 19, .bld [.d (.v (.int .i64 0)), .d (.v (.int .i64 0)), .d (.v (.int .u64 0)), .d (.v (.int .u64 0)), .d (.v (.int .i64 0)), .d (.v (.bool false)), .d (.v (.int .i64 0)), .d (.v (.int .i64 0)), .d (.v (.bool false)), .d (.v (.int .u64 0)), .d (.v (.slice none 0 0)), .d (.v (.int .u64 0)), .d (.v (.slice none 0 0)), .d (.v (.int .u64 0)), .d (.v (.slice none 0 0)), .d (.v (.int .u64 0)), .d (.v (.slice none 0 0)), .d (.v (.slice none 0 0)), .d (.v (.int .i64 0)), .d (.v (.int .i64 0)), .d (.v (.int .i64 0)), .d (.v (.int .i64 0)), .d (.v (.int .i64 0)), .d (.v (.int .u64 0)), .d (.v (.int .u64 0)), .d (.v (.int .u64 0)), .d (.v (.int .u64 0)), .d (.v (.int .u64 0)), .d (.v (.int .i64 0)), .d (.v (.slice none 0 0)), .d (.v (.int .u64 0)), .d (.v (.int .i64 0)), .d (.v (.bool false))] [], none, 0⟩,
   ⟨some 20, .bld [.d (.v (.int .i64 0)), .d (.v (.int .u64 0)), .d (.v (.int .u64 0)), .d (.v (.int .i64 0)), .d (.v (.bool false)), .d (.v (.int .i64 0)), .d (.v (.int .i64 0))] [(0, 1, .c (.d (.v (.int .i64 3)))), (2, 1, .c (.d (.v (.int .u64 7))))], none, 0⟩,
   ⟨some 21, .call (.c (.fn (.func 9) [] [])) [.t 18, .t 19, .t 20, .c (.d (.v (.int .u64 0)))], none, 0⟩,
   ⟨some 4, .newc 34 [.d (.v (.int .i64 0)), .d (.v (.int .i64 0)), .d (.v (.int .u64 0)), .d (.v (.int .u64 0)), .d (.v (.int .i64 0)), .d (.v (.bool false)), .d (.v (.int .i64 0)), .d (.v (.int .i64 0)), .d (.v (.bool false)), .d (.v (.int .u64 0)), .d (.v (.slice none 0 0)), .d (.v (.int .u64 0)), .d (.v (.slice none 0 0)), .d (.v (.int .u64 0)), .d (.v (.slice none 0 0)), .d (.v (.int .u64 0)), .d (.v (.slice none 0 0)), .d (.v (.slice none 0 0)), .d (.v (.int .i64 0)), .d (.v (.int .i64 0)), .d (.v (.int .i64 0)), .d (.v (.int .i64 0)), .d (.v (.int .i64 0)), .d (.v (.int .u64 0)), .d (.v (.int .u64 0)), .d (.v (.int .u64 0)), .d (.v (.int .u64 0)), .d (.v (.int .u64 0)), .d (.v (.int .i64 0)), .d (.v (.slice none 0 0)), .d (.v (.int .u64 0)), .d (.v (.int .i64 0)), .d (.v (.bool false))], none, 0⟩,
   ⟨none, .st 33 (.t 4) (.t 21), none, 0⟩]
def K1117_5 : CC := .seq (.reg false [⟨some 12, .mv (.t 3), none, 0⟩,
   ⟨some 13, .eq .int true (.t 12) (.c (.d (.v (.int .i64 0)))), none, 0⟩,
   ⟨some 14, .mv (.t 13), none, 0⟩,
   ⟨some 15, .mv (.t 2), some (14, false), 0⟩,
   ⟨some 16, .eq .ptr false (.t 15) (.c (.d (.v (.pointer none)))), some (14, false), 0⟩,
   ⟨some 17, .pick (.t 14) (.c (.d (.v (.bool true)))) (.t 16), none, 0⟩])
 (.cond 17 (.seq (.reg false [⟨some 0, .mv (.c (.d (.v (.bool false)))), none, 0⟩])
   (.ret))
   (.skip))
def K1117_6 : CC := .reg false [⟨some 8, .ld 8 true (.t 1), none, 0⟩,
   ⟨some 9, .call (.c (.fn (.func 13) [] [])) [.t 8], none, 0⟩,
   ⟨some 7, .mv (.t 9), none, 0⟩,
   ⟨some 10, .ext 0 (.t 7), none, 0⟩,
   ⟨some 11, .ext 1 (.t 7), none, 0⟩,
   ⟨some 2, .mv (.t 10), none, 0⟩,
   ⟨some 3, .mv (.t 11), none, 0⟩]
def K1117_7 : CC := .reg false [⟨some 6, .bld [.d (.v (.int .i64 0)), .d (.v (.int .i64 0)), .d (.v (.int .i64 0)), .d (.v (.int .i64 0)), .d (.v (.int .i64 0)), .d (.v (.int .i64 0)), .d (.v (.int .i64 0)), .d (.v (.int .u64 0))] [(0, 1, .c (.d (.v (.int .i64 1)))), (1, 1, .c (.d (.v (.int .i64 1)))), (2, 1, .c (.d (.v (.int .i64 1)))), (3, 1, .c (.d (.v (.int .i64 1)))), (4, 1, .c (.d (.v (.int .i64 1)))), (6, 1, .c (.d (.v (.int .i64 1)))), (7, 1, .c (.d (.v (.int .u64 1))))], none, 0⟩,
   ⟨some 1, .newc 24 [.d (.v (.int .i64 0)), .d (.v (.int .i64 0)), .d (.v (.int .i64 0)), .d (.v (.int .i64 0)), .d (.v (.int .i64 0)), .d (.v (.int .i64 0)), .d (.v (.int .i64 0)), .d (.v (.int .u64 0))], none, 0⟩,
   ⟨none, .st 8 (.t 1) (.t 6), none, 0⟩]
def K1117_8 : CC := .reg false [⟨some 0, .mv (.c (.d (.v (.bool false)))), none, 0⟩]
/-- coatcheck/coatchecklaw13.awake -/
def C1117 : CF := ⟨0, [(0, none)],
 .seq K1117_8 (.seq K1117_7 (.seq K1117_6 (.seq K1117_5 (.seq K1117_4 (.seq K1117_3 (.seq (.block 0 (.loop L1117_2)) K1117_1))))))⟩
theorem c1117 : coF Tryz.prog Tryz.f5 = some C1117 := by kernel_rfl
def A1117 : Ann := { keep := [0, 1, 2, 3, 4, 5, 17, 28], live := [(0, [2, 4, 5])] }
def E1117 {Ω : Type} : Env Ω := econs 9 S1119 (econs 13 S34c (econs 17 S1125 (econs 18 S1126 (enil))))
theorem e1117 : GoodE Tryz.prog E1117 := GoodE.cons g1119 (GoodE.cons g34c (GoodE.cons g1125 (GoodE.cons g1126 (GoodE.nil))))
def S1117 {Ω : Type} : Spec Ω := conSpec [] FTrue
theorem g1117 : Good1 Tryz.prog 5 S1117 := trueGood Tryz.func5 (by kernel_rfl) c1117 (A := A1117) e1117 mix (by kernel_rfl)
end Go.Sx.Pr
