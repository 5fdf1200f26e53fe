/- Pieces of the code of functions, compiled for the symbolic interpreter, each checked against the program; no conditions. -/
import Derived.Test.YtppkbofmgjkboaaMd
import Derived.Test.YtppkbofmgjkboaaMd
import Derived.Test.YtppkbofmgjkboaaMd
import Derived.Test.YtppkbofmgjkboaaMd
import Derived.Test.YtppkbofmgjkboaaMd
import Derived.Test.YtppkbofmgjkboaaMd
import Derived.Test.YtppkbofmgjkboaaRows
import Derived.KernelRfl
import Derived.Shelf.Small.Bits
import Derived.Ground.Names2Prog
import Derived.Shelf.Slices.CompactI
import Derived.Test.YtppkbofmgjkboaaProg
import Derived.Lib.RowBridge
set_option linter.all false
set_option linter.unusedVariables false
set_option linter.unusedSimpArgs false
set_option linter.unnecessarySimpa false
namespace Go.Sx.Pr
open Go Go.Sx Go.Proofs
set_option maxRecDepth 100000
/-- cmp.isNaN[int] -/
def C1111 : CF := ⟨1, [(2, none)],
 .seq (.reg false [⟨some 2, .mv (.c (.d (.v (.bool false)))), none, 0⟩])
 (.seq (.reg false [⟨some 3, .mv (.t 0), none, 0⟩,
   ⟨some 4, .mv (.t 0), none, 0⟩,
   ⟨some 5, .eq .int true (.t 3) (.t 4), none, 0⟩,
   ⟨some 2, .mv (.t 5), none, 0⟩])
 (.ret))⟩
theorem c1111 : coF Try.prog Try.f127 = some C1111 := by kernel_rfl
def A1111 : Ann := { keep := [0, 2], live := [] }
def E1111 {Ω : Type} : Env Ω := enil
theorem e1111 : GoodE Try.prog E1111 := GoodE.nil
def S1111 {Ω : Type} : Spec Ω := inl E1111 A1111 C1111 false
theorem g1111 : Good1 Try.prog 127 S1111 := Good1.inl e1111 mix Try.func127 (by kernel_rfl) c1111 A1111 false
/-- cmp.Less[int] -/
def C1100 : CF := ⟨2, [(4, none)],
 .seq (.reg false [⟨some 4, .mv (.c (.d (.v (.bool false)))), none, 0⟩])
 (.seq (.reg false [⟨some 5, .mv (.t 0), none, 0⟩,
   ⟨some 6, .call (.c (.fn (.func 127) [] [])) [.t 5], none, 0⟩,
   ⟨some 7, .mv (.t 6), none, 0⟩,
   ⟨some 8, .mv (.t 1), some (7, true), 0⟩,
   ⟨some 9, .call (.c (.fn (.func 127) [] [])) [.t 8], some (7, true), 0⟩,
   ⟨some 10, .un .not (.t 9), some (7, true), 0⟩,
   ⟨some 11, .pick (.t 7) (.t 10) (.c (.d (.v (.bool false)))), none, 0⟩,
   ⟨some 12, .mv (.t 11), none, 0⟩,
   ⟨some 13, .mv (.t 0), some (12, false), 0⟩,
   ⟨some 14, .mv (.t 1), some (12, false), 0⟩,
   ⟨some 15, .bin .lss (.t 13) (.t 14), some (12, false), 0⟩,
   ⟨some 16, .pick (.t 12) (.c (.d (.v (.bool true)))) (.t 15), none, 0⟩,
   ⟨some 4, .mv (.t 16), none, 0⟩])
 (.ret))⟩
theorem c1100 : coF Try.prog Try.f106 = some C1100 := by kernel_rfl
def A1100 : Ann := { keep := [0, 1, 4], live := [] }
def E1100 {Ω : Type} : Env Ω := econs 127 S1111 (enil)
theorem e1100 : GoodE Try.prog E1100 := GoodE.cons g1111 (GoodE.nil)
def S1100 {Ω : Type} : Spec Ω := inl E1100 A1100 C1100 false
theorem g1100 : Good1 Try.prog 106 S1100 := Good1.inl e1100 mix Try.func106 (by kernel_rfl) c1100 A1100 false
def K1094_1 : CC := .reg false [⟨some 13, .mv (.t 6), none, 0⟩,
   ⟨some 14, .bin .add (.t 13) (.c (.d (.v (.int .i64 1)))), none, 0⟩,
   ⟨some 6, .mv (.t 14), none, 0⟩]
def K1094_2 : CC := .seq (.block 3 (.reg true [⟨some 33, .mv (.t 0), none, 0⟩,
     ⟨some 34, .mv (.t 7), none, 0⟩,
     ⟨some 35, .mv (.t 0), none, 0⟩,
     ⟨some 36, .mv (.t 7), none, 0⟩,
     ⟨some 37, .bin .sub (.t 36) (.c (.d (.v (.int .i64 1)))), none, 8⟩,
     ⟨some 38, .mv (.t 0), none, 0⟩,
     ⟨some 39, .mv (.t 7), none, 0⟩,
     ⟨some 40, .bin .sub (.t 39) (.c (.d (.v (.int .i64 1)))), none, 64⟩,
     ⟨some 41, .ixs 1 (.t 38) (.t 40), none, 224⟩,
     ⟨some 42, .ld 1 false (.t 41), none, 480⟩,
     ⟨some 43, .mv (.t 0), none, 0⟩,
     ⟨some 44, .mv (.t 7), none, 0⟩,
     ⟨some 45, .ixs 1 (.t 43) (.t 44), none, 3072⟩,
     ⟨some 46, .ld 1 false (.t 45), none, 7168⟩,
     ⟨some 47, .ixs 1 (.t 33) (.t 34), none, 16355⟩,
     ⟨none, .st 1 (.t 47) (.t 42), none, 32739⟩,
     ⟨some 48, .ixs 1 (.t 35) (.t 37), none, 65535⟩,
     ⟨none, .st 1 (.t 48) (.t 46), none, 131071⟩]))
 (.reg false [⟨some 31, .mv (.t 7), none, 0⟩,
   ⟨some 32, .bin .sub (.t 31) (.c (.d (.v (.int .i64 1)))), none, 0⟩,
   ⟨some 7, .mv (.t 32), none, 0⟩])
def K1094_3 : CC := .seq (.reg true [⟨some 16, .mv (.t 7), none, 0⟩,
   ⟨some 17, .mv (.t 1), none, 0⟩,
   ⟨some 18, .bin .gtr (.t 16) (.t 17), none, 3⟩,
   ⟨some 19, .mv (.t 18), none, 7⟩,
   ⟨some 20, .mv (.t 0), some (19, true), 15⟩,
   ⟨some 21, .mv (.t 7), some (19, true), 15⟩,
   ⟨some 22, .ixs 1 (.t 20) (.t 21), some (19, true), 63⟩,
   ⟨some 23, .ld 1 false (.t 22), some (19, true), 127⟩,
   ⟨some 24, .mv (.t 0), some (19, true), 15⟩,
   ⟨some 25, .mv (.t 7), some (19, true), 15⟩,
   ⟨some 26, .bin .sub (.t 25) (.c (.d (.v (.int .i64 1)))), some (19, true), 527⟩,
   ⟨some 27, .ixs 1 (.t 24) (.t 26), some (19, true), 1807⟩,
   ⟨some 28, .ld 1 false (.t 27), some (19, true), 3855⟩,
   ⟨some 29, .call (.c (.fn (.func 106) [] [])) [.t 23, .t 28], some (19, true), 8191⟩,
   ⟨some 30, .pick (.t 19) (.t 29) (.c (.d (.v (.bool false)))), none, 16383⟩])
 (.cond 30 (.skip)
   (.exit 2))
def L1094_4 : CC := .seq K1094_3 K1094_2
def K1094_5 : CC := .reg false [⟨some 15, .mv (.t 6), none, 0⟩,
   ⟨some 7, .mv (.t 15), none, 0⟩]
def K1094_6 : CC := .seq (.reg false [⟨some 10, .mv (.t 6), none, 0⟩,
   ⟨some 11, .mv (.t 2), none, 0⟩,
   ⟨some 12, .bin .lss (.t 10) (.t 11), none, 0⟩])
 (.cond 12 (.skip)
   (.exit 0))
def L1094_7 : CC := .seq K1094_6 (.seq (.block 1 (.seq K1094_5 (.block 2 (.loop L1094_4)))) K1094_1)
def K1094_8 : CC := .reg false [⟨some 8, .mv (.t 1), none, 0⟩,
   ⟨some 9, .bin .add (.t 8) (.c (.d (.v (.int .i64 1)))), none, 0⟩,
   ⟨some 6, .mv (.t 9), none, 0⟩]
/-- slices.insertionSortOrdered[int] -/
def C1094 : CF := ⟨3, [],
 .seq K1094_8 (.block 0 (.loop L1094_7))⟩
theorem c1094 : coF Try.prog Try.f100 = some C1094 := by kernel_rfl
def A1094 : Ann := { keep := [0, 1, 2, 6, 7, 12, 30], live := [(0, [0, 1, 2, 6]), (2, [0, 1, 2, 6, 7])] }
def E1094 {Ω : Type} : Env Ω := econs 106 S1100 (enil)
theorem e1094 : GoodE Try.prog E1094 := GoodE.cons g1100 (GoodE.nil)
def S1094 {Ω : Type} : Spec Ω := inl E1094 A1094 C1094 false
theorem g1094 : Good1 Try.prog 100 S1094 := Good1.inl e1094 mix Try.func100 (by kernel_rfl) c1094 A1094 false
def K1085_1 : CC := .cond 113 (.seq (.reg false [⟨some 114, .mv (.t 16), none, 0⟩,
     ⟨some 115, .mv (.t 18), none, 0⟩,
     ⟨some 116, .bin .geq (.t 114) (.t 115), none, 0⟩,
     ⟨some 8, .mv (.t 116), none, 0⟩])
   (.seq (.reg false [⟨some 117, .mv (.t 0), none, 0⟩,
     ⟨some 118, .mv (.t 1), none, 0⟩,
     ⟨some 119, .mv (.t 14), none, 0⟩,
     ⟨some 120, .mv (.t 3), none, 0⟩,
     ⟨some 121, .call (.c (.fn (.func 88) [] [])) [.t 117, .t 118, .t 119, .t 120], none, 0⟩])
   (.reg false [⟨some 122, .mv (.t 14), none, 0⟩,
     ⟨some 123, .bin .add (.t 122) (.c (.d (.v (.int .i64 1)))), none, 0⟩,
     ⟨some 1, .mv (.t 123), none, 0⟩])))
   (.seq (.reg false [⟨some 124, .mv (.t 17), none, 0⟩,
     ⟨some 125, .mv (.t 18), none, 0⟩,
     ⟨some 126, .bin .geq (.t 124) (.t 125), none, 0⟩,
     ⟨some 8, .mv (.t 126), none, 0⟩])
   (.seq (.reg false [⟨some 127, .mv (.t 0), none, 0⟩,
     ⟨some 128, .mv (.t 14), none, 0⟩,
     ⟨some 129, .bin .add (.t 128) (.c (.d (.v (.int .i64 1)))), none, 0⟩,
     ⟨some 130, .mv (.t 2), none, 0⟩,
     ⟨some 131, .mv (.t 3), none, 0⟩,
     ⟨some 132, .call (.c (.fn (.func 88) [] [])) [.t 127, .t 129, .t 130, .t 131], none, 0⟩])
   (.reg false [⟨some 133, .mv (.t 14), none, 0⟩,
     ⟨some 2, .mv (.t 133), none, 0⟩])))
def K1085_2 : CC := .reg false [⟨some 111, .mv (.t 16), none, 0⟩,
   ⟨some 112, .mv (.t 17), none, 0⟩,
   ⟨some 113, .bin .lss (.t 111) (.t 112), none, 0⟩]
def K1085_3 : CC := .reg false [⟨some 109, .mv (.t 10), none, 0⟩,
   ⟨some 110, .bin .quo (.t 109) (.c (.d (.v (.int .i64 8)))), none, 0⟩,
   ⟨some 18, .mv (.t 110), none, 0⟩]
def K1085_4 : CC := .reg false [⟨some 103, .mv (.t 14), none, 0⟩,
   ⟨some 104, .mv (.t 1), none, 0⟩,
   ⟨some 105, .bin .sub (.t 103) (.t 104), none, 0⟩,
   ⟨some 106, .mv (.t 2), none, 0⟩,
   ⟨some 107, .mv (.t 14), none, 0⟩,
   ⟨some 108, .bin .sub (.t 106) (.t 107), none, 0⟩,
   ⟨some 16, .mv (.t 105), none, 0⟩,
   ⟨some 17, .mv (.t 108), none, 0⟩]
def K1085_5 : CC := .reg false [⟨some 102, .mv (.t 15), none, 0⟩,
   ⟨some 9, .mv (.t 102), none, 0⟩]
def K1085_6 : CC := .reg false [⟨some 95, .mv (.t 0), none, 0⟩,
   ⟨some 96, .mv (.t 1), none, 0⟩,
   ⟨some 97, .mv (.t 2), none, 0⟩,
   ⟨some 98, .mv (.t 11), none, 0⟩,
   ⟨some 99, .call (.c (.fn (.func 108) [] [])) [.t 95, .t 96, .t 97, .t 98], none, 0⟩,
   ⟨some 94, .mv (.t 99), none, 0⟩,
   ⟨some 100, .ext 0 (.t 94), none, 0⟩,
   ⟨some 101, .ext 1 (.t 94), none, 0⟩,
   ⟨some 14, .mv (.t 100), none, 0⟩,
   ⟨some 15, .mv (.t 101), none, 0⟩]
def K1085_7 : CC := .seq (.reg true [⟨some 73, .mv (.t 1), none, 0⟩,
   ⟨some 74, .bin .gtr (.t 73) (.c (.d (.v (.int .i64 0)))), none, 1⟩,
   ⟨some 75, .mv (.t 74), none, 3⟩,
   ⟨some 76, .mv (.t 0), some (75, true), 7⟩,
   ⟨some 77, .mv (.t 1), some (75, true), 7⟩,
   ⟨some 78, .bin .sub (.t 77) (.c (.d (.v (.int .i64 1)))), some (75, true), 23⟩,
   ⟨some 79, .ixs 1 (.t 76) (.t 78), some (75, true), 63⟩,
   ⟨some 80, .ld 1 false (.t 79), some (75, true), 127⟩,
   ⟨some 81, .mv (.t 0), some (75, true), 7⟩,
   ⟨some 82, .mv (.t 11), some (75, true), 7⟩,
   ⟨some 83, .ixs 1 (.t 81) (.t 82), some (75, true), 775⟩,
   ⟨some 84, .ld 1 false (.t 83), some (75, true), 1799⟩,
   ⟨some 85, .call (.c (.fn (.func 106) [] [])) [.t 80, .t 84], some (75, true), 4095⟩,
   ⟨some 86, .un .not (.t 85), some (75, true), 8191⟩,
   ⟨some 87, .pick (.t 75) (.t 86) (.c (.d (.v (.bool false)))), none, 16383⟩])
 (.cond 87 (.seq (.reg false [⟨some 88, .mv (.t 0), none, 0⟩,
     ⟨some 89, .mv (.t 1), none, 0⟩,
     ⟨some 90, .mv (.t 2), none, 0⟩,
     ⟨some 91, .mv (.t 11), none, 0⟩,
     ⟨some 92, .call (.c (.fn (.func 107) [] [])) [.t 88, .t 89, .t 90, .t 91], none, 0⟩,
     ⟨some 13, .mv (.t 92), none, 0⟩])
   (.seq (.reg false [⟨some 93, .mv (.t 13), none, 0⟩,
     ⟨some 1, .mv (.t 93), none, 0⟩])
   (.exit 1)))
   (.skip))
def K1085_8 : CC := .seq (.reg false [⟨some 61, .mv (.t 8), none, 0⟩,
   ⟨some 62, .mv (.t 61), none, 0⟩,
   ⟨some 63, .mv (.t 9), some (62, true), 0⟩,
   ⟨some 64, .pick (.t 62) (.t 63) (.c (.d (.v (.bool false)))), none, 0⟩,
   ⟨some 65, .mv (.t 64), none, 0⟩,
   ⟨some 66, .mv (.t 12), some (65, true), 0⟩,
   ⟨some 67, .eq .int false (.t 66) (.c (.d (.v (.int .i64 1)))), some (65, true), 0⟩,
   ⟨some 68, .pick (.t 65) (.t 67) (.c (.d (.v (.bool false)))), none, 0⟩])
 (.cond 68 (.seq (.reg false [⟨some 69, .mv (.t 0), none, 0⟩,
     ⟨some 70, .mv (.t 1), none, 0⟩,
     ⟨some 71, .mv (.t 2), none, 0⟩,
     ⟨some 72, .call (.c (.fn (.func 105) [] [])) [.t 69, .t 70, .t 71], none, 0⟩])
   (.cond 72 (.ret)
     (.skip)))
   (.skip))
def K1085_9 : CC := .seq (.reg false [⟨some 49, .mv (.t 12), none, 0⟩,
   ⟨some 50, .eq .int false (.t 49) (.c (.d (.v (.int .i64 2)))), none, 0⟩])
 (.cond 50 (.seq (.reg false [⟨some 51, .mv (.t 0), none, 0⟩,
     ⟨some 52, .mv (.t 1), none, 0⟩,
     ⟨some 53, .mv (.t 2), none, 0⟩,
     ⟨some 54, .call (.c (.fn (.func 104) [] [])) [.t 51, .t 52, .t 53], none, 0⟩])
   (.seq (.reg false [⟨some 55, .mv (.t 2), none, 0⟩,
     ⟨some 56, .bin .sub (.t 55) (.c (.d (.v (.int .i64 1)))), none, 0⟩,
     ⟨some 57, .mv (.t 11), none, 0⟩,
     ⟨some 58, .mv (.t 1), none, 0⟩,
     ⟨some 59, .bin .sub (.t 57) (.t 58), none, 0⟩,
     ⟨some 60, .bin .sub (.t 56) (.t 59), none, 0⟩,
     ⟨some 11, .mv (.t 60), none, 0⟩])
   (.reg false [⟨some 12, .mv (.c (.d (.v (.int .i64 1)))), none, 0⟩])))
   (.skip))
def K1085_10 : CC := .reg false [⟨some 43, .mv (.t 0), none, 0⟩,
   ⟨some 44, .mv (.t 1), none, 0⟩,
   ⟨some 45, .mv (.t 2), none, 0⟩,
   ⟨some 46, .call (.c (.fn (.func 103) [] [])) [.t 43, .t 44, .t 45], none, 0⟩,
   ⟨some 42, .mv (.t 46), none, 0⟩,
   ⟨some 47, .ext 0 (.t 42), none, 0⟩,
   ⟨some 48, .ext 1 (.t 42), none, 0⟩,
   ⟨some 11, .mv (.t 47), none, 0⟩,
   ⟨some 12, .mv (.t 48), none, 0⟩]
def K1085_11 : CC := .seq (.reg false [⟨some 34, .mv (.t 8), none, 0⟩,
   ⟨some 35, .un .not (.t 34), none, 0⟩])
 (.cond 35 (.seq (.reg false [⟨some 36, .mv (.t 0), none, 0⟩,
     ⟨some 37, .mv (.t 1), none, 0⟩,
     ⟨some 38, .mv (.t 2), none, 0⟩,
     ⟨some 39, .call (.c (.fn (.func 102) [] [])) [.t 36, .t 37, .t 38], none, 0⟩])
   (.reg false [⟨some 40, .mv (.t 3), none, 0⟩,
     ⟨some 41, .bin .sub (.t 40) (.c (.d (.v (.int .i64 1)))), none, 0⟩,
     ⟨some 3, .mv (.t 41), none, 0⟩]))
   (.skip))
def K1085_12 : CC := .seq (.reg false [⟨some 28, .mv (.t 3), none, 0⟩,
   ⟨some 29, .eq .int false (.t 28) (.c (.d (.v (.int .i64 0)))), none, 0⟩])
 (.cond 29 (.seq (.reg false [⟨some 30, .mv (.t 0), none, 0⟩,
     ⟨some 31, .mv (.t 1), none, 0⟩,
     ⟨some 32, .mv (.t 2), none, 0⟩,
     ⟨some 33, .call (.c (.fn (.func 101) [] [])) [.t 30, .t 31, .t 32], none, 0⟩])
   (.ret))
   (.skip))
def K1085_13 : CC := .seq (.reg false [⟨some 22, .mv (.t 10), none, 0⟩,
   ⟨some 23, .bin .leq (.t 22) (.c (.d (.v (.int .i64 12)))), none, 0⟩])
 (.cond 23 (.seq (.reg false [⟨some 24, .mv (.t 0), none, 0⟩,
     ⟨some 25, .mv (.t 1), none, 0⟩,
     ⟨some 26, .mv (.t 2), none, 0⟩,
     ⟨some 27, .call (.c (.fn (.func 100) [] [])) [.t 24, .t 25, .t 26], none, 0⟩])
   (.ret))
   (.skip))
def K1085_14 : CC := .reg false [⟨some 19, .mv (.t 2), none, 0⟩,
   ⟨some 20, .mv (.t 1), none, 0⟩,
   ⟨some 21, .bin .sub (.t 19) (.t 20), none, 0⟩,
   ⟨some 10, .mv (.t 21), none, 0⟩]
def L1085_15 : CC := .block 1 (.seq K1085_14 (.seq K1085_13 (.seq K1085_12 (.seq K1085_11 (.seq K1085_10 (.seq K1085_9 (.seq K1085_8 (.seq K1085_7 (.seq K1085_6 (.seq K1085_5 (.seq K1085_4 (.seq K1085_3 (.seq K1085_2 K1085_1)))))))))))))
def K1085_16 : CC := .reg false [⟨some 9, .mv (.c (.d (.v (.bool true)))), none, 0⟩]
def K1085_17 : CC := .reg false [⟨some 8, .mv (.c (.d (.v (.bool true)))), none, 0⟩]
/-- slices.pdqsortOrdered[int] -/
def C1085 : CF := ⟨4, [],
 .seq K1085_17 (.seq K1085_16 (.block 0 (.loop L1085_15)))⟩
theorem c1085 : coF Try.prog Try.f88 = some C1085 := by kernel_rfl
def A1085 : Ann := { keep := [0, 1, 2, 3, 8, 9, 10, 11, 12, 13, 14, 15, 16, 17, 18, 23, 29, 35, 50, 68, 72, 87, 113], live := [(0, [0, 1, 2, 3, 8, 9])] }
def E1085 {Ω : Type} : Env Ω := econs 100 S1094 (econs 106 S1100 (enil))
theorem e1085 : GoodE Try.prog E1085 := GoodE.cons g1094 (GoodE.cons g1100 (GoodE.nil))
def S1085 {Ω : Type} : Spec Ω := inl E1085 A1085 C1085 false
theorem g1085 : Good1 Try.prog 88 S1085 := Good1.inl e1085 mix Try.func88 (by kernel_rfl) c1085 A1085 false
end Go.Sx.Pr

namespace Go.Sx.Pr
open Go Go.Sx Go.Proofs
set_option maxRecDepth 100000
def K1042_1 : CC := .seq (.reg false [⟨some 32, .mv (.t 1), none, 0⟩,
   ⟨some 33, .ixs 1 (.t 32) (.c (.d (.v (.int .i64 0)))), none, 0⟩,
   ⟨some 34, .ld 1 false (.t 33), none, 0⟩,
   ⟨some 4, .mv (.t 34), none, 0⟩,
   ⟨some 5, .mv (.c (.d (.v (.bool true)))), none, 0⟩])
 (.ret)
def L1042_2 : CC := .seq (.reg false [⟨some 19, .bin .lss (.t 18) (.t 17), none, 0⟩])
 (.seq (.cond 19 (.skip)
   (.exit 0))
 (.seq (.block 1 (.seq (.reg false [⟨some 20, .mv (.t 18), none, 0⟩,
     ⟨some 21, .ixs 1 (.t 16) (.t 18), none, 0⟩,
     ⟨some 22, .ld 1 false (.t 21), none, 0⟩,
     ⟨some 6, .mv (.t 20), none, 0⟩,
     ⟨some 7, .mv (.t 22), none, 0⟩])
   (.seq (.reg false [⟨some 23, .mv (.t 7), none, 0⟩,
     ⟨some 24, .mv (.t 1), none, 0⟩,
     ⟨some 25, .ixs 1 (.t 24) (.c (.d (.v (.int .i64 0)))), none, 0⟩,
     ⟨some 26, .ld 1 false (.t 25), none, 0⟩,
     ⟨some 27, .mv (.t 6), none, 0⟩,
     ⟨some 28, .conv .u64 (.t 27), none, 0⟩,
     ⟨some 29, .bin .add (.t 26) (.t 28), none, 0⟩,
     ⟨some 30, .eq .int true (.t 23) (.t 29), none, 0⟩])
   (.cond 30 (.seq (.reg false [⟨some 4, .mv (.c (.d (.v (.int .u64 0)))), none, 0⟩,
       ⟨some 5, .mv (.c (.d (.v (.bool false)))), none, 0⟩])
     (.ret))
     (.skip)))))
 (.reg false [⟨some 31, .bin .add (.t 18) (.c (.d (.v (.int .i64 1)))), none, 0⟩,
   ⟨some 18, .mv (.t 31), none, 0⟩])))
def K1042_3 : CC := .reg false [⟨some 16, .mv (.t 1), none, 0⟩,
   ⟨some 17, .len (.t 16), none, 0⟩,
   ⟨some 18, .mv (.c (.d (.v (.int .i64 0)))), none, 0⟩]
def K1042_4 : CC := .seq (.reg false [⟨some 8, .mv (.t 1), none, 0⟩,
   ⟨some 9, .len (.t 8), none, 0⟩,
   ⟨some 10, .mv (.t 0), none, 0⟩,
   ⟨some 11, .eq .int true (.t 9) (.t 10), none, 0⟩,
   ⟨some 12, .mv (.t 11), none, 0⟩,
   ⟨some 13, .mv (.t 0), some (12, false), 0⟩,
   ⟨some 14, .bin .lss (.t 13) (.c (.d (.v (.int .i64 1)))), some (12, false), 0⟩,
   ⟨some 15, .pick (.t 12) (.c (.d (.v (.bool true)))) (.t 14), none, 0⟩])
 (.cond 15 (.seq (.reg false [⟨some 4, .mv (.c (.d (.v (.int .u64 0)))), none, 0⟩,
     ⟨some 5, .mv (.c (.d (.v (.bool false)))), none, 0⟩])
   (.ret))
   (.skip))
def K1042_5 : CC := .reg false [⟨some 4, .mv (.c (.d (.v (.int .u64 0)))), none, 0⟩,
   ⟨some 5, .mv (.c (.d (.v (.bool false)))), none, 0⟩]
/-- coatcheck/guard.Payload -/
def C1042 : CF := ⟨2, [(4, none), (5, none)],
 .seq K1042_5 (.seq K1042_4 (.seq (.seq K1042_3 (.block 0 (.loop L1042_2))) K1042_1))⟩
theorem c1042 : coF Try.prog Try.f28 = some C1042 := by kernel_rfl
def A1042 : Ann := { keep := [0, 1, 4, 5, 6, 7, 15, 16, 17, 18, 19, 30], live := [(0, [1, 16, 17, 18])] }
def E1042 {Ω : Type} : Env Ω := enil
theorem e1042 : GoodE Try.prog E1042 := GoodE.nil
def Z1042_2 {Ω : Type} (it : Itr Ω) (K : SV → SH → Option Ω) : SE → SS → Option Ω := kblk 0 (kseq it E1042 A1042 K1042_1 0 (kfn C1042 K))
def S1042 {Ω : Type} : Spec Ω := inl E1042 A1042 C1042 false
theorem g1042 : Good1 Try.prog 28 S1042 := Good1.inl e1042 mix Try.func28 (by kernel_rfl) c1042 A1042 false
def K1043_1 : CC := .seq (.reg false [⟨some 32, .mv (.t 1), none, 0⟩,
   ⟨some 33, .ixs 1 (.t 32) (.c (.d (.v (.int .i64 0)))), none, 0⟩,
   ⟨some 34, .ld 1 false (.t 33), none, 0⟩,
   ⟨some 4, .mv (.t 34), none, 0⟩,
   ⟨some 5, .mv (.c (.d (.v (.bool true)))), none, 0⟩])
 (.ret)
def L1043_2 : CC := .seq (.seq (.reg false [⟨some 15, .mv (.t 6), none, 0⟩,
   ⟨some 16, .mv (.t 1), none, 0⟩,
   ⟨some 17, .len (.t 16), none, 0⟩,
   ⟨some 18, .bin .lss (.t 15) (.t 17), none, 0⟩])
 (.cond 18 (.skip)
   (.exit 0)))
 (.seq (.block 1 (.seq (.reg true [⟨some 21, .mv (.t 1), none, 0⟩,
     ⟨some 22, .mv (.t 6), none, 0⟩,
     ⟨some 23, .ixs 1 (.t 21) (.t 22), none, 3⟩,
     ⟨some 24, .ld 1 false (.t 23), none, 7⟩,
     ⟨some 25, .mv (.t 1), none, 0⟩,
     ⟨some 26, .mv (.t 6), none, 0⟩,
     ⟨some 27, .bin .sub (.t 26) (.c (.d (.v (.int .i64 1)))), none, 32⟩,
     ⟨some 28, .ixs 1 (.t 25) (.t 27), none, 112⟩,
     ⟨some 29, .ld 1 false (.t 28), none, 240⟩,
     ⟨some 30, .bin .sub (.t 24) (.t 29), none, 511⟩,
     ⟨some 31, .eq .int true (.t 30) (.c (.d (.v (.int .u64 1)))), none, 1023⟩])
   (.cond 31 (.seq (.reg false [⟨some 4, .mv (.c (.d (.v (.int .u64 0)))), none, 0⟩,
       ⟨some 5, .mv (.c (.d (.v (.bool false)))), none, 0⟩])
     (.ret))
     (.skip))))
 (.reg false [⟨some 19, .mv (.t 6), none, 0⟩,
   ⟨some 20, .bin .add (.t 19) (.c (.d (.v (.int .i64 1)))), none, 0⟩,
   ⟨some 6, .mv (.t 20), none, 0⟩]))
def K1043_3 : CC := .reg false [⟨some 6, .mv (.c (.d (.v (.int .i64 1)))), none, 0⟩]
def K1043_4 : CC := .seq (.reg false [⟨some 7, .mv (.t 0), none, 0⟩,
   ⟨some 8, .bin .lss (.t 7) (.c (.d (.v (.int .i64 1)))), none, 0⟩,
   ⟨some 9, .mv (.t 8), none, 0⟩,
   ⟨some 10, .mv (.t 1), some (9, false), 0⟩,
   ⟨some 11, .len (.t 10), some (9, false), 0⟩,
   ⟨some 12, .mv (.t 0), some (9, false), 0⟩,
   ⟨some 13, .eq .int true (.t 11) (.t 12), some (9, false), 0⟩,
   ⟨some 14, .pick (.t 9) (.c (.d (.v (.bool true)))) (.t 13), none, 0⟩])
 (.cond 14 (.seq (.reg false [⟨some 4, .mv (.c (.d (.v (.int .u64 0)))), none, 0⟩,
     ⟨some 5, .mv (.c (.d (.v (.bool false)))), none, 0⟩])
   (.ret))
   (.skip))
def K1043_5 : CC := .reg false [⟨some 4, .mv (.c (.d (.v (.int .u64 0)))), none, 0⟩,
   ⟨some 5, .mv (.c (.d (.v (.bool false)))), none, 0⟩]
/-- coatcheck/coatcheckref18.Payload -/
def C1043 : CF := ⟨2, [(4, none), (5, none)],
 .seq K1043_5 (.seq K1043_4 (.seq (.seq K1043_3 (.block 0 (.loop L1043_2))) K1043_1))⟩
theorem c1043 : coF Try.prog Try.f29 = some C1043 := by kernel_rfl
def A1043 : Ann := { keep := [0, 1, 4, 5, 6, 14, 18, 31], live := [(0, [1, 6])] }
def E1043 {Ω : Type} : Env Ω := enil
theorem e1043 : GoodE Try.prog E1043 := GoodE.nil
def Z1043_2 {Ω : Type} (it : Itr Ω) (K : SV → SH → Option Ω) : SE → SS → Option Ω := kblk 0 (kseq it E1043 A1043 K1043_1 0 (kfn C1043 K))
end Go.Sx.Pr

/- guard.Payload and the document's: contracts. -/
namespace Go.Sx.Pr
namespace Gd
open Go Go.Sx Go.Sx.Md Go.Proofs
set_option maxRecDepth 100000

abbrev w64' (x : Int) : Int := IntKind.wrap .i64 x
abbrev wU (x : Int) : Int := IntKind.wrap .u64 x
theorem w64_id {x : Int} (h1 : -9223372036854775808 ≤ x) (h2 : x ≤ 9223372036854775807) : w64' x = x := by
  rw [w64', IntKind.wrap_i64]; omega
theorem wU_eq (x : Int) : wU x = x % 18446744073709551616 := by rw [wU, IntKind.wrap_u64]; first | done | rfl
theorem br_t {α : Type} {x y : α} : br true x y = x := by first | exact _root_.id (Eq.refl _)
theorem br_f {α : Type} {x y : α} : br false x y = y := by first | exact _root_.id (Eq.refl _)
theorem inB_of {i : Int} {n : Nat} (h0 : 0 ≤ i) (h1 : i < n) : inB i n = true := by simp only [inB, Bool.and_eq_true, decide_eq_true_eq]; exact ⟨h0, h1⟩
def KS : SV → SH → Option (SV × SH) := fun r h => some (r, h)
def GivesV (o : Option (SV × SH)) (r : SV) : Prop := ∃ H, o = some (r, H)
theorem givesV {r : SV} {H : SH} : GivesV (KS r H) r := ⟨H, rfl⟩
theorem n1042 {Ω : Type} (it : Itr Ω) (K : SV → SH → Option Ω) (n : Int) (ws : List Int) :
    sxFnI it E1042 A1042 C1042 [I n, .d (.ints .u64 ws)] [] K =
    br (! (↑ (List.length ws) : Int) == n) (K (.tup [U 0, B false]) []) (br (decide (n < 1)) (K (.tup [U 0, B false]) []) (it [1, 16, 17, 18] 0 (sxI it E1042 A1042 L1042_2 0) (SS.mk [(1, .d (DV.ints .u64 ws)), (16, .d (DV.ints .u64 ws)), (17, I (↑ (List.length ws) : Int)), (18, I 0)] []) (Z1042_2 it K))) := by kernel_rfl
theorem n1043 {Ω : Type} (it : Itr Ω) (K : SV → SH → Option Ω) (n : Int) (ws : List Int) :
    sxFnI it E1043 A1043 C1043 [I n, .d (.ints .u64 ws)] [] K =
    br (decide (n < 1)) (K (.tup [U 0, B false]) []) (br (! (↑ (List.length ws) : Int) == n) (K (.tup [U 0, B false]) []) (it [1, 6] 0 (sxI it E1043 A1043 L1043_2 0) (SS.mk [(1, .d (DV.ints .u64 ws)), (6, I 1)] []) (Z1043_2 it K))) := by kernel_rfl
theorem r1042 {Ω : Type} (it : Itr Ω) (IT : SS → Option Ω) (K : SV → SH → Option Ω) (ws : List Int) (i n : Int) :
    sxI it E1042 A1042 L1042_2 0 ⟨[(1, .d (.ints .u64 ws)), (16, .d (.ints .u64 ws)), (17, I n), (18, I i)], []⟩ (kitV [1, 16, 17, 18] 0 IT (Z1042_2 it K)) =
    br (decide (i < n)) (br (inB i (List.length ws)) (br (inB 0 (List.length ws)) (br (!List.getD ws (Int.toNat i) 0 == wU (List.getD ws 0 0 + wU i)) (K (.tup [U 0, B false]) []) (IT (SS.mk [(1, .d (DV.ints .u64 ws)), (16, .d (DV.ints .u64 ws)), (17, I n), (18, I (w64' (i + 1)))] []))) none) none) (br (inB 0 (List.length ws)) (K (.tup [U (List.getD ws 0 0), B true]) []) none) := by kernel_rfl
theorem r1043 {Ω : Type} (it : Itr Ω) (IT : SS → Option Ω) (K : SV → SH → Option Ω) (ws : List Int) (i : Int) :
    sxI it E1043 A1043 L1043_2 0 ⟨[(1, .d (.ints .u64 ws)), (6, I i)], []⟩ (kitV [1, 6] 0 IT (Z1043_2 it K)) =
    br (decide (i < (↑ (List.length ws) : Int))) (br (inB i (List.length ws)) (br (inB (w64' (i - 1)) (List.length ws)) (br (!wU (List.getD ws (Int.toNat i) 0 - List.getD ws (Int.toNat (w64' (i - 1))) 0) == 1) (K (.tup [U 0, B false]) []) (IT (SS.mk [(1, .d (DV.ints .u64 ws)), (6, I (w64' (i + 1)))] []))) none) none) (br (inB 0 (List.length ws)) (K (.tup [U (List.getD ws 0 0), B true]) []) none) := by kernel_rfl

/-- The rest of a payload, as the program looks at it. -/
def payR (a : Int) : Int → List Int → Bool
  | _, [] => true
  | i, x :: r => (x == wU (a + wU i)) && payR a (i + 1) r
/-- The rest of a payload, as the document looks at it. -/
def payD : Int → List Int → Bool
  | _, [] => true
  | p, x :: r => (wU (x - p) == 1) && payD x r
theorem payR_D {a : Int} : ∀ {r : List Int} {i p : Int}, (∀ x ∈ r, 0 ≤ x ∧ x ≤ 18446744073709551615) → 1 ≤ i → (0 ≤ p ∧ p ≤ 18446744073709551615) → p = wU (a + wU (i - 1)) → payR a i r = payD p r
  | [], i, p, _, _, _, _ => rfl
  | x :: r, i, p, hu, hi, hp, he => by
    unfold payR payD
    have hx := hu x (by simp)
    have e : (x == wU (a + wU i)) = (wU (x - p) == 1) := by
      rw [Bool.eq_iff_iff]
      simp only [beq_iff_eq, wU_eq] at *
      omega
    rw [← e]
    cases h : x == wU (a + wU i) with
    | false => rfl
    | true =>
      simp only [Bool.true_and]
      exact payR_D (fun y hy => hu y (by simp [hy])) (by omega) hx (by rw [show i + 1 - 1 = i by omega]; exact eq_of_beq h)
/-- The number whose payload a list of words is. -/
def payV (n : Int) (ws : List Int) : Int × Bool := bif ((ws.length : Int) == n) && (decide (1 ≤ n) && payD (ws.getD 0 0) (ws.drop 1)) then (ws.getD 0 0, true) else (0, false)
theorem payV_no {n : Int} {ws : List Int} (h : ¬ ((ws.length : Int) = n ∧ 1 ≤ n ∧ payD (ws.getD 0 0) (ws.drop 1) = true)) : payV n ws = (0, false) := by
  unfold payV
  cases e : ((ws.length : Int) == n) && (decide (1 ≤ n) && payD (ws.getD 0 0) (ws.drop 1)) with
  | false => rfl
  | true =>
    simp only [Bool.and_eq_true, decide_eq_true_eq, beq_iff_eq] at e
    exact absurd ⟨e.1, e.2.1, e.2.2⟩ h
theorem drop_at {xs r : List Int} {i : Nat} {x : Int} (hd : xs.drop i = x :: r) : xs.getD i 0 = x ∧ xs.drop (i + 1) = r := by
  constructor
  · have := congrArg (fun l => l.getD 0 0) hd
    simpa [List.getD_eq_getElem?_getD, List.getElem?_drop] using this
  · have := congrArg (List.drop 1) hd
    simpa [List.drop_drop, Nat.add_comm] using this
theorem l1042 {ws : List Int} (hl : ws.length < 1000000000) (h0 : 0 < ws.length) : ∀ (r : List Int) (i N : Nat), ws.drop i = r → i + r.length = ws.length → r.length < N →
    GivesV (iter [1, 16, 17, 18] 0 (sxI itB E1042 A1042 L1042_2 0) N ⟨[(1, .d (.ints .u64 ws)), (16, .d (.ints .u64 ws)), (17, I ws.length), (18, I i)], []⟩ (Z1042_2 itB KS)) (.tup [U (bif payR (ws.getD 0 0) i r then ws.getD 0 0 else 0), B (payR (ws.getD 0 0) i r)])
  | [], i, N, hd, hi, hN => by
    obtain ⟨N, rfl⟩ : ∃ k, N = k + 1 := ⟨N - 1, by omega⟩
    simp only [List.length_nil, Nat.add_zero] at hi
    rw [iter_succ, r1042, decide_eq_false (by omega), br_f, inB_of (by omega) (by omega), br_t]
    exact givesV
  | x :: r, i, N, hd, hi, hN => by
    obtain ⟨N, rfl⟩ : ∃ k, N = k + 1 := ⟨N - 1, by omega⟩
    simp only [List.length_cons] at hi hN
    obtain ⟨hx, hr⟩ := drop_at hd
    rw [iter_succ, r1042, decide_eq_true (by omega), br_t, inB_of (by omega) (by omega), br_t, inB_of (by omega) (by omega), br_t, Int.toNat_natCast, hx]
    unfold payR
    cases hv : x == wU (ws.getD 0 0 + wU i) with
    | false => exact givesV
    | true =>
      rw [Bool.not_true, br_f, Bool.true_and, w64_id (by omega) (by omega)]
      have ih := l1042 hl h0 r (i + 1) N hr (by omega) (by omega)
      rw [show ((i + 1 : Nat) : Int) = (i : Int) + 1 by push_cast; rfl] at ih
      exact ih
theorem l1043 {ws : List Int} (hl : ws.length < 1000000000) (h0 : 0 < ws.length) : ∀ (r : List Int) (i N : Nat), 1 ≤ i → ws.drop i = r → i + r.length = ws.length → r.length < N →
    GivesV (iter [1, 6] 0 (sxI itB E1043 A1043 L1043_2 0) N ⟨[(1, .d (.ints .u64 ws)), (6, I i)], []⟩ (Z1043_2 itB KS)) (.tup [U (bif payD (ws.getD (i - 1) 0) r then ws.getD 0 0 else 0), B (payD (ws.getD (i - 1) 0) r)])
  | [], i, N, h1, hd, hi, hN => by
    obtain ⟨N, rfl⟩ : ∃ k, N = k + 1 := ⟨N - 1, by omega⟩
    simp only [List.length_nil, Nat.add_zero] at hi
    rw [iter_succ, r1043, decide_eq_false (by omega), br_f, inB_of (by omega) (by omega), br_t]
    exact givesV
  | x :: r, i, N, h1, hd, hi, hN => by
    obtain ⟨N, rfl⟩ : ∃ k, N = k + 1 := ⟨N - 1, by omega⟩
    simp only [List.length_cons] at hi hN
    obtain ⟨hx, hr⟩ := drop_at hd
    rw [iter_succ, r1043, decide_eq_true (by omega), br_t, inB_of (by omega) (by omega), br_t, w64_id (x := (i : Int) - 1) (by omega) (by omega), inB_of (by omega) (by omega), br_t, Int.toNat_natCast, hx, show ((i : Int) - 1).toNat = i - 1 by omega]
    unfold payD
    cases hv : wU (x - ws.getD (i - 1) 0) == 1 with
    | false => exact givesV
    | true =>
      rw [Bool.not_true, br_f, Bool.true_and, w64_id (by omega) (by omega)]
      have ih := l1043 hl h0 r (i + 1) N (by omega) hr (by omega) (by omega)
      rw [show ((i + 1 : Nat) : Int) = (i : Int) + 1 by push_cast; rfl, show i + 1 - 1 = i by omega, hx] at ih
      exact ih
theorem pay_pair (b : Bool) (x : Int) : (SV.tup [U (bif b then x else 0), B b]) = .tup [U (bif b then (x, true) else (0, false)).1, B (bif b then (x, true) else ((0 : Int), false)).2] := by cases b <;> rfl
theorem v1043 {n : Int} {ws : List Int} (h : (decide (ws.length < 1000000000) && u64B ws) = true) : GivesV (sxFn E1043 A1043 C1043 [I n, .d (.ints .u64 ws)] [] KS) (.tup [U (payV n ws).1, B (payV n ws).2]) := by
  simp only [Bool.and_eq_true, decide_eq_true_eq] at h
  obtain ⟨hl, hu⟩ := h
  rw [← sxFnI_eq, n1043]
  by_cases h1 : n < 1
  · rw [decide_eq_true h1, br_t, payV_no (by omega)]; exact givesV
  · rw [decide_eq_false h1, br_f]
    by_cases h2 : (ws.length : Int) = n
    · rw [show (!(ws.length : Int) == n) = false by simp [h2], br_f, itB_def]
      have hk := l1043 hl (by omega) (ws.drop 1) 1 big (by omega) rfl (by simp; omega) (by simp; unfold big; omega)
      simp only [Nat.sub_self] at hk
      unfold payV
      rw [show ((ws.length : Int) == n) = true by simp [h2], Bool.true_and, decide_eq_true (show 1 ≤ n by omega), Bool.true_and, ← pay_pair]
      exact hk
    · rw [show (!(ws.length : Int) == n) = true by simp [h2], br_t, payV_no (by omega)]; exact givesV
theorem v1042 {n : Int} {ws : List Int} (h : (decide (ws.length < 1000000000) && u64B ws) = true) : GivesV (sxFn E1042 A1042 C1042 [I n, .d (.ints .u64 ws)] [] KS) (.tup [U (payV n ws).1, B (payV n ws).2]) := by
  simp only [Bool.and_eq_true, decide_eq_true_eq] at h
  obtain ⟨hl, hu⟩ := h
  rw [← sxFnI_eq, n1042]
  by_cases h2 : (ws.length : Int) = n
  · rw [show (!(ws.length : Int) == n) = false by simp [h2], br_f]
    by_cases h1 : n < 1
    · rw [decide_eq_true h1, br_t, payV_no (by omega)]; exact givesV
    · rw [decide_eq_false h1, br_f, itB_def]
      have hk := l1042 hl (by omega) ws 0 big rfl (by simp) (by unfold big; omega)
      cases ws with
      | nil => simp at h2; omega
      | cons x r =>
        have hu' := List.all_eq_true.1 hu
        have hx := hu' x (by simp)
        simp only [Bool.and_eq_true, decide_eq_true_eq] at hx
        have hp : payR x ((0 : Nat) : Int) (x :: r) = payD x r := by
          unfold payR
          rw [show (x == wU (x + wU ((0 : Nat) : Int))) = true by simp only [beq_iff_eq, wU_eq]; omega, Bool.true_and]
          exact payR_D (fun y hy => by have := hu' y (by simp [hy]); simpa using this) (by omega) hx (by simp only [wU_eq]; omega)
        simp only [List.getD_cons_zero] at hk
        rw [hp] at hk
        unfold payV
        rw [show (((x :: r).length : Int) == n) = true by simp at h2 ⊢; omega, Bool.true_and, decide_eq_true (show 1 ≤ n by omega), Bool.true_and]
        simp only [List.getD_cons_zero, List.drop_succ_cons, List.drop_zero]
        rw [← pay_pair]
        exact hk
  · rw [show (!(ws.length : Int) == n) = true by simp [h2], br_t, payV_no (by omega)]; exact givesV
end Gd
end Go.Sx.Pr

/- The library contracts that this seat uses, laid at its program (what the shelf's tool printed). -/
namespace Go.Proofs
open Go.Shelf
def Try.lays125_ren : Go.Shelf.Ren := ⟨fun | 125 => 89 | 128 => 109 | 129 => 110 | n => n, fun | 46 => 127 | 3 => 3 | 51 => 157 | 53 => 27 | 4 => 4 | 5 => 5 | 9 => 9 | n => n, fun | n => n⟩
theorem Try.lays125 : Go.Proofs.Lays.n125 Try.prog Try.lays125_ren := {
  mixed := by kernel_rfl
  f125 := Try.func89.trans (congrArg some (by kernel_rfl))
  f128 := Try.func109.trans (congrArg some (by kernel_rfl))
  f129 := Try.func110.trans (congrArg some (by kernel_rfl))
  t3 := Try.underlying3
  a3 := Try.isAgg3
  z3 := Try.sizeOf3
  v3 := Try.zeroValue3
  t4 := Try.underlying4
  a4 := Try.isAgg4
  z4 := Try.sizeOf4
  v4 := Try.zeroValue4
  t5 := Try.underlying5
  a5 := Try.isAgg5
  z5 := Try.sizeOf5
  v5 := Try.zeroValue5
  t9 := Try.underlying9
  a9 := Try.isAgg9
  z9 := Try.sizeOf9
  v9 := Try.zeroValue9
  t46 := Try.underlying127
  a46 := Try.isAgg127
  z46 := Try.sizeOf127
  v46 := Try.zeroValue127
  t51 := Try.underlying157
  a51 := Try.isAgg157
  z51 := Try.sizeOf157
  v51 := Try.zeroValue157
  t53 := Try.underlying27
  a53 := Try.isAgg27
  z53 := Try.sizeOf27
  v53 := Try.zeroValue27 }
/-- bits.Len: "Len returns the minimum number of bits required to represent x; the result is 0 for x == 0.": IT RETURNS 'Lib.bitLen x'; the world is as it was. (A uint has 64 bits in the model.) ITS CALLEE bits.Len64 IS MET BY ITS OWN CONTRACT OFF THE SHELF (lay that first). (LAID: no walk: one application.) -/
theorem Try.bits_Len (x : Int) (w : World) (h0 : 0 ≤ x) (h1 : x ≤ 18446744073709551615) :
    Calls Try.prog 89 #[.int .u64 x] w fun e w' => e = .returned (.int .i64 (Lib.bitLen x.toNat)) ∧ w' = w := Any.bits_Len Try.lays125 x w h0 h1
def Try.laysNm220_ren : Go.Shelf.Ren := ⟨fun | 20 => 62 | n => n, fun | 22 => 55 | 3 => 3 | 4 => 4 | 0 => 0 | n => n, fun | n => n⟩
theorem Try.laysNm220 : Go.Proofs.Lays2.n20 Try.prog Try.laysNm220_ren := {
  mixed := by kernel_rfl
  f20 := Try.func62.trans (congrArg some (by kernel_rfl))
  t0 := Try.underlying0
  a0 := Try.isAgg0
  z0 := Try.sizeOf0
  v0 := Try.zeroValue0
  t3 := Try.underlying3
  a3 := Try.isAgg3
  z3 := Try.sizeOf3
  v3 := Try.zeroValue3
  t4 := Try.underlying4
  a4 := Try.isAgg4
  z4 := Try.sizeOf4
  v4 := Try.zeroValue4
  t22 := Try.underlying55
  a22 := Try.isAgg55
  z22 := Try.sizeOf55
  v22 := Try.zeroValue55
  i3 := by kernel_rfl }
open Go.RowKit Go.Lib Go.Sort in
/-- slices.Compact at []int: "Compact replaces consecutive runs of equal elements with a single copy. This is like the uniq command found on Unix. Compact modifies the contents of the slice s and returns the modified slice, which may have a smaller length. Compact zeroes the elements between the new length and the original length. The result preserves the nilness of s.": IT RETURNS THE SLICE CUT TO 'Lib.compact zs'; ITS CELLS HOLD 'Lib.compact zs', THEN ZERO VALUES up to the old length; all else is as it was, but for the count of draws. IN THE WORDS OF slices.Sort's CONTRACT ('Holds', 'putRow'): so the everyday 'slices.Sort(xs); xs = slices.Compact(xs)' goes from the one contract to the other. It asks 'zs.length ≤ cap' (every slice's: the reslicing 's[:k]' looks at it). Length 0, nil: '.._empty'. (LAID: no walk: one application.) -/
theorem Try.slices_Compact_int (blk off cap : Nat) (zs : List Int) (w : World) (hH : Holds (Value.int .i64) w blk off zs.toArray) (hsz : zs.length ≤ 9223372036854775807) (hcap : zs.length ≤ cap) :
    Calls Try.prog 62 #[.slice (some ⟨blk, off, none⟩) zs.length cap] w fun e w' => e = .returned (.slice (some ⟨blk, off, none⟩) (Lib.compact zs).length cap) ∧ ∃ q, w' = putRow (Value.int .i64) (Sort.ahead w q) blk off (Lib.compact zs ++ List.replicate (zs.length - (Lib.compact zs).length) 0).toArray := Any.slices_Compact_int Try.laysNm220 blk off cap zs w hH hsz hcap
open Go.RowKit Go.Lib Go.Sort in
/-- The same at a slice of length 0, a nil one too: it comes back as it is. (LAID: no walk: one application.) -/
theorem Try.slices_Compact_int_empty (a : Option Addr) (cap : Nat) (w : World) :
    Calls Try.prog 62 #[.slice a 0 cap] w fun e w' => e = .returned (.slice a 0 cap) ∧ w' = w := Any.slices_Compact_int_empty Try.laysNm220 a cap w
end Go.Proofs

/- Contracts of the library by hand: bits.Len, slices.Compact on a row of our own. -/
namespace Go.Sx.Pr
open Go Go.Sx Go.Sx.Md Go.Proofs
set_option maxRecDepth 100000

theorem scrubL_no {l : Nat} : ∀ {c : List SV}, mentL (Nat.beq l) c = false → scrubL l c = c
  | [], _ => rfl
  | x :: r, h => by
    simp only [mentL, Bool.or_eq_false_iff] at h
    simp only [scrubL, h.1, cond_false, scrubL_no h.2]
theorem scrubE_no {l : Nat} : ∀ {c : List (Value × SV)}, mentE (Nat.beq l) c = false → scrubE l c = c
  | [], _ => rfl
  | (q, x) :: r, h => by
    simp only [mentE, Bool.or_eq_false_iff] at h
    simp only [scrubE, h.1, cond_false, scrubE_no h.2]
theorem scrubH_no {l : Nat} : ∀ {h : SH}, mentH (Nat.beq l) h = false → scrubH l h = h
  | [], _ => rfl
  | o :: r, h => by
    simp only [mentH, Bool.or_eq_false_iff] at h
    simp only [scrubH, scrubH_no h.2]
    congr 1
    cases o <;> simp_all [scrubO, mentO, scrubL_no, scrubE_no]
theorem enter_of {n : Nat} {f : Func} (hf : Try.prog.funcs[n]? = some f) (hn : (f.name == "runtime.NumGoroutine") = false) (hb : f.body.isSome = true) (args : Array Value) (w : World) : (callFunc n args).run Try.prog w = .ok (.enter n args) w := by
  have h1 : f.name ≠ "runtime.NumGoroutine" := by simpa using hn
  obtain ⟨c, hb⟩ := Option.isSome_iff_exists.1 hb
  simp [callFunc, hf, h1, hb]

def S1086 {Ω : Type} : Spec Ω := fun args h k => match args with
  | [.d (.v (.int .u64 x))] => br (decide (0 ≤ x) && decide (x ≤ 18446744073709551615)) (k (.d (.v (.int .i64 (Lib.bitLen x.toNat)))) [] [] h) none
  | _ => none
theorem g1086 : Good1 Try.prog 89 S1086 := by
  refine ⟨fun Ω => ⟨enter_of Try.func89 (by kernel_rfl) (by kernel_rfl), fun args h k out hs => ?_⟩, fun Ω Ω' => ?_⟩
  · unfold S1086 at hs
    split at hs
    · rename_i x
      rcases br_some hs with ⟨hb, hs2⟩ | ⟨hb, hs2⟩
      · simp only [Bool.and_eq_true, decide_eq_true_eq] at hb
        refine ⟨_, _, _, _, hs2, Keeps.refl _ _, fun cx w vals hg ha => ?_⟩
        match vals, ha with
        | [u], ha =>
          simp only [SRepL, SRep, DRep, and_true] at ha
          obtain ⟨rfl, _⟩ := ha
          refine (Try.bits_Len x w hb.1 hb.2).mono fun e w' ⟨e1, e2⟩ => ?_
          subst e2
          exact ⟨_, cx, e1, Grow.refl _ _ _, by simp [SRep, DRep, cellV], hg⟩
        | [], ha => simp [SRepL] at ha
        | _ :: _ :: _, ha => simp [SRepL] at ha
      · cases hs2
    · cases hs
  · intro args h k out hs
    unfold S1086 at hs ⊢
    split at hs
    · rename_i x
      rcases br_some hs with ⟨hb, hs⟩ | ⟨hb, hs⟩
      · exact ⟨_, _, _, _, hs, fun k' => by simp only [hb, br, cond_true]⟩
      · cases hs
    · cases hs

def S1080 {Ω : Type} : Spec Ω := fun args h k => match args with
  | [.own l] => match hget h l with
    | .rowi t .i64 xs => br (decide (xs.length ≤ 9223372036854775807) && !mentH (Nat.beq l) h) (k (.own l) [l] [l] (h.set l (.rowi t .i64 (Lib.compact xs)))) none
    | _ => none
  | _ => none
theorem compact_own {cx : Cx} {h : SH} {w : World} {l : Nat} {t : TypeId} {xs : List Int} (hgt : hget h l = .rowi t .i64 xs) (hb : xs.length ≤ 9223372036854775807) (hm : mentH (Nat.beq l) h = false)
    (hg : Gam cx h w) {u : Value} (hu : SRep cx w (.own l) u) :
    Calls Try.prog 62 #[u] w fun e w' => ∃ v cx', e = .returned v ∧ Grow (Nat.beq l) cx w cx' w' ∧ SRep cx' w' (.own l) v ∧ Gam cx' (h.set l (.rowi t .i64 (Lib.compact xs))) w' := by
  simp only [SRep] at hu
  obtain ⟨hln, rfl⟩ := hu
  have hO := hg.obj l
  have hlh : l < h.length := hg.n ▸ hln
  rw [hgt] at hO
  obtain ⟨h1, h2, h3, h4, h5⟩ := hO
  cases xs with
  | nil =>
    have hset : h.set l (.rowi t .i64 (Lib.compact [])) = h := by
      have hc : (Lib.compact ([] : List Int)) = [] := rfl
      rw [hc, ← hgt]
      unfold hget
      apply List.ext_getElem?
      intro i
      rw [List.getElem?_set]
      split
      · rename_i e; subst e
        simp [hlh, List.getD_eq_getElem?_getD]
      · rfl
    rw [hset]
    simp only [List.length_nil] at h1
    rw [h1]
    refine (Try.slices_Compact_int_empty _ (cx.cp l) w).mono fun e w' ⟨e1, e2⟩ => ?_
    subst e2
    exact ⟨_, cx, e1, Grow.refl _ _ _, by simp [SRep, hln, h1], hg⟩
  | cons x r =>
    generalize hxs : x :: r = xs at *
    have hpos : 0 < xs.length := by rw [← hxs]; simp
    have hq : cx.nl l = false := by
      cases hq : cx.nl l with
      | false => rfl
      | true => have := h4 hq; omega
    obtain ⟨t', c', hb1, hb2, hb3⟩ := h5 hq
    rw [hq, h1]
    have hlive : liv cx h l := by simp [liv, hgt, hq]
    have hcl := Lib.compact_length_le xs
    refine (Try.slices_Compact_int (cx.th l) 0 (cx.cp l) xs w (fun j hj => ?_) hb h3).mono fun e w' ⟨e1, q, e2⟩ => ?_
    · have hj' : j < xs.length := by simpa using hj
      refine ⟨?_, ?_⟩
      · simp only [World.cell?, hb1, Nat.zero_add, Option.isSome_none, Bool.false_eq_true, if_false]
        have := hb3 j hj'
        simp only [getElem!_pos xs.toArray j hj]
        simpa [List.getD_eq_getElem?_getD, hj'] using this
      · simp [World.frozen?, hb1]
    · generalize hys : (Lib.compact xs ++ List.replicate (xs.length - (Lib.compact xs).length) 0).toArray = ys at e2
      have hh : ∀ b : Nat, w'.heap[b]? = (w.heap.modify (cx.th l) (Go.Sort.onCells (Go.Sort.putCells (Value.int .i64) 0 ys)))[b]? := fun b => by rw [e2]; rfl
      have hoth : ∀ b : Nat, b ≠ cx.th l → w'.heap[b]? = w.heap[b]? := fun b hne => by rw [hh]; simp [Array.getElem?_modify, Ne.symm hne]
      have hsz : w'.heap.size = w.heap.size := by rw [e2]; simp [Go.Sort.putRow, Go.Sort.mapBlock, Go.Sort.ahead]
      have hsame : ∀ b : Nat, cx.hd b → w'.heap[b]? = w.heap[b]? := fun b hd => hoth b (fun e => hg.own l hlive (e ▸ hd))
      have hio : Io w w' := ⟨by rw [e2]; rfl, by rw [e2]; rfl, fun a => by rw [e2, Go.Sort.frozen?_putRow]; rfl⟩
      have gr : Grow (Nat.beq l) cx w (cx.re l (cx.th l) (Lib.compact xs).length (cx.cp l) false) w' := Grow.re l _ _ _ _ hsame (by omega) hio
      have hblk : w'.heap[cx.th l]? = some (.cells (Go.Sort.putCells (Value.int .i64) 0 ys c') t' (0, 0)) := by rw [hh]; simp [Array.getElem?_modify, hb1, Go.Sort.onCells]
      have hG := Gam.renew hg hlh gr rfl (fun _ h => h) (fun q hq' hvq => hoth _ (fun e => hq' (hg.inj q l hvq hlive e))) (o' := .rowi t .i64 (Lib.compact xs))
        (by
          simp only [ORep, Cx.re, upd_same]
          refine ⟨trivial, h2, by omega, by simp, fun _ => ⟨t', _, hblk, by simp [Go.Sort.putCells, hb2], fun i hi => ?_⟩⟩
          have hys2 : ys.size = xs.length := by rw [← hys]; simp; omega
          have hic : i < c'.size := by omega
          simp only [Go.Sort.putCells, Array.getElem?_mapIdx, Array.getElem?_eq_getElem hic, Option.map_some]
          rw [if_pos ⟨by omega, by omega⟩, getElem!_pos ys _ (by omega)]
          simp only [← hys, Nat.sub_zero]
          simp [List.getElem_append, hi, List.getD_eq_getElem?_getD])
        (fun _ => by
          simp only [Cx.re, upd_same]
          exact ⟨by rw [hsz]; exact hg.lt l hlive, hg.own l hlive, fun q hq' hvq e => hq' (hg.inj l q hlive hvq e).symm⟩)
      rw [scrubH_no hm] at hG
      exact ⟨_, _, e1, gr, by simp [SRep, Cx.re, hln, ad], hG⟩
theorem g1080 : Good1 Try.prog 62 S1080 := by
  refine ⟨fun Ω => ⟨enter_of Try.func62 (by kernel_rfl) (by kernel_rfl), fun args h k out hs => ?_⟩, fun Ω Ω' => ?_⟩
  · unfold S1080 at hs
    split at hs
    · rename_i l
      split at hs
      · rename_i t xs hgt
        rcases br_some hs with ⟨hb, hs2⟩ | ⟨hb, hs2⟩
        · simp only [Bool.and_eq_true, decide_eq_true_eq, Bool.not_eq_true'] at hb
          refine ⟨_, _, _, _, hs2, ⟨by simp, fun m _ hm => ?_⟩, fun cx w vals hg ha => ?_⟩
          · refine hget_set_ne fun e => ?_
            subst e
            simp [nmem] at hm
          · match vals, ha with
            | [u], ha =>
              simp only [SRepL, and_true] at ha
              refine (compact_own hgt hb.1 hb.2 hg ha).mono fun e w' ⟨v, cx', q1, q2, q3, q4⟩ => ⟨v, cx', q1, q2.weak fun m hm => ?_, q3, q4⟩
              simpa [nmem] using hm
            | [], ha => simp [SRepL] at ha
            | _ :: _ :: _, ha => simp [SRepL] at ha
        · cases hs2
      · cases hs
    · cases hs
  · intro args h k out hs
    unfold S1080 at hs ⊢
    split at hs
    · rename_i l
      split at hs
      · rename_i t xs hgt
        rcases br_some hs with ⟨hb, hs⟩ | ⟨hb, hs⟩
        · exact ⟨_, _, _, _, hs, fun k' => by simp only [hgt, hb, br, cond_true]⟩
        · cases hs
      · cases hs
    · cases hs
end Go.Sx.Pr

namespace Go.Sx.Pr
open Go Go.Sx Go.Proofs
set_option maxRecDepth 100000
/-- slices.Sort[[]int,int] -/
def C1079 : CF := ⟨1, [],
 .seq (.reg false [⟨some 3, .mv (.t 0), none, 0⟩,
   ⟨some 4, .len (.t 3), none, 0⟩,
   ⟨some 2, .mv (.t 4), none, 0⟩])
 (.reg false [⟨some 5, .mv (.t 0), none, 0⟩,
   ⟨some 6, .mv (.t 2), none, 0⟩,
   ⟨some 7, .mv (.t 2), none, 0⟩,
   ⟨some 8, .conv .u64 (.t 7), none, 0⟩,
   ⟨some 9, .call (.c (.fn (.func 89) [] [])) [.t 8], none, 0⟩,
   ⟨some 10, .call (.c (.fn (.func 88) [] [])) [.t 5, .c (.d (.v (.int .i64 0))), .t 6, .t 9], none, 0⟩])⟩
theorem c1079 : coF Try.prog Try.f61 = some C1079 := by kernel_rfl
def A1079 : Ann := { keep := [0, 2], live := [] }
def E1079 {Ω : Type} : Env Ω := econs 88 S1085 (econs 89 S1086 (enil))
theorem e1079 : GoodE Try.prog E1079 := GoodE.cons g1085 (GoodE.cons g1086 (GoodE.nil))
def S1079 {Ω : Type} : Spec Ω := inl E1079 A1079 C1079 false
theorem g1079 : Good1 Try.prog 61 S1079 := Good1.inl e1079 mix Try.func61 (by kernel_rfl) c1079 A1079 false
def K1047_1 : CC := .seq (.reg false [⟨some 40, .mv (.t 3), none, 0⟩,
   ⟨some 41, .call (.c (.fn (.func 61) [] [])) [.t 40], none, 0⟩])
 (.seq (.reg false [⟨some 42, .mv (.t 3), none, 0⟩,
   ⟨some 43, .call (.c (.fn (.func 62) [] [])) [.t 42], none, 0⟩,
   ⟨some 2, .mv (.t 43), none, 0⟩])
 (.ret))
def K1047_2 : CC := .reg false [⟨some 39, .bin .add (.t 8) (.c (.d (.v (.int .i64 1)))), none, 0⟩,
   ⟨some 8, .mv (.t 39), none, 0⟩]
def K1047_3 : CC := .seq (.reg false [⟨some 26, .fa 8 (.t 5), none, 0⟩,
   ⟨some 27, .ld 1 false (.t 26), none, 0⟩,
   ⟨some 28, .mv (.t 27), none, 0⟩,
   ⟨some 29, .fa 22 (.t 5), some (28, true), 0⟩,
   ⟨some 30, .ld 1 false (.t 29), some (28, true), 0⟩,
   ⟨some 31, .eq .int true (.t 30) (.c (.d (.v (.int .i64 0)))), some (28, true), 0⟩,
   ⟨some 32, .pick (.t 28) (.t 31) (.c (.d (.v (.bool false)))), none, 0⟩])
 (.cond 32 (.reg false [⟨some 33, .mv (.t 3), none, 0⟩,
     ⟨some 34, .fa 22 (.t 5), none, 0⟩,
     ⟨some 35, .ld 1 false (.t 34), none, 0⟩,
     ⟨some 36, .bin .sub (.t 35) (.c (.d (.v (.int .i64 1)))), none, 0⟩,
     ⟨some 37, .bsl 3 1 1 [.d (.v (.int .i64 0))] [(0, 1, .t 36)], none, 0⟩,
     ⟨some 38, .app 3 1 8 (some .i64) (.t 33) (.t 37), none, 0⟩,
     ⟨some 3, .mv (.t 38), none, 0⟩])
   (.skip))
def K1047_4 : CC := .seq (.reg false [⟨some 12, .fa 0 (.t 5), none, 0⟩,
   ⟨some 13, .ld 1 false (.t 12), none, 0⟩,
   ⟨some 14, .eq .int false (.t 13) (.c (.d (.v (.int .i64 61)))), none, 0⟩,
   ⟨some 15, .mv (.t 14), none, 0⟩,
   ⟨some 16, .fa 21 (.t 5), some (15, true), 0⟩,
   ⟨some 17, .ld 1 false (.t 16), some (15, true), 0⟩,
   ⟨some 18, .eq .int true (.t 17) (.c (.d (.v (.int .i64 0)))), some (15, true), 0⟩,
   ⟨some 19, .pick (.t 15) (.t 18) (.c (.d (.v (.bool false)))), none, 0⟩])
 (.cond 19 (.reg false [⟨some 20, .mv (.t 3), none, 0⟩,
     ⟨some 21, .fa 21 (.t 5), none, 0⟩,
     ⟨some 22, .ld 1 false (.t 21), none, 0⟩,
     ⟨some 23, .bin .sub (.t 22) (.c (.d (.v (.int .i64 1)))), none, 0⟩,
     ⟨some 24, .bsl 3 1 1 [.d (.v (.int .i64 0))] [(0, 1, .t 23)], none, 0⟩,
     ⟨some 25, .app 3 1 8 (some .i64) (.t 20) (.t 24), none, 0⟩,
     ⟨some 3, .mv (.t 25), none, 0⟩])
   (.skip))
def K1047_5 : CC := .reg false [⟨some 10, .ixs 33 (.t 6) (.t 8), none, 0⟩,
   ⟨some 11, .ld 33 true (.t 10), none, 0⟩,
   ⟨some 5, .newc 60 [.d (.v (.int .i64 0)), .d (.v (.int .i64 0)), .d (.v (.int .u64 0)), .d (.v (.int .u64 0)), .d (.v (.int .i64 0)), .d (.v (.bool false)), .d (.v (.int .i64 0)), .d (.v (.int .i64 0)), .d (.v (.bool false)), .d (.v (.int .u64 0)), .d (.v (.slice none 0 0)), .d (.v (.int .u64 0)), .d (.v (.slice none 0 0)), .d (.v (.int .u64 0)), .d (.v (.slice none 0 0)), .d (.v (.int .u64 0)), .d (.v (.slice none 0 0)), .d (.v (.slice none 0 0)), .d (.v (.int .i64 0)), .d (.v (.int .i64 0)), .d (.v (.int .i64 0)), .d (.v (.int .i64 0)), .d (.v (.int .i64 0)), .d (.v (.int .u64 0)), .d (.v (.int .u64 0)), .d (.v (.int .u64 0)), .d (.v (.int .u64 0)), .d (.v (.int .u64 0)), .d (.v (.int .i64 0)), .d (.v (.slice none 0 0)), .d (.v (.int .u64 0)), .d (.v (.int .i64 0)), .d (.v (.bool false))], none, 0⟩,
   ⟨none, .st 33 (.t 5) (.t 11), none, 0⟩]
def K1047_6 : CC := .cond 9 (.skip)
   (.exit 0)
def K1047_7 : CC := .reg false [⟨some 9, .bin .lss (.t 8) (.t 7), none, 0⟩]
def L1047_8 : CC := .seq K1047_7 (.seq K1047_6 (.seq (.block 1 (.seq K1047_5 (.seq K1047_4 K1047_3))) K1047_2))
def K1047_9 : CC := .reg false [⟨some 6, .mv (.t 0), none, 0⟩,
   ⟨some 7, .len (.t 6), none, 0⟩,
   ⟨some 8, .mv (.c (.d (.v (.int .i64 0)))), none, 0⟩]
def K1047_10 : CC := .reg false [⟨some 3, .mv (.c (.d (.v (.slice none 0 0)))), none, 0⟩]
def K1047_11 : CC := .reg false [⟨some 2, .mv (.c (.d (.v (.slice none 0 0)))), none, 0⟩]
/-- coatcheck/guard.Seen -/
def C1047 : CF := ⟨1, [(2, none)],
 .seq K1047_11 (.seq K1047_10 (.seq (.seq K1047_9 (.block 0 (.loop L1047_8))) K1047_1))⟩
theorem c1047 : coF Try.prog Try.f30 = some C1047 := by kernel_rfl
def A1047 : Ann := { keep := [0, 2, 3, 5, 6, 7, 8, 9, 19, 32], live := [(0, [3, 6, 7, 8])] }
def E1047 {Ω : Type} : Env Ω := econs 61 S1079 (econs 62 S1080 (enil))
theorem e1047 : GoodE Try.prog E1047 := GoodE.cons g1079 (GoodE.cons g1080 (GoodE.nil))
def S1047 {Ω : Type} : Spec Ω := inl E1047 A1047 C1047 false
theorem g1047 : Good1 Try.prog 30 S1047 := Good1.inl e1047 mix Try.func30 (by kernel_rfl) c1047 A1047 false
def K1041_1 : CC := .seq (.reg false [⟨some 9, .bsl 27 1 3 [.d (.v (.int .u64 0))] [(0, 1, .c (.d (.v (.int .u64 7)))), (1, 1, .c (.d (.v (.int .u64 8)))), (2, 1, .c (.d (.v (.int .u64 9))))], none, 0⟩,
   ⟨some 10, .call (.c (.fn (.func 28) [] [])) [.c (.d (.v (.int .i64 3))), .t 9], none, 0⟩,
   ⟨some 8, .mv (.t 10), none, 0⟩,
   ⟨some 11, .ext 0 (.t 8), none, 0⟩,
   ⟨some 12, .ext 1 (.t 8), none, 0⟩,
   ⟨some 2, .mv (.t 11), none, 0⟩,
   ⟨some 3, .mv (.t 12), none, 0⟩])
 (.seq (.reg false [⟨some 13, .mv (.t 1), none, 0⟩,
   ⟨some 14, .len (.t 13), none, 0⟩,
   ⟨some 15, .eq .int false (.t 14) (.c (.d (.v (.int .i64 1)))), none, 0⟩,
   ⟨some 16, .mv (.t 15), none, 0⟩,
   ⟨some 17, .mv (.t 1), some (16, true), 0⟩,
   ⟨some 18, .ixs 1 (.t 17) (.c (.d (.v (.int .i64 0)))), some (16, true), 0⟩,
   ⟨some 19, .ld 1 false (.t 18), some (16, true), 0⟩,
   ⟨some 20, .eq .int false (.t 19) (.c (.d (.v (.int .i64 2)))), some (16, true), 0⟩,
   ⟨some 21, .pick (.t 16) (.t 20) (.c (.d (.v (.bool false)))), none, 0⟩,
   ⟨some 22, .mv (.t 21), none, 0⟩,
   ⟨some 23, .mv (.t 2), some (22, true), 0⟩,
   ⟨some 24, .eq .int false (.t 23) (.c (.d (.v (.int .u64 7)))), some (22, true), 0⟩,
   ⟨some 25, .pick (.t 22) (.t 24) (.c (.d (.v (.bool false)))), none, 0⟩,
   ⟨some 26, .mv (.t 25), none, 0⟩,
   ⟨some 27, .mv (.t 3), some (26, true), 0⟩,
   ⟨some 28, .pick (.t 26) (.t 27) (.c (.d (.v (.bool false)))), none, 0⟩,
   ⟨some 0, .mv (.t 28), none, 0⟩])
 (.ret))
def K1041_2 : CC := .reg false [⟨some 4, .bld [.d (.v (.int .i64 0)), .d (.v (.int .i64 0)), .d (.v (.int .u64 0)), .d (.v (.int .u64 0)), .d (.v (.int .i64 0)), .d (.v (.bool false)), .d (.v (.int .i64 0)), .d (.v (.int .i64 0)), .d (.v (.bool false)), .d (.v (.int .u64 0)), .d (.v (.slice none 0 0)), .d (.v (.int .u64 0)), .d (.v (.slice none 0 0)), .d (.v (.int .u64 0)), .d (.v (.slice none 0 0)), .d (.v (.int .u64 0)), .d (.v (.slice none 0 0)), .d (.v (.slice none 0 0)), .d (.v (.int .i64 0)), .d (.v (.int .i64 0)), .d (.v (.int .i64 0)), .d (.v (.int .i64 0)), .d (.v (.int .i64 0)), .d (.v (.int .u64 0)), .d (.v (.int .u64 0)), .d (.v (.int .u64 0)), .d (.v (.int .u64 0)), .d (.v (.int .u64 0)), .d (.v (.int .i64 0)), .d (.v (.slice none 0 0)), .d (.v (.int .u64 0)), .d (.v (.int .i64 0)), .d (.v (.bool false))] [(0, 1, .c (.d (.v (.int .i64 61)))), (21, 1, .c (.d (.v (.int .i64 3))))], none, 0⟩,
   ⟨some 5, .bld [.d (.v (.int .i64 0)), .d (.v (.int .i64 0)), .d (.v (.int .u64 0)), .d (.v (.int .u64 0)), .d (.v (.int .i64 0)), .d (.v (.bool false)), .d (.v (.int .i64 0)), .d (.v (.int .i64 0)), .d (.v (.bool false)), .d (.v (.int .u64 0)), .d (.v (.slice none 0 0)), .d (.v (.int .u64 0)), .d (.v (.slice none 0 0)), .d (.v (.int .u64 0)), .d (.v (.slice none 0 0)), .d (.v (.int .u64 0)), .d (.v (.slice none 0 0)), .d (.v (.slice none 0 0)), .d (.v (.int .i64 0)), .d (.v (.int .i64 0)), .d (.v (.int .i64 0)), .d (.v (.int .i64 0)), .d (.v (.int .i64 0)), .d (.v (.int .u64 0)), .d (.v (.int .u64 0)), .d (.v (.int .u64 0)), .d (.v (.int .u64 0)), .d (.v (.int .u64 0)), .d (.v (.int .i64 0)), .d (.v (.slice none 0 0)), .d (.v (.int .u64 0)), .d (.v (.int .i64 0)), .d (.v (.bool false))] [(8, 1, .c (.d (.v (.bool true)))), (22, 1, .c (.d (.v (.int .i64 3))))], none, 0⟩,
   ⟨some 6, .bsl 60 33 2 [.d (.v (.int .i64 0)), .d (.v (.int .i64 0)), .d (.v (.int .u64 0)), .d (.v (.int .u64 0)), .d (.v (.int .i64 0)), .d (.v (.bool false)), .d (.v (.int .i64 0)), .d (.v (.int .i64 0)), .d (.v (.bool false)), .d (.v (.int .u64 0)), .d (.v (.slice none 0 0)), .d (.v (.int .u64 0)), .d (.v (.slice none 0 0)), .d (.v (.int .u64 0)), .d (.v (.slice none 0 0)), .d (.v (.int .u64 0)), .d (.v (.slice none 0 0)), .d (.v (.slice none 0 0)), .d (.v (.int .i64 0)), .d (.v (.int .i64 0)), .d (.v (.int .i64 0)), .d (.v (.int .i64 0)), .d (.v (.int .i64 0)), .d (.v (.int .u64 0)), .d (.v (.int .u64 0)), .d (.v (.int .u64 0)), .d (.v (.int .u64 0)), .d (.v (.int .u64 0)), .d (.v (.int .i64 0)), .d (.v (.slice none 0 0)), .d (.v (.int .u64 0)), .d (.v (.int .i64 0)), .d (.v (.bool false))] [(0, 33, .t 4), (33, 33, .t 5)], none, 0⟩,
   ⟨some 7, .call (.c (.fn (.func 30) [] [])) [.t 6], none, 0⟩,
   ⟨some 1, .mv (.t 7), none, 0⟩]
def K1041_3 : CC := .reg false [⟨some 0, .mv (.c (.d (.v (.bool false)))), none, 0⟩]
/-- coatcheck/coatchecklaw18.awake -/
def C1041 : CF := ⟨0, [(0, none)],
 .seq K1041_3 (.seq K1041_2 K1041_1)⟩
theorem c1041 : coF Try.prog Try.f27 = some C1041 := by kernel_rfl
def A1041 : Ann := { keep := [0, 1, 2, 3], live := [] }
def E1041 {Ω : Type} : Env Ω := econs 28 S1042 (econs 30 S1047 (enil))
theorem e1041 : GoodE Try.prog E1041 := GoodE.cons g1042 (GoodE.cons g1047 (GoodE.nil))
def S1041 {Ω : Type} : Spec Ω := conSpec [] FTrue
theorem g1041 : Good1 Try.prog 27 S1041 := trueGood Try.func27 (by kernel_rfl) c1041 (A := A1041) e1041 mix (by kernel_rfl)
end Go.Sx.Pr

/- The contracts of guard.Payload and the document's. -/
namespace Go.Sx.Pr
namespace Gd
open Go Go.Sx Go.Sx.Md Go.Proofs
set_option maxRecDepth 100000
theorem lenAs_cons {t : AT} {ts : List AT} {L : List (List Int)} (h : lenAs (t :: ts) L) : ∃ a r, L = a :: r ∧ lenA t a.length ∧ lenAs ts r := h
theorem lenAs_nil {L : List (List Int)} (h : lenAs [] L) : L = [] := h
theorem one_of {α : Type} {l : List α} (h : l.length = 1) : ∃ a, l = [a] := by
  match l, h with
  | [a], _ => exact ⟨a, rfl⟩
def F1042v : List (List Int) → Option (Bool × SV × SH)
  | [[n], ws] => some (decide (ws.length < 1000000000) && u64B ws, .tup [U (payV n ws).1, B (payV n ws).2], [])
  | _ => none
def S1042c {Ω : Type} : Spec Ω := conSpec [.i .i64, .s .u64] F1042v
theorem g1042c : Good1 Try.prog 28 S1042c := conGood Try.func28 (by kernel_rfl) c1042 e1042 mix (A := A1042) fun L r hr hl hF => by
  obtain ⟨q0, l0, rfl, z0, hl1⟩ := lenAs_cons hl
  obtain ⟨n, rfl⟩ := one_of z0
  obtain ⟨ws, l1, rfl, z1, hl2⟩ := lenAs_cons hl1
  have hz := lenAs_nil hl2
  subst hz
  simp only [F1042v, Option.some.injEq, Prod.mk.injEq] at hF
  obtain ⟨hu, rfl, rfl⟩ := hF
  obtain ⟨H, hH⟩ := v1042 (n := n) (ws := ws) hu
  exact ⟨⟨trivial, trivial, trivial⟩, trivial, H, trim_none rfl _, hH⟩
def S1043c {Ω : Type} : Spec Ω := conSpec [.i .i64, .s .u64] F1042v
theorem g1043c : Good1 Try.prog 29 S1043c := conGood Try.func29 (by kernel_rfl) c1043 e1043 mix (A := A1043) fun L r hr hl hF => by
  obtain ⟨q0, l0, rfl, z0, hl1⟩ := lenAs_cons hl
  obtain ⟨n, rfl⟩ := one_of z0
  obtain ⟨ws, l1, rfl, z1, hl2⟩ := lenAs_cons hl1
  have hz := lenAs_nil hl2
  subst hz
  simp only [F1042v, Option.some.injEq, Prod.mk.injEq] at hF
  obtain ⟨hu, rfl, rfl⟩ := hF
  obtain ⟨H, hH⟩ := v1043 (n := n) (ws := ws) hu
  exact ⟨⟨trivial, trivial, trivial⟩, trivial, H, trim_none rfl _, hH⟩
end Gd
end Go.Sx.Pr
