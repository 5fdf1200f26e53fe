/- Pieces of the code of functions, compiled for the symbolic interpreter, each checked against the program; no conditions. -/
import Derived.Test.YtljmncdlehinnaaQ4b
import Derived.Test.YtljmncdlehinnaaQ4e
import Derived.Test.YtljmncdlehinnaaRows
import Derived.KernelRfl
set_option linter.unusedVariables false
set_option linter.unusedSimpArgs false
namespace Go.Sx.Pr
open Go Go.Sx Go.Proofs
set_option maxRecDepth 100000
def K1004_1 : CC := .seq (.reg false [⟨some 10, .mv (.c (.d (.v (.bool true)))), none, 0⟩])
 (.ret)
def K1004_2 : CC := .reg false [⟨some 60, .mv (.t 18), none, 0⟩,
   ⟨some 61, .bin .add (.t 60) (.c (.d (.v (.int .i64 1)))), none, 0⟩,
   ⟨some 18, .mv (.t 61), none, 0⟩]
def K1004_3 : CC := .reg true [⟨some 132, .ld 33 true (.t 25), none, 0⟩,
   ⟨some 133, .ld 33 true (.t 28), none, 0⟩,
   ⟨none, .st 33 (.t 7) (.t 132), none, 1⟩,
   ⟨none, .st 33 (.t 17) (.t 133), none, 7⟩]
def K1004_4 : CC := .seq (.reg false [⟨some 109, .ld 33 true (.t 25), none, 0⟩,
   ⟨some 110, .ld 33 true (.t 28), none, 0⟩,
   ⟨some 111, .call (.c (.fn (.func 31) [] [])) [.t 109, .t 110], none, 0⟩,
   ⟨some 112, .un .not (.t 111), none, 0⟩,
   ⟨some 113, .mv (.t 112), none, 0⟩,
   ⟨some 114, .mv (.t 26), some (113, false), 0⟩,
   ⟨some 115, .mv (.t 29), some (113, false), 0⟩,
   ⟨some 116, .eq .int true (.t 114) (.t 115), some (113, false), 0⟩,
   ⟨some 117, .pick (.t 113) (.c (.d (.v (.bool true)))) (.t 116), none, 0⟩,
   ⟨some 118, .mv (.t 117), none, 0⟩,
   ⟨some 119, .mv (.t 27), some (118, false), 0⟩,
   ⟨some 120, .mv (.t 30), some (118, false), 0⟩,
   ⟨some 121, .eq .bool true (.t 119) (.t 120), some (118, false), 0⟩,
   ⟨some 122, .pick (.t 118) (.c (.d (.v (.bool true)))) (.t 121), none, 0⟩,
   ⟨some 123, .mv (.t 122), none, 0⟩,
   ⟨some 124, .mv (.t 30), some (123, false), 0⟩,
   ⟨some 125, .mv (.t 124), some (123, false), 0⟩,
   ⟨some 126, .mv (.t 11), some (125, true), 0⟩,
   ⟨some 127, .mv (.t 12), some (125, true), 0⟩,
   ⟨some 128, .call (.c (.fn (.func 32) [] [])) [.t 126, .t 127], some (125, true), 0⟩,
   ⟨some 129, .un .not (.t 128), some (125, true), 0⟩,
   ⟨some 130, .pick (.t 125) (.t 129) (.c (.d (.v (.bool false)))), some (123, false), 0⟩,
   ⟨some 131, .pick (.t 123) (.c (.d (.v (.bool true)))) (.t 130), none, 0⟩])
 (.cond 131 (.seq (.reg false [⟨some 10, .mv (.c (.d (.v (.bool false)))), none, 0⟩])
   (.ret))
   (.skip))
def K1004_5 : CC := .reg false [⟨some 103, .mv (.t 12), none, 0⟩,
   ⟨some 104, .ld 33 true (.t 17), none, 0⟩,
   ⟨some 105, .call (.c (.fn (.func 30) [] [])) [.t 103, .t 104], none, 0⟩,
   ⟨some 102, .mv (.t 105), none, 0⟩,
   ⟨some 106, .ext 0 (.t 102), none, 0⟩,
   ⟨some 107, .ext 1 (.t 102), none, 0⟩,
   ⟨some 108, .ext 2 (.t 102), none, 0⟩,
   ⟨some 28, .newc 40 [.d (.v (.int .i64 0)), .d (.v (.int .i64 0)), .d (.v (.int .u64 0)), .d (.v (.int .u64 0)), .d (.v (.int .i64 0)), .d (.v (.bool false)), .d (.v (.int .i64 0)), .d (.v (.int .i64 0)), .d (.v (.bool false)), .d (.v (.int .u64 0)), .d (.v (.slice none 0 0)), .d (.v (.int .u64 0)), .d (.v (.slice none 0 0)), .d (.v (.int .u64 0)), .d (.v (.slice none 0 0)), .d (.v (.int .u64 0)), .d (.v (.slice none 0 0)), .d (.v (.slice none 0 0)), .d (.v (.int .i64 0)), .d (.v (.int .i64 0)), .d (.v (.int .i64 0)), .d (.v (.int .i64 0)), .d (.v (.int .i64 0)), .d (.v (.int .u64 0)), .d (.v (.int .u64 0)), .d (.v (.int .u64 0)), .d (.v (.int .u64 0)), .d (.v (.int .u64 0)), .d (.v (.int .i64 0)), .d (.v (.slice none 0 0)), .d (.v (.int .u64 0)), .d (.v (.int .i64 0)), .d (.v (.bool false))], none, 0⟩,
   ⟨none, .st 33 (.t 28) (.t 106), none, 0⟩,
   ⟨some 29, .mv (.t 107), none, 0⟩,
   ⟨some 30, .mv (.t 108), none, 0⟩]
def K1004_6 : CC := .reg false [⟨some 96, .mv (.t 11), none, 0⟩,
   ⟨some 97, .ld 33 true (.t 7), none, 0⟩,
   ⟨some 98, .call (.c (.fn (.func 28) [] [])) [.t 96, .t 97], none, 0⟩,
   ⟨some 95, .mv (.t 98), none, 0⟩,
   ⟨some 99, .ext 0 (.t 95), none, 0⟩,
   ⟨some 100, .ext 1 (.t 95), none, 0⟩,
   ⟨some 101, .ext 2 (.t 95), none, 0⟩,
   ⟨some 25, .newc 40 [.d (.v (.int .i64 0)), .d (.v (.int .i64 0)), .d (.v (.int .u64 0)), .d (.v (.int .u64 0)), .d (.v (.int .i64 0)), .d (.v (.bool false)), .d (.v (.int .i64 0)), .d (.v (.int .i64 0)), .d (.v (.bool false)), .d (.v (.int .u64 0)), .d (.v (.slice none 0 0)), .d (.v (.int .u64 0)), .d (.v (.slice none 0 0)), .d (.v (.int .u64 0)), .d (.v (.slice none 0 0)), .d (.v (.int .u64 0)), .d (.v (.slice none 0 0)), .d (.v (.slice none 0 0)), .d (.v (.int .i64 0)), .d (.v (.int .i64 0)), .d (.v (.int .i64 0)), .d (.v (.int .i64 0)), .d (.v (.int .i64 0)), .d (.v (.int .u64 0)), .d (.v (.int .u64 0)), .d (.v (.int .u64 0)), .d (.v (.int .u64 0)), .d (.v (.int .u64 0)), .d (.v (.int .i64 0)), .d (.v (.slice none 0 0)), .d (.v (.int .u64 0)), .d (.v (.int .i64 0)), .d (.v (.bool false))], none, 0⟩,
   ⟨none, .st 33 (.t 25) (.t 99), none, 0⟩,
   ⟨some 26, .mv (.t 100), none, 0⟩,
   ⟨some 27, .mv (.t 101), none, 0⟩]
def K1004_7 : CC := .seq (.reg false [⟨some 81, .ld 33 true (.t 19), none, 0⟩,
   ⟨some 82, .ld 33 true (.t 22), none, 0⟩,
   ⟨some 83, .call (.c (.fn (.func 31) [] [])) [.t 81, .t 82], none, 0⟩,
   ⟨some 84, .un .not (.t 83), none, 0⟩,
   ⟨some 85, .mv (.t 84), none, 0⟩,
   ⟨some 86, .mv (.t 20), some (85, false), 0⟩,
   ⟨some 87, .mv (.t 23), some (85, false), 0⟩,
   ⟨some 88, .eq .int true (.t 86) (.t 87), some (85, false), 0⟩,
   ⟨some 89, .pick (.t 85) (.c (.d (.v (.bool true)))) (.t 88), none, 0⟩,
   ⟨some 90, .mv (.t 89), none, 0⟩,
   ⟨some 91, .mv (.t 21), some (90, false), 0⟩,
   ⟨some 92, .mv (.t 24), some (90, false), 0⟩,
   ⟨some 93, .eq .bool true (.t 91) (.t 92), some (90, false), 0⟩,
   ⟨some 94, .pick (.t 90) (.c (.d (.v (.bool true)))) (.t 93), none, 0⟩])
 (.cond 94 (.seq (.reg false [⟨some 10, .mv (.c (.d (.v (.bool false)))), none, 0⟩])
   (.ret))
   (.skip))
def K1004_8 : CC := .reg false [⟨some 75, .mv (.t 12), none, 0⟩,
   ⟨some 76, .ld 33 true (.t 8), none, 0⟩,
   ⟨some 77, .call (.c (.fn (.func 30) [] [])) [.t 75, .t 76], none, 0⟩,
   ⟨some 74, .mv (.t 77), none, 0⟩,
   ⟨some 78, .ext 0 (.t 74), none, 0⟩,
   ⟨some 79, .ext 1 (.t 74), none, 0⟩,
   ⟨some 80, .ext 2 (.t 74), none, 0⟩,
   ⟨some 22, .newc 40 [.d (.v (.int .i64 0)), .d (.v (.int .i64 0)), .d (.v (.int .u64 0)), .d (.v (.int .u64 0)), .d (.v (.int .i64 0)), .d (.v (.bool false)), .d (.v (.int .i64 0)), .d (.v (.int .i64 0)), .d (.v (.bool false)), .d (.v (.int .u64 0)), .d (.v (.slice none 0 0)), .d (.v (.int .u64 0)), .d (.v (.slice none 0 0)), .d (.v (.int .u64 0)), .d (.v (.slice none 0 0)), .d (.v (.int .u64 0)), .d (.v (.slice none 0 0)), .d (.v (.slice none 0 0)), .d (.v (.int .i64 0)), .d (.v (.int .i64 0)), .d (.v (.int .i64 0)), .d (.v (.int .i64 0)), .d (.v (.int .i64 0)), .d (.v (.int .u64 0)), .d (.v (.int .u64 0)), .d (.v (.int .u64 0)), .d (.v (.int .u64 0)), .d (.v (.int .u64 0)), .d (.v (.int .i64 0)), .d (.v (.slice none 0 0)), .d (.v (.int .u64 0)), .d (.v (.int .i64 0)), .d (.v (.bool false))], none, 0⟩,
   ⟨none, .st 33 (.t 22) (.t 78), none, 0⟩,
   ⟨some 23, .mv (.t 79), none, 0⟩,
   ⟨some 24, .mv (.t 80), none, 0⟩]
def K1004_9 : CC := .reg false [⟨some 68, .mv (.t 11), none, 0⟩,
   ⟨some 69, .ld 33 true (.t 8), none, 0⟩,
   ⟨some 70, .call (.c (.fn (.func 28) [] [])) [.t 68, .t 69], none, 0⟩,
   ⟨some 67, .mv (.t 70), none, 0⟩,
   ⟨some 71, .ext 0 (.t 67), none, 0⟩,
   ⟨some 72, .ext 1 (.t 67), none, 0⟩,
   ⟨some 73, .ext 2 (.t 67), none, 0⟩,
   ⟨some 19, .newc 40 [.d (.v (.int .i64 0)), .d (.v (.int .i64 0)), .d (.v (.int .u64 0)), .d (.v (.int .u64 0)), .d (.v (.int .i64 0)), .d (.v (.bool false)), .d (.v (.int .i64 0)), .d (.v (.int .i64 0)), .d (.v (.bool false)), .d (.v (.int .u64 0)), .d (.v (.slice none 0 0)), .d (.v (.int .u64 0)), .d (.v (.slice none 0 0)), .d (.v (.int .u64 0)), .d (.v (.slice none 0 0)), .d (.v (.int .u64 0)), .d (.v (.slice none 0 0)), .d (.v (.slice none 0 0)), .d (.v (.int .i64 0)), .d (.v (.int .i64 0)), .d (.v (.int .i64 0)), .d (.v (.int .i64 0)), .d (.v (.int .i64 0)), .d (.v (.int .u64 0)), .d (.v (.int .u64 0)), .d (.v (.int .u64 0)), .d (.v (.int .u64 0)), .d (.v (.int .u64 0)), .d (.v (.int .i64 0)), .d (.v (.slice none 0 0)), .d (.v (.int .u64 0)), .d (.v (.int .i64 0)), .d (.v (.bool false))], none, 0⟩,
   ⟨none, .st 33 (.t 19) (.t 71), none, 0⟩,
   ⟨some 20, .mv (.t 72), none, 0⟩,
   ⟨some 21, .mv (.t 73), none, 0⟩]
def K1004_10 : CC := .reg false [⟨some 62, .mv (.t 18), none, 0⟩,
   ⟨some 63, .mv (.t 4), none, 0⟩,
   ⟨some 64, .conv .i64 (.t 63), none, 0⟩,
   ⟨some 65, .bin .rem (.t 64) (.c (.d (.v (.int .i64 12)))), none, 0⟩,
   ⟨some 66, .eq .int false (.t 62) (.t 65), none, 0⟩]
def K1004_11 : CC := .seq (.reg false [⟨some 58, .mv (.t 18), none, 0⟩,
   ⟨some 59, .bin .lss (.t 58) (.c (.d (.v (.int .i64 12)))), none, 0⟩])
 (.cond 59 (.skip)
   (.exit 0))
def L1004_12 : CC := .seq K1004_11 (.seq (.block 1 (.seq (.seq K1004_10 (.cond 66 (.seq K1004_9 (.seq K1004_8 K1004_7)) .skip)) (.seq K1004_6 (.seq K1004_5 (.seq K1004_4 K1004_3))))) K1004_2)
def K1004_13 : CC := .reg false [⟨some 18, .mv (.c (.d (.v (.int .i64 0)))), none, 0⟩]
def K1004_14 : CC := .reg false [⟨some 57, .ld 33 true (.t 7), none, 0⟩,
   ⟨some 17, .newc 40 [.d (.v (.int .i64 0)), .d (.v (.int .i64 0)), .d (.v (.int .u64 0)), .d (.v (.int .u64 0)), .d (.v (.int .i64 0)), .d (.v (.bool false)), .d (.v (.int .i64 0)), .d (.v (.int .i64 0)), .d (.v (.bool false)), .d (.v (.int .u64 0)), .d (.v (.slice none 0 0)), .d (.v (.int .u64 0)), .d (.v (.slice none 0 0)), .d (.v (.int .u64 0)), .d (.v (.slice none 0 0)), .d (.v (.int .u64 0)), .d (.v (.slice none 0 0)), .d (.v (.slice none 0 0)), .d (.v (.int .i64 0)), .d (.v (.int .i64 0)), .d (.v (.int .i64 0)), .d (.v (.int .i64 0)), .d (.v (.int .i64 0)), .d (.v (.int .u64 0)), .d (.v (.int .u64 0)), .d (.v (.int .u64 0)), .d (.v (.int .u64 0)), .d (.v (.int .u64 0)), .d (.v (.int .i64 0)), .d (.v (.slice none 0 0)), .d (.v (.int .u64 0)), .d (.v (.int .i64 0)), .d (.v (.bool false))], none, 0⟩,
   ⟨none, .st 33 (.t 17) (.t 57), none, 0⟩]
def K1004_15 : CC := .seq (.reg false [⟨some 47, .mv (.t 13), none, 0⟩,
   ⟨some 48, .un .not (.t 47), none, 0⟩,
   ⟨some 49, .mv (.t 48), none, 0⟩,
   ⟨some 50, .ld 33 true (.t 7), some (49, false), 0⟩,
   ⟨some 51, .call (.c (.fn (.func 29) [] [])) [.t 50], some (49, false), 0⟩,
   ⟨some 52, .pick (.t 49) (.c (.d (.v (.bool true)))) (.t 51), none, 0⟩,
   ⟨some 53, .mv (.t 52), none, 0⟩,
   ⟨some 54, .ld 33 true (.t 8), some (53, false), 0⟩,
   ⟨some 55, .call (.c (.fn (.func 29) [] [])) [.t 54], some (53, false), 0⟩,
   ⟨some 56, .pick (.t 53) (.c (.d (.v (.bool true)))) (.t 55), none, 0⟩])
 (.cond 56 (.seq (.reg false [⟨some 10, .mv (.c (.d (.v (.bool true)))), none, 0⟩])
   (.ret))
   (.skip))
def K1004_16 : CC := .seq (.reg false [⟨some 41, .ld 33 true (.t 7), none, 0⟩,
   ⟨some 42, .call (.c (.fn (.func 28) [] [])) [.c (.d (.v (.pointer none))), .t 41], none, 0⟩,
   ⟨some 40, .mv (.t 42), none, 0⟩,
   ⟨some 43, .ext 0 (.t 40), none, 0⟩,
   ⟨some 44, .ext 1 (.t 40), none, 0⟩,
   ⟨some 45, .ext 2 (.t 40), none, 0⟩,
   ⟨some 14, .newc 40 [.d (.v (.int .i64 0)), .d (.v (.int .i64 0)), .d (.v (.int .u64 0)), .d (.v (.int .u64 0)), .d (.v (.int .i64 0)), .d (.v (.bool false)), .d (.v (.int .i64 0)), .d (.v (.int .i64 0)), .d (.v (.bool false)), .d (.v (.int .u64 0)), .d (.v (.slice none 0 0)), .d (.v (.int .u64 0)), .d (.v (.slice none 0 0)), .d (.v (.int .u64 0)), .d (.v (.slice none 0 0)), .d (.v (.int .u64 0)), .d (.v (.slice none 0 0)), .d (.v (.slice none 0 0)), .d (.v (.int .i64 0)), .d (.v (.int .i64 0)), .d (.v (.int .i64 0)), .d (.v (.int .i64 0)), .d (.v (.int .i64 0)), .d (.v (.int .u64 0)), .d (.v (.int .u64 0)), .d (.v (.int .u64 0)), .d (.v (.int .u64 0)), .d (.v (.int .u64 0)), .d (.v (.int .i64 0)), .d (.v (.slice none 0 0)), .d (.v (.int .u64 0)), .d (.v (.int .i64 0)), .d (.v (.bool false))], none, 0⟩,
   ⟨none, .st 33 (.t 14) (.t 43), none, 0⟩,
   ⟨some 15, .mv (.t 44), none, 0⟩,
   ⟨some 16, .mv (.t 45), none, 0⟩])
 (.seq (.reg false [⟨some 46, .mv (.t 16), none, 0⟩])
 (.cond 46 (.seq (.reg false [⟨some 10, .mv (.c (.d (.v (.bool false)))), none, 0⟩])
   (.ret))
   (.skip)))
def K1004_17 : CC := .reg false [⟨some 34, .ld 8 true (.t 5), none, 0⟩,
   ⟨some 35, .mv (.t 1), none, 0⟩,
   ⟨some 36, .call (.c (.fn (.func 27) [] [])) [.t 34, .t 35], none, 0⟩,
   ⟨some 33, .mv (.t 36), none, 0⟩,
   ⟨some 37, .ext 0 (.t 33), none, 0⟩,
   ⟨some 38, .ext 1 (.t 33), none, 0⟩,
   ⟨some 39, .ext 2 (.t 33), none, 0⟩,
   ⟨some 11, .mv (.t 37), none, 0⟩,
   ⟨some 12, .mv (.t 38), none, 0⟩,
   ⟨some 13, .mv (.t 39), none, 0⟩]
def K1004_18 : CC := .seq (.reg false [⟨some 31, .call (.c (.fn (.func 26) [] [])) [], none, 0⟩,
   ⟨some 32, .un .not (.t 31), none, 0⟩])
 (.cond 32 (.seq (.reg false [⟨some 10, .mv (.c (.d (.v (.bool false)))), none, 0⟩])
   (.ret))
   (.skip))
def K1004_19 : CC := .reg false [⟨some 5, .box 26 8 (.t 0), none, 0⟩,
   ⟨some 7, .box 40 33 (.t 2), none, 0⟩,
   ⟨some 8, .box 40 33 (.t 3), none, 0⟩,
   ⟨some 10, .mv (.c (.d (.v (.bool false)))), none, 0⟩]
/-- coatcheck/coatchecklaw11.EntrySteps -/
def C1004 : CF := ⟨5, [(10, none)],
 .seq K1004_19 (.seq K1004_18 (.seq K1004_17 (.seq K1004_16 (.seq K1004_15 (.seq K1004_14 (.seq (.seq K1004_13 (.block 0 (.loop L1004_12))) K1004_1))))))⟩
theorem c1004 : coF Try.prog Try.f5 = some C1004 := by kernel_rfl
def A1004 : Ann := { keep := [0, 1, 2, 3, 4, 5, 7, 8, 10, 11, 12, 13, 16, 17, 18, 19, 20, 21, 22, 23, 24, 25, 26, 27, 28, 29, 30, 32, 46, 56, 59, 66, 94, 131], live := [(0, [4, 7, 8, 11, 12, 17, 18])] }
def E1004 {Ω : Type} : Env Ω := econs 27 S44 (econs 29 S46c (econs 31 S48c (econs 32 S49 (econs 26 S1028 (econs 28 S1029m (econs 30 S1030m (enil)))))))
theorem e1004 : GoodE Try.prog E1004 := GoodE.cons g44 (GoodE.cons g46c (GoodE.cons g48c (GoodE.cons g49 (GoodE.cons g1028 (GoodE.cons g1029m (GoodE.cons g1030m (GoodE.nil)))))))
def Z1004_12 {Ω : Type} (it : Itr Ω) (K : SV → SH → Option Ω) : SE → SS → Option Ω := kblk 0 (kseq it E1004 A1004 K1004_1 0 (kfn C1004 K))
end Go.Sx.Pr

/- The steps laws: what all of them need. -/
namespace Go.Sx.Pr
open Go Go.Sx Go.Sx.Md Go.Proofs
set_option maxRecDepth 100000

/-- True, with some heap. -/
def Tru (o : Option (SV × SH)) : Prop := ∃ H, o = some (B true, H)
theorem Tru.br {b : Bool} {x y : Option (SV × SH)} (h1 : b = true → Tru x) (h2 : b = false → Tru y) : Tru (br b x y) := by
  cases b with
  | true => exact h1 rfl
  | false => exact h2 rfl
theorem tru_ret {H : SH} : Tru (KS (B true) H) := ⟨H, rfl⟩

def szC (c : Cf) : Int := szZ c.a c.b c.c c.d c.e c.f c.g c.l

/-- What a step leaves well formed. -/
def Pres (m : Mm) (x : Wk) (r : SR) : Prop := okM r.m = true ∧ okW r.x = true ∧ lenW r.x = lenW x ∧ r.m.ws.length = m.ws.length ∧ r.m.c = m.c
theorem Pres.cond {m : Mm} {x : Wk} {a b : SR} {t : Bool} (ha : Pres m x a) (hb : Pres m x b) : Pres m x (bif t then a else b) := by
  cases t with
  | true => exact ha
  | false => exact hb
theorem len_mSet {m : Mm} {g : Bool} {a x : Int} : (mSet m g a x).length = m.ws.length := by
  unfold mSet
  cases g with
  | true => rw [cond_true, List.length_set]
  | false => rfl
theorem uB_low {v : Int} (h : uB v = true) : uB (v % 4294967296) = true := uB_mod h (by decide) (by decide)
theorem uB_20 {v : Int} (h : uB v = true) : uB (v / 1048576) = true := uB_div h (by decide)
section
variable {m : Mm} {x : Wk} (hm : okM m = true) (hx : okW x = true)
 include hm hx
theorem presL {h k b p : Int} : Pres m x (stepL h k b p m x) := by
  obtain ⟨b1, b2, b3, b4, b5, b6, b7, b8, b9, b10, b11, b12⟩ := okW_all hx
  have hu := okM_u hm
  unfold stepL
  split
  · refine Pres.cond ?_ ?_
    · exact ⟨okM_load hm, (by simp only [okW, b1, b2, b3, b4, b5, b6, b7, b8, b9, b10, b11, b12, uB_load hu, uB_low (uB_load hu), Bool.and_self]), rfl, rfl, rfl⟩
    · exact ⟨okM_load hm, (by simp only [okW, b1, b2, b3, b4, b5, b6, b7, b8, b9, b10, b11, b12, uB_load hu, uB_low (uB_load hu), Bool.and_self]), rfl, rfl, rfl⟩
  · split
    · exact ⟨okM_load hm, (by simp only [okW, b1, b2, b3, b4, b5, b6, b7, b8, b9, b10, b11, b12, uB_load hu, uB_low (uB_load hu), Bool.and_self]), rfl, rfl, rfl⟩
    · split
      · refine Pres.cond ?_ ?_
        · exact ⟨okM_cas hm uB_pHead, (by simp only [okW, b1, b2, b3, b4, b5, b6, b7, b8, b9, b10, b11, b12, uB_load hu, uB_low (uB_load hu), Bool.and_self]), rfl, len_mSet, rfl⟩
        · exact ⟨okM_cas hm uB_pHead, (by simp only [okW, b1, b2, b3, b4, b5, b6, b7, b8, b9, b10, b11, b12, uB_load hu, uB_low (uB_load hu), Bool.and_self]), rfl, len_mSet, rfl⟩
      · split
        · exact ⟨okM_load hm, (by simp only [okW, b1, b2, b3, b4, b5, b6, b7, b8, b9, b10, b11, b12, uB_load hu, uB_low (uB_load hu), Bool.and_self]), rfl, rfl, rfl⟩
        · split
          · exact ⟨okM_store hm (uB_low b9), (by simp only [okW, b1, b2, b3, b4, b5, b6, b7, b8, b9, b10, b11, b12, uB_load hu, uB_low (uB_load hu), Bool.and_self]), rfl, len_mSet, rfl⟩
          · refine Pres.cond ?_ ?_
            · exact ⟨okM_cas hm uB_pHead, (by simp only [okW, b1, b2, b3, b4, b5, b6, b7, b8, b9, b10, b11, b12, uB_load hu, uB_low (uB_load hu), Bool.and_self]), rfl, len_mSet, rfl⟩
            · exact ⟨okM_cas hm uB_pHead, (by simp only [okW, b1, b2, b3, b4, b5, b6, b7, b8, b9, b10, b11, b12, uB_load hu, uB_low (uB_load hu), Bool.and_self]), rfl, len_mSet, rfl⟩
theorem presS : Pres m x (stepS m x) := by
  unfold stepS
  split
  · exact presL hm hx
  · split
    · exact presL hm hx
    · exact ⟨hm, hx, rfl, rfl, rfl⟩
theorem presLook : Pres m x (lookN m x) := by
  obtain ⟨b1, b2, b3, b4, b5, b6, b7, b8, b9, b10, b11, b12⟩ := okW_all hx
  have hu := okM_u hm
  unfold lookN
  apply Pres.cond <;> refine ⟨okM_load hm, ?_, rfl, rfl, rfl⟩ <;> simp only [okW, b1, b2, b3, b4, b5, b6, b7, b8, b9, b10, b11, b12, uB_load hu, Bool.and_self]
theorem presN : Pres m x (stepN m x) := by
  obtain ⟨b1, b2, b3, b4, b5, b6, b7, b8, b9, b10, b11, b12⟩ := okW_all hx
  have hu := okM_u hm
  have hS := presS hm hx
  have hL := presLook hm hx
  unfold stepN
  split
  · refine Pres.cond (Pres.cond ?_ ?_) hS
    · obtain ⟨c1, c2, c3, c4, c5, c6, c7, c8, c9, c10, c11, c12⟩ := okW_all hS.2.1
      exact ⟨hS.1, by simp only [okW, c1, c2, c3, c4, c5, c6, c7, c8, c9, c10, c11, c12, Bool.and_self], hS.2.2.1, hS.2.2.2⟩
    · exact ⟨hS.1, hS.2.1, hS.2.2.1, hS.2.2.2⟩
  · split
    · refine ⟨okM_load hm, ?_, rfl, rfl, rfl⟩
      simp only [okW, b1, b2, b3, b4, b5, b6, b7, b8, b9, b10, b11, b12, uB_20 (uB_load hu), Bool.and_self]
    · split
      · refine ⟨okM_store hm uB_pEntry, ?_, rfl, len_mSet, rfl⟩
        simp only [okW, b1, b2, b3, b4, b5, b6, b7, b8, b9, b10, b11, b12, uB_pTicket, Bool.and_self]
      · split
        · exact hL
        · split
          · have hn : uB (nextV m.c x.T) = true := by
              unfold nextV
              cases decide (m.c.l ≤ tG x.T) with
              | true => exact uB_pEntry
              | false => exact uB_pEntry
            apply Pres.cond <;> exact ⟨okM_cas hm hn, hx, rfl, len_mSet, rfl⟩
          · split
            · apply Pres.cond <;> exact ⟨okM_cas hm uB_pEntry, hx, rfl, len_mSet, rfl⟩
            · exact ⟨hm, hx, rfl, rfl, rfl⟩
end
end Go.Sx.Pr

/- A law of a layer's steps: it answers true on symbolic arguments. -/
namespace Go.Sx.Pr
open Go Go.Sx Go.Sx.Md Go.Proofs
set_option maxRecDepth 100000
theorem nL0N {Ω : Type} (it : Itr Ω) (K : SV → SH → Option Ω) (c : Cf) (q : Int) (ws : List Int) (x y : Wk) :
    sxFnI it E1004 A1004 C1004 [.agg (encC c), .d (.ints .u64 ws), .agg (encW x), .agg (encW y), .d (.v (.int .u8 q))] [] K =
    br (chkC c == 0) (br (decide (w64' (Cf.b c * Cf.c c) > 40)) (K (B true) [.cells 26 (encC c), .cells 40 (encW x), .cells 40 (encW y), .cells 40 (encW (x))]) (br (decide (Cf.e c > 16)) (K (B true) [.cells 26 (encC c), .cells 40 (encW x), .cells 40 (encW y), .cells 40 (encW (x))]) (br (decide ((↑ (List.length ws) : Int) > 400)) (K (B true) [.cells 26 (encC c), .cells 40 (encW x), .cells 40 (encW y), .cells 40 (encW (x))]) (br (!chkC c == 0) (br (!chkC c == 0) (br (fits (0 + List.length ws) 8) (br (chkC c == 0) (K (B true) [.cells 26 (encC c), .cells 40 (encW x), .cells 40 (encW y), .dead, .dead, .rowi 24 .u64 ([] ++ ws), .cells 103 (memD c ac0 5), .cells 40 (encW (x))]) (K (B true) [.cells 26 (encC c), .cells 40 (encW x), .cells 40 (encW y), .dead, .dead, .rowi 24 .u64 ([] ++ ws), .cells 103 (memD c ac0 5), .cells 40 (encW (x))])) none) (br (! (↑ (List.length ws) : Int) == 0) (br (fits (0 + List.length ws) 8) (K (B true) [.cells 26 (encC c), .cells 40 (encW x), .cells 40 (encW y), .dead, .dead, .rowi 24 .u64 ([] ++ ws), .cells 103 (memD c ac0 5), .cells 40 (encW (x))]) none) (br (fits (List.length ws) 8) (br (fits (0 + List.length ws) 8) (br (chkC c == 0) (br (! (↑ (List.length ws) : Int) == (↑ (sizeN (Int.toNat (Cf.a c)) (Int.toNat (Cf.b c)) (Int.toNat (Cf.c c)) (Int.toNat (Cf.d c)) (Int.toNat (Cf.e c))) : Int)) (K (B true) [.cells 26 (encC c), .cells 40 (encW x), .cells 40 (encW y), .dead, .dead, .dead, .rowi 24 .u64 ws, .cells 79 [I 0, I 0, I 0, I 0, I 0, I 0, I 0, U 0, I 0, I 0, U 0, U 0, U 0, .own 6], .dead, .rowi 24 .u64 ([] ++ ws), .cells 103 (memD c ac0 9), .cells 40 (encW (x))]) (br (greatW (x)) (K (B true) [.cells 26 (encC c), .cells 40 (encW x), .cells 40 (encW y), .dead, .dead, .dead, .rowi 24 .u64 ws, .cells 79 [I 0, I 0, I 0, I 0, I 0, I 0, I 0, U 0, I 0, I 0, U 0, U 0, U 0, .own 6], .dead, .rowi 24 .u64 ([] ++ ws), .cells 103 (memD c ac0 9), .cells 40 (encW (x))]) (br (greatW (y)) (K (B true) [.cells 26 (encC c), .cells 40 (encW x), .cells 40 (encW y), .dead, .dead, .dead, .rowi 24 .u64 ws, .cells 79 [I 0, I 0, I 0, I 0, I 0, I 0, I 0, U 0, I 0, I 0, U 0, U 0, U 0, .own 6], .dead, .rowi 24 .u64 ([] ++ ws), .cells 103 (memD c ac0 9), .cells 40 (encW (x))]) (it [4, 7, 8, 11, 12, 17, 18] 13 (sxI it E1004 A1004 L1004_12 0) (SS.mk [(4, .d (DV.v (Value.int .u8 q))), (7, .ptr 1 0), (8, .ptr 2 0), (11, .ptr 7 0), (12, .ptr 10 0), (17, .ptr 12 0), (18, I 0)] [.cells 26 (encC c), .cells 40 (encW x), .cells 40 (encW y), .dead, .dead, .dead, .rowi 24 .u64 ws, .cells 79 [I 0, I 0, I 0, I 0, I 0, I 0, I 0, U 0, I 0, I 0, U 0, U 0, U 0, .own 6], .dead, .rowi 24 .u64 ([] ++ ws), .cells 103 (memD c ac0 9), .cells 40 (encW (x)), .cells 40 (encW x)]) (Z1004_12 it K))))) none) none) none))) (br (! (↑ (List.length ws) : Int) == szC c) (br (fits (0 + List.length ws) 8) (K (B true) [.cells 26 (encC c), .cells 40 (encW x), .cells 40 (encW y), .dead, .dead, .rowi 24 .u64 ([] ++ ws), .cells 103 (memD c ac0 5), .cells 40 (encW (x))]) none) (br (fits (List.length ws) 8) (br (fits (0 + List.length ws) 8) (br (chkC c == 0) (br (! (↑ (List.length ws) : Int) == (↑ (sizeN (Int.toNat (Cf.a c)) (Int.toNat (Cf.b c)) (Int.toNat (Cf.c c)) (Int.toNat (Cf.d c)) (Int.toNat (Cf.e c))) : Int)) (K (B true) [.cells 26 (encC c), .cells 40 (encW x), .cells 40 (encW y), .dead, .dead, .dead, .rowi 24 .u64 ws, .cells 79 (memC c ac0 6), .dead, .rowi 24 .u64 ([] ++ ws), .cells 103 (memD c ac0 9), .cells 40 (encW (x))]) (br (greatW (x)) (K (B true) [.cells 26 (encC c), .cells 40 (encW x), .cells 40 (encW y), .dead, .dead, .dead, .rowi 24 .u64 ws, .cells 79 (memC c ac0 6), .dead, .rowi 24 .u64 ([] ++ ws), .cells 103 (memD c ac0 9), .cells 40 (encW (x))]) (br (greatW (y)) (K (B true) [.cells 26 (encC c), .cells 40 (encW x), .cells 40 (encW y), .dead, .dead, .dead, .rowi 24 .u64 ws, .cells 79 (memC c ac0 6), .dead, .rowi 24 .u64 ([] ++ ws), .cells 103 (memD c ac0 9), .cells 40 (encW (x))]) (it [4, 7, 8, 11, 12, 17, 18] 13 (sxI it E1004 A1004 L1004_12 0) (SS.mk [(4, .d (DV.v (Value.int .u8 q))), (7, .ptr 1 0), (8, .ptr 2 0), (11, .ptr 7 0), (12, .ptr 10 0), (17, .ptr 12 0), (18, I 0)] [.cells 26 (encC c), .cells 40 (encW x), .cells 40 (encW y), .dead, .dead, .dead, .rowi 24 .u64 ws, .cells 79 (memC c ac0 6), .dead, .rowi 24 .u64 ([] ++ ws), .cells 103 (memD c ac0 9), .cells 40 (encW (x)), .cells 40 (encW x)]) (Z1004_12 it K))))) none) none) none)))))) (br (decide ((↑ (List.length ws) : Int) > 400)) (K (B true) [.cells 26 (encC c), .cells 40 (encW x), .cells 40 (encW y), .cells 40 (encW (x))]) (br (!chkC c == 0) (br (!chkC c == 0) (br (fits (0 + List.length ws) 8) (br (chkC c == 0) (K (B true) [.cells 26 (encC c), .cells 40 (encW x), .cells 40 (encW y), .dead, .dead, .rowi 24 .u64 ([] ++ ws), .cells 103 (memD c ac0 5), .cells 40 (encW (x))]) (K (B true) [.cells 26 (encC c), .cells 40 (encW x), .cells 40 (encW y), .dead, .dead, .rowi 24 .u64 ([] ++ ws), .cells 103 (memD c ac0 5), .cells 40 (encW (x))])) none) (br (! (↑ (List.length ws) : Int) == 0) (br (fits (0 + List.length ws) 8) (K (B true) [.cells 26 (encC c), .cells 40 (encW x), .cells 40 (encW y), .dead, .dead, .rowi 24 .u64 ([] ++ ws), .cells 103 (memD c ac0 5), .cells 40 (encW (x))]) none) (br (fits (List.length ws) 8) (br (fits (0 + List.length ws) 8) (br (chkC c == 0) (br (! (↑ (List.length ws) : Int) == (↑ (sizeN (Int.toNat (Cf.a c)) (Int.toNat (Cf.b c)) (Int.toNat (Cf.c c)) (Int.toNat (Cf.d c)) (Int.toNat (Cf.e c))) : Int)) (K (B true) [.cells 26 (encC c), .cells 40 (encW x), .cells 40 (encW y), .dead, .dead, .dead, .rowi 24 .u64 ws, .cells 79 [I 0, I 0, I 0, I 0, I 0, I 0, I 0, U 0, I 0, I 0, U 0, U 0, U 0, .own 6], .dead, .rowi 24 .u64 ([] ++ ws), .cells 103 (memD c ac0 9), .cells 40 (encW (x))]) (br (greatW (x)) (K (B true) [.cells 26 (encC c), .cells 40 (encW x), .cells 40 (encW y), .dead, .dead, .dead, .rowi 24 .u64 ws, .cells 79 [I 0, I 0, I 0, I 0, I 0, I 0, I 0, U 0, I 0, I 0, U 0, U 0, U 0, .own 6], .dead, .rowi 24 .u64 ([] ++ ws), .cells 103 (memD c ac0 9), .cells 40 (encW (x))]) (br (greatW (y)) (K (B true) [.cells 26 (encC c), .cells 40 (encW x), .cells 40 (encW y), .dead, .dead, .dead, .rowi 24 .u64 ws, .cells 79 [I 0, I 0, I 0, I 0, I 0, I 0, I 0, U 0, I 0, I 0, U 0, U 0, U 0, .own 6], .dead, .rowi 24 .u64 ([] ++ ws), .cells 103 (memD c ac0 9), .cells 40 (encW (x))]) (it [4, 7, 8, 11, 12, 17, 18] 13 (sxI it E1004 A1004 L1004_12 0) (SS.mk [(4, .d (DV.v (Value.int .u8 q))), (7, .ptr 1 0), (8, .ptr 2 0), (11, .ptr 7 0), (12, .ptr 10 0), (17, .ptr 12 0), (18, I 0)] [.cells 26 (encC c), .cells 40 (encW x), .cells 40 (encW y), .dead, .dead, .dead, .rowi 24 .u64 ws, .cells 79 [I 0, I 0, I 0, I 0, I 0, I 0, I 0, U 0, I 0, I 0, U 0, U 0, U 0, .own 6], .dead, .rowi 24 .u64 ([] ++ ws), .cells 103 (memD c ac0 9), .cells 40 (encW (x)), .cells 40 (encW x)]) (Z1004_12 it K))))) none) none) none))) (br (! (↑ (List.length ws) : Int) == szC c) (br (fits (0 + List.length ws) 8) (K (B true) [.cells 26 (encC c), .cells 40 (encW x), .cells 40 (encW y), .dead, .dead, .rowi 24 .u64 ([] ++ ws), .cells 103 (memD c ac0 5), .cells 40 (encW (x))]) none) (br (fits (List.length ws) 8) (br (fits (0 + List.length ws) 8) (br (chkC c == 0) (br (! (↑ (List.length ws) : Int) == (↑ (sizeN (Int.toNat (Cf.a c)) (Int.toNat (Cf.b c)) (Int.toNat (Cf.c c)) (Int.toNat (Cf.d c)) (Int.toNat (Cf.e c))) : Int)) (K (B true) [.cells 26 (encC c), .cells 40 (encW x), .cells 40 (encW y), .dead, .dead, .dead, .rowi 24 .u64 ws, .cells 79 (memC c ac0 6), .dead, .rowi 24 .u64 ([] ++ ws), .cells 103 (memD c ac0 9), .cells 40 (encW (x))]) (br (greatW (x)) (K (B true) [.cells 26 (encC c), .cells 40 (encW x), .cells 40 (encW y), .dead, .dead, .dead, .rowi 24 .u64 ws, .cells 79 (memC c ac0 6), .dead, .rowi 24 .u64 ([] ++ ws), .cells 103 (memD c ac0 9), .cells 40 (encW (x))]) (br (greatW (y)) (K (B true) [.cells 26 (encC c), .cells 40 (encW x), .cells 40 (encW y), .dead, .dead, .dead, .rowi 24 .u64 ws, .cells 79 (memC c ac0 6), .dead, .rowi 24 .u64 ([] ++ ws), .cells 103 (memD c ac0 9), .cells 40 (encW (x))]) (it [4, 7, 8, 11, 12, 17, 18] 13 (sxI it E1004 A1004 L1004_12 0) (SS.mk [(4, .d (DV.v (Value.int .u8 q))), (7, .ptr 1 0), (8, .ptr 2 0), (11, .ptr 7 0), (12, .ptr 10 0), (17, .ptr 12 0), (18, I 0)] [.cells 26 (encC c), .cells 40 (encW x), .cells 40 (encW y), .dead, .dead, .dead, .rowi 24 .u64 ws, .cells 79 (memC c ac0 6), .dead, .rowi 24 .u64 ([] ++ ws), .cells 103 (memD c ac0 9), .cells 40 (encW (x)), .cells 40 (encW x)]) (Z1004_12 it K))))) none) none) none)))) := by kernel_rfl

theorem nL1N {Ω : Type} (it : Itr Ω) (IT : SS → Option Ω) (K : SV → SH → Option Ω) (c : Cf) (q i : Int) (m : Mm) (x y x0 : Wk) :
    sxI it E1004 A1004 L1004_12 0 ⟨[(4, .d (.v (.int .u8 q))), (7, .ptr 1 0), (8, .ptr 2 0), (11, .ptr 7 0), (12, .ptr 10 0), (17, .ptr 12 0), (18, I i)], [.cells 26 (encC c), .cells 40 (encW x), .cells 40 (encW y), .dead, .dead, .dead, .rowi 24 .u64 m.ws, .cells 79 (memC m.c m.s 6), .dead, .rowi 24 .u64 m.ws, .cells 103 (memD m.c m.s 9), .cells 40 (encW x0), .cells 40 (encW x)]⟩ (kitV [4, 7, 8, 11, 12, 17, 18] 13 IT (Z1004_12 it K)) =
    br (decide (i < 12)) (br (i == Int.tmod (w64' q) 12) (br (okM (m) && okW (y)) (br (okM (m) && okW (y)) (br (lenW (SR.x (stepN (m) (y)))) (br (!sameW (SR.x (stepN (m) (y))) (SR.x (stepN (m) (y)))) (K (B false) [.cells 26 (encC c), .cells 40 (encW x), .cells 40 (encW y), .dead, .dead, .dead, .rowi 24 .u64 (Mm.ws (SR.m (stepN (m) (y)))), .cells 79 (memC (Mm.c (SR.m (stepN (m) (y)))) (Mm.s (SR.m (stepN (m) (y)))) 6), .dead, .rowi 24 .u64 (Mm.ws (SR.m (stepN (m) (y)))), .cells 103 (memD (Mm.c (SR.m (stepN (m) (y)))) (Mm.s (SR.m (stepN (m) (y)))) 9), .cells 40 (encW x0), .cells 40 (encW x), .cells 40 (encW (SR.x (stepN (m) (y)))), .cells 40 (encW (SR.x (stepN (m) (y))))]) (br (!SR.way (stepN (m) (y)) == SR.way (stepN (m) (y))) (K (B false) [.cells 26 (encC c), .cells 40 (encW x), .cells 40 (encW y), .dead, .dead, .dead, .rowi 24 .u64 (Mm.ws (SR.m (stepN (m) (y)))), .cells 79 (memC (Mm.c (SR.m (stepN (m) (y)))) (Mm.s (SR.m (stepN (m) (y)))) 6), .dead, .rowi 24 .u64 (Mm.ws (SR.m (stepN (m) (y)))), .cells 103 (memD (Mm.c (SR.m (stepN (m) (y)))) (Mm.s (SR.m (stepN (m) (y)))) 9), .cells 40 (encW x0), .cells 40 (encW x), .cells 40 (encW (SR.x (stepN (m) (y)))), .cells 40 (encW (SR.x (stepN (m) (y))))]) (br (!SR.ok (stepN (m) (y)) == SR.ok (stepN (m) (y))) (K (B false) [.cells 26 (encC c), .cells 40 (encW x), .cells 40 (encW y), .dead, .dead, .dead, .rowi 24 .u64 (Mm.ws (SR.m (stepN (m) (y)))), .cells 79 (memC (Mm.c (SR.m (stepN (m) (y)))) (Mm.s (SR.m (stepN (m) (y)))) 6), .dead, .rowi 24 .u64 (Mm.ws (SR.m (stepN (m) (y)))), .cells 103 (memD (Mm.c (SR.m (stepN (m) (y)))) (Mm.s (SR.m (stepN (m) (y)))) 9), .cells 40 (encW x0), .cells 40 (encW x), .cells 40 (encW (SR.x (stepN (m) (y)))), .cells 40 (encW (SR.x (stepN (m) (y))))]) (br (okM (SR.m (stepN (m) (y))) && okW (x)) (br (okM (SR.m (stepN (m) (y))) && okW (x)) (br (lenW (SR.x (stepN (SR.m (stepN (m) (y))) (x)))) (br (!sameW (SR.x (stepN (SR.m (stepN (m) (y))) (x))) (SR.x (stepN (SR.m (stepN (m) (y))) (x)))) (K (B false) [.cells 26 (encC c), .cells 40 (encW x), .cells 40 (encW y), .dead, .dead, .dead, .rowi 24 .u64 (Mm.ws (SR.m (stepN (SR.m (stepN (m) (y))) (x)))), .cells 79 (memC (Mm.c (SR.m (stepN (SR.m (stepN (m) (y))) (x)))) (Mm.s (SR.m (stepN (SR.m (stepN (m) (y))) (x)))) 6), .dead, .rowi 24 .u64 (Mm.ws (SR.m (stepN (SR.m (stepN (m) (y))) (x)))), .cells 103 (memD (Mm.c (SR.m (stepN (SR.m (stepN (m) (y))) (x)))) (Mm.s (SR.m (stepN (SR.m (stepN (m) (y))) (x)))) 9), .cells 40 (encW x0), .cells 40 (encW x), .cells 40 (encW (SR.x (stepN (m) (y)))), .cells 40 (encW (SR.x (stepN (m) (y)))), .cells 40 (encW (SR.x (stepN (SR.m (stepN (m) (y))) (x)))), .cells 40 (encW (SR.x (stepN (SR.m (stepN (m) (y))) (x))))]) (br (!SR.way (stepN (SR.m (stepN (m) (y))) (x)) == SR.way (stepN (SR.m (stepN (m) (y))) (x))) (K (B false) [.cells 26 (encC c), .cells 40 (encW x), .cells 40 (encW y), .dead, .dead, .dead, .rowi 24 .u64 (Mm.ws (SR.m (stepN (SR.m (stepN (m) (y))) (x)))), .cells 79 (memC (Mm.c (SR.m (stepN (SR.m (stepN (m) (y))) (x)))) (Mm.s (SR.m (stepN (SR.m (stepN (m) (y))) (x)))) 6), .dead, .rowi 24 .u64 (Mm.ws (SR.m (stepN (SR.m (stepN (m) (y))) (x)))), .cells 103 (memD (Mm.c (SR.m (stepN (SR.m (stepN (m) (y))) (x)))) (Mm.s (SR.m (stepN (SR.m (stepN (m) (y))) (x)))) 9), .cells 40 (encW x0), .cells 40 (encW x), .cells 40 (encW (SR.x (stepN (m) (y)))), .cells 40 (encW (SR.x (stepN (m) (y)))), .cells 40 (encW (SR.x (stepN (SR.m (stepN (m) (y))) (x)))), .cells 40 (encW (SR.x (stepN (SR.m (stepN (m) (y))) (x))))]) (br (!SR.ok (stepN (SR.m (stepN (m) (y))) (x)) == SR.ok (stepN (SR.m (stepN (m) (y))) (x))) (K (B false) [.cells 26 (encC c), .cells 40 (encW x), .cells 40 (encW y), .dead, .dead, .dead, .rowi 24 .u64 (Mm.ws (SR.m (stepN (SR.m (stepN (m) (y))) (x)))), .cells 79 (memC (Mm.c (SR.m (stepN (SR.m (stepN (m) (y))) (x)))) (Mm.s (SR.m (stepN (SR.m (stepN (m) (y))) (x)))) 6), .dead, .rowi 24 .u64 (Mm.ws (SR.m (stepN (SR.m (stepN (m) (y))) (x)))), .cells 103 (memD (Mm.c (SR.m (stepN (SR.m (stepN (m) (y))) (x)))) (Mm.s (SR.m (stepN (SR.m (stepN (m) (y))) (x)))) 9), .cells 40 (encW x0), .cells 40 (encW x), .cells 40 (encW (SR.x (stepN (m) (y)))), .cells 40 (encW (SR.x (stepN (m) (y)))), .cells 40 (encW (SR.x (stepN (SR.m (stepN (m) (y))) (x)))), .cells 40 (encW (SR.x (stepN (SR.m (stepN (m) (y))) (x))))]) (br (SR.ok (stepN (SR.m (stepN (m) (y))) (x))) (br (fits (List.length (Mm.ws (SR.m (stepN (SR.m (stepN (m) (y))) (x))))) 8) (br (decide (List.length (Mm.ws (SR.m (stepN (SR.m (stepN (m) (y))) (x)))) < 1000000000)) (br (decide (Mm.ws (SR.m (stepN (SR.m (stepN (m) (y))) (x))) = Mm.ws (SR.m (stepN (SR.m (stepN (m) (y))) (x))))) (br (! (Ac.k (Mm.s (SR.m (stepN (SR.m (stepN (m) (y))) (x)))) == Ac.k (Mm.s (SR.m (stepN (SR.m (stepN (m) (y))) (x)))) && (Ac.a (Mm.s (SR.m (stepN (SR.m (stepN (m) (y))) (x)))) == Ac.a (Mm.s (SR.m (stepN (SR.m (stepN (m) (y))) (x)))) && (Ac.x (Mm.s (SR.m (stepN (SR.m (stepN (m) (y))) (x)))) == Ac.x (Mm.s (SR.m (stepN (SR.m (stepN (m) (y))) (x)))) && (Ac.y (Mm.s (SR.m (stepN (SR.m (stepN (m) (y))) (x)))) == Ac.y (Mm.s (SR.m (stepN (SR.m (stepN (m) (y))) (x)))) && (Ac.o (Mm.s (SR.m (stepN (SR.m (stepN (m) (y))) (x)))) == Ac.o (Mm.s (SR.m (stepN (SR.m (stepN (m) (y))) (x)))) && true)))))) (K (B false) [.cells 26 (encC c), .cells 40 (encW x), .cells 40 (encW y), .dead, .dead, .dead, .rowi 24 .u64 (Mm.ws (SR.m (stepN (SR.m (stepN (m) (y))) (x)))), .cells 79 (memC (Mm.c (SR.m (stepN (SR.m (stepN (m) (y))) (x)))) (Mm.s (SR.m (stepN (SR.m (stepN (m) (y))) (x)))) 6), .dead, .rowi 24 .u64 (Mm.ws (SR.m (stepN (SR.m (stepN (m) (y))) (x)))), .cells 103 (memD (Mm.c (SR.m (stepN (SR.m (stepN (m) (y))) (x)))) (Mm.s (SR.m (stepN (SR.m (stepN (m) (y))) (x)))) 9), .cells 40 (encW x0), .cells 40 (encW x), .cells 40 (encW (SR.x (stepN (m) (y)))), .cells 40 (encW (SR.x (stepN (m) (y)))), .cells 40 (encW (SR.x (stepN (SR.m (stepN (m) (y))) (x)))), .cells 40 (encW (SR.x (stepN (SR.m (stepN (m) (y))) (x))))]) (IT (SS.mk [(4, .d (DV.v (Value.int .u8 q))), (7, .ptr 1 0), (8, .ptr 2 0), (11, .ptr 7 0), (12, .ptr 10 0), (17, .ptr 12 0), (18, I (w64' (i + 1)))] [.cells 26 (encC c), .cells 40 (encW (SR.x (stepN (SR.m (stepN (m) (y))) (x)))), .cells 40 (encW y), .dead, .dead, .dead, .rowi 24 .u64 (Mm.ws (SR.m (stepN (SR.m (stepN (m) (y))) (x)))), .cells 79 (memC (Mm.c (SR.m (stepN (SR.m (stepN (m) (y))) (x)))) (Mm.s (SR.m (stepN (SR.m (stepN (m) (y))) (x)))) 6), .dead, .rowi 24 .u64 (Mm.ws (SR.m (stepN (SR.m (stepN (m) (y))) (x)))), .cells 103 (memD (Mm.c (SR.m (stepN (SR.m (stepN (m) (y))) (x)))) (Mm.s (SR.m (stepN (SR.m (stepN (m) (y))) (x)))) 9), .cells 40 (encW x0), .cells 40 (encW (SR.x (stepN (SR.m (stepN (m) (y))) (x))))]))) (K (B false) [.cells 26 (encC c), .cells 40 (encW x), .cells 40 (encW y), .dead, .dead, .dead, .rowi 24 .u64 (Mm.ws (SR.m (stepN (SR.m (stepN (m) (y))) (x)))), .cells 79 (memC (Mm.c (SR.m (stepN (SR.m (stepN (m) (y))) (x)))) (Mm.s (SR.m (stepN (SR.m (stepN (m) (y))) (x)))) 6), .dead, .rowi 24 .u64 (Mm.ws (SR.m (stepN (SR.m (stepN (m) (y))) (x)))), .cells 103 (memD (Mm.c (SR.m (stepN (SR.m (stepN (m) (y))) (x)))) (Mm.s (SR.m (stepN (SR.m (stepN (m) (y))) (x)))) 9), .cells 40 (encW x0), .cells 40 (encW x), .cells 40 (encW (SR.x (stepN (m) (y)))), .cells 40 (encW (SR.x (stepN (m) (y)))), .cells 40 (encW (SR.x (stepN (SR.m (stepN (m) (y))) (x)))), .cells 40 (encW (SR.x (stepN (SR.m (stepN (m) (y))) (x))))])) none) none) (IT (SS.mk [(4, .d (DV.v (Value.int .u8 q))), (7, .ptr 1 0), (8, .ptr 2 0), (11, .ptr 7 0), (12, .ptr 10 0), (17, .ptr 12 0), (18, I (w64' (i + 1)))] [.cells 26 (encC c), .cells 40 (encW (SR.x (stepN (SR.m (stepN (m) (y))) (x)))), .cells 40 (encW y), .dead, .dead, .dead, .rowi 24 .u64 (Mm.ws (SR.m (stepN (SR.m (stepN (m) (y))) (x)))), .cells 79 (memC (Mm.c (SR.m (stepN (SR.m (stepN (m) (y))) (x)))) (Mm.s (SR.m (stepN (SR.m (stepN (m) (y))) (x)))) 6), .dead, .rowi 24 .u64 (Mm.ws (SR.m (stepN (SR.m (stepN (m) (y))) (x)))), .cells 103 (memD (Mm.c (SR.m (stepN (SR.m (stepN (m) (y))) (x)))) (Mm.s (SR.m (stepN (SR.m (stepN (m) (y))) (x)))) 9), .cells 40 (encW x0), .cells 40 (encW (SR.x (stepN (SR.m (stepN (m) (y))) (x))))])))))) none) none) none)))) none) none) none) (br (okM (m) && okW (x)) (br (okM (m) && okW (x)) (br (lenW (SR.x (stepN (m) (x)))) (br (!sameW (SR.x (stepN (m) (x))) (SR.x (stepN (m) (x)))) (K (B false) [.cells 26 (encC c), .cells 40 (encW x), .cells 40 (encW y), .dead, .dead, .dead, .rowi 24 .u64 (Mm.ws (SR.m (stepN (m) (x)))), .cells 79 (memC (Mm.c (SR.m (stepN (m) (x)))) (Mm.s (SR.m (stepN (m) (x)))) 6), .dead, .rowi 24 .u64 (Mm.ws (SR.m (stepN (m) (x)))), .cells 103 (memD (Mm.c (SR.m (stepN (m) (x)))) (Mm.s (SR.m (stepN (m) (x)))) 9), .cells 40 (encW x0), .cells 40 (encW x), .cells 40 (encW (SR.x (stepN (m) (x)))), .cells 40 (encW (SR.x (stepN (m) (x))))]) (br (!SR.way (stepN (m) (x)) == SR.way (stepN (m) (x))) (K (B false) [.cells 26 (encC c), .cells 40 (encW x), .cells 40 (encW y), .dead, .dead, .dead, .rowi 24 .u64 (Mm.ws (SR.m (stepN (m) (x)))), .cells 79 (memC (Mm.c (SR.m (stepN (m) (x)))) (Mm.s (SR.m (stepN (m) (x)))) 6), .dead, .rowi 24 .u64 (Mm.ws (SR.m (stepN (m) (x)))), .cells 103 (memD (Mm.c (SR.m (stepN (m) (x)))) (Mm.s (SR.m (stepN (m) (x)))) 9), .cells 40 (encW x0), .cells 40 (encW x), .cells 40 (encW (SR.x (stepN (m) (x)))), .cells 40 (encW (SR.x (stepN (m) (x))))]) (br (!SR.ok (stepN (m) (x)) == SR.ok (stepN (m) (x))) (K (B false) [.cells 26 (encC c), .cells 40 (encW x), .cells 40 (encW y), .dead, .dead, .dead, .rowi 24 .u64 (Mm.ws (SR.m (stepN (m) (x)))), .cells 79 (memC (Mm.c (SR.m (stepN (m) (x)))) (Mm.s (SR.m (stepN (m) (x)))) 6), .dead, .rowi 24 .u64 (Mm.ws (SR.m (stepN (m) (x)))), .cells 103 (memD (Mm.c (SR.m (stepN (m) (x)))) (Mm.s (SR.m (stepN (m) (x)))) 9), .cells 40 (encW x0), .cells 40 (encW x), .cells 40 (encW (SR.x (stepN (m) (x)))), .cells 40 (encW (SR.x (stepN (m) (x))))]) (br (SR.ok (stepN (m) (x))) (br (fits (List.length (Mm.ws (SR.m (stepN (m) (x))))) 8) (br (decide (List.length (Mm.ws (SR.m (stepN (m) (x)))) < 1000000000)) (br (decide (Mm.ws (SR.m (stepN (m) (x))) = Mm.ws (SR.m (stepN (m) (x))))) (br (! (Ac.k (Mm.s (SR.m (stepN (m) (x)))) == Ac.k (Mm.s (SR.m (stepN (m) (x)))) && (Ac.a (Mm.s (SR.m (stepN (m) (x)))) == Ac.a (Mm.s (SR.m (stepN (m) (x)))) && (Ac.x (Mm.s (SR.m (stepN (m) (x)))) == Ac.x (Mm.s (SR.m (stepN (m) (x)))) && (Ac.y (Mm.s (SR.m (stepN (m) (x)))) == Ac.y (Mm.s (SR.m (stepN (m) (x)))) && (Ac.o (Mm.s (SR.m (stepN (m) (x)))) == Ac.o (Mm.s (SR.m (stepN (m) (x)))) && true)))))) (K (B false) [.cells 26 (encC c), .cells 40 (encW x), .cells 40 (encW y), .dead, .dead, .dead, .rowi 24 .u64 (Mm.ws (SR.m (stepN (m) (x)))), .cells 79 (memC (Mm.c (SR.m (stepN (m) (x)))) (Mm.s (SR.m (stepN (m) (x)))) 6), .dead, .rowi 24 .u64 (Mm.ws (SR.m (stepN (m) (x)))), .cells 103 (memD (Mm.c (SR.m (stepN (m) (x)))) (Mm.s (SR.m (stepN (m) (x)))) 9), .cells 40 (encW x0), .cells 40 (encW x), .cells 40 (encW (SR.x (stepN (m) (x)))), .cells 40 (encW (SR.x (stepN (m) (x))))]) (IT (SS.mk [(4, .d (DV.v (Value.int .u8 q))), (7, .ptr 1 0), (8, .ptr 2 0), (11, .ptr 7 0), (12, .ptr 10 0), (17, .ptr 12 0), (18, I (w64' (i + 1)))] [.cells 26 (encC c), .cells 40 (encW (SR.x (stepN (m) (x)))), .cells 40 (encW y), .dead, .dead, .dead, .rowi 24 .u64 (Mm.ws (SR.m (stepN (m) (x)))), .cells 79 (memC (Mm.c (SR.m (stepN (m) (x)))) (Mm.s (SR.m (stepN (m) (x)))) 6), .dead, .rowi 24 .u64 (Mm.ws (SR.m (stepN (m) (x)))), .cells 103 (memD (Mm.c (SR.m (stepN (m) (x)))) (Mm.s (SR.m (stepN (m) (x)))) 9), .cells 40 (encW x0), .cells 40 (encW (SR.x (stepN (m) (x))))]))) (K (B false) [.cells 26 (encC c), .cells 40 (encW x), .cells 40 (encW y), .dead, .dead, .dead, .rowi 24 .u64 (Mm.ws (SR.m (stepN (m) (x)))), .cells 79 (memC (Mm.c (SR.m (stepN (m) (x)))) (Mm.s (SR.m (stepN (m) (x)))) 6), .dead, .rowi 24 .u64 (Mm.ws (SR.m (stepN (m) (x)))), .cells 103 (memD (Mm.c (SR.m (stepN (m) (x)))) (Mm.s (SR.m (stepN (m) (x)))) 9), .cells 40 (encW x0), .cells 40 (encW x), .cells 40 (encW (SR.x (stepN (m) (x)))), .cells 40 (encW (SR.x (stepN (m) (x))))])) none) none) (IT (SS.mk [(4, .d (DV.v (Value.int .u8 q))), (7, .ptr 1 0), (8, .ptr 2 0), (11, .ptr 7 0), (12, .ptr 10 0), (17, .ptr 12 0), (18, I (w64' (i + 1)))] [.cells 26 (encC c), .cells 40 (encW (SR.x (stepN (m) (x)))), .cells 40 (encW y), .dead, .dead, .dead, .rowi 24 .u64 (Mm.ws (SR.m (stepN (m) (x)))), .cells 79 (memC (Mm.c (SR.m (stepN (m) (x)))) (Mm.s (SR.m (stepN (m) (x)))) 6), .dead, .rowi 24 .u64 (Mm.ws (SR.m (stepN (m) (x)))), .cells 103 (memD (Mm.c (SR.m (stepN (m) (x)))) (Mm.s (SR.m (stepN (m) (x)))) 9), .cells 40 (encW x0), .cells 40 (encW (SR.x (stepN (m) (x))))])))))) none) none) none)) (K (B true) [.cells 26 (encC c), .cells 40 (encW x), .cells 40 (encW y), .dead, .dead, .dead, .rowi 24 .u64 (Mm.ws m), .cells 79 (memC (Mm.c m) (Mm.s m) 6), .dead, .rowi 24 .u64 (Mm.ws m), .cells 103 (memD (Mm.c m) (Mm.s m) 9), .cells 40 (encW x0), .cells 40 (encW x)]) := by kernel_rfl

abbrev S1004z (q : Int) (c : Cf) (x y x0 : Wk) (m : Mm) (i : Int) : SS := ⟨[(4, .d (.v (.int .u8 q))), (7, .ptr 1 0), (8, .ptr 2 0), (11, .ptr 7 0), (12, .ptr 10 0), (17, .ptr 12 0), (18, I i)], [.cells 26 (encC c), .cells 40 (encW x), .cells 40 (encW y), .dead, .dead, .dead, .rowi 24 .u64 m.ws, .cells 79 (memC m.c m.s 6), .dead, .rowi 24 .u64 m.ws, .cells 103 (memD m.c m.s 9), .cells 40 (encW x0), .cells 40 (encW x)]⟩
theorem roundN {q : Int} {c : Cf} {x y x0 : Wk} {m : Mm} {i : Int} (hm : okM m = true) (hx : okW x = true) (hy : okW y = true) (lx : lenW x = true) (ly : lenW y = true) (hl : m.ws.length ≤ 400) (hi : i < 12) (hi0 : 0 ≤ i) :
    ∃ x' m', okM m' = true ∧ okW x' = true ∧ lenW x' = true ∧ m'.ws.length ≤ 400 ∧ ∀ IT : SS → Option (SV × SH), sxI itB E1004 A1004 L1004_12 0 (S1004z q c x y x0 m i) (kitV [4, 7, 8, 11, 12, 17, 18] 13 IT (Z1004_12 itB KS)) = IT (S1004z q c x' y x0 m' (i + 1)) := by
  have hi1 : -9223372036854775808 ≤ i + 1 := by omega
  have hi2 : i + 1 ≤ 9223372036854775807 := by omega
  cases hq : (i == Int.tmod (w64' q) 12) with
  | false =>
    obtain ⟨q1, q2, q3, q4, q5⟩ := (presN hm hx)
    rw [lx] at q3
    have f1 : fits m.ws.length 8 = true := fits_of (by omega)
    have f2 : decide (m.ws.length < 1000000000) = true := decide_eq_true (by omega)
    refine ⟨(stepN m x).x, (stepN m x).m, q1, q2, q3, by omega, fun IT => ?_⟩
    rw [nL1N]
    simp only [decide_eq_true hi, hq, hm, hx, hy, q1, q2, q3, q4, lx, ly, f1, f2, sameW_self, beq_self_eq_true, Bool.and_self, Bool.and_true, Bool.not_true, Bool.not_false, decide_true, br_t, br_f, w64 hi1 hi2]
    try rfl
    try (generalize SR.ok _ = z; cases z <;> simp only [Bool.not_true, Bool.not_false, br_t, br_f] <;> rfl)
  | true =>
    obtain ⟨p1, p2, p3, p4, p5⟩ := (presN hm hy)
    rw [ly] at p3
    obtain ⟨q1, q2, q3, q4, q5⟩ := (presN p1 hx)
    rw [lx] at q3
    have f1 : fits m.ws.length 8 = true := fits_of (by omega)
    have f2 : decide (m.ws.length < 1000000000) = true := decide_eq_true (by omega)
    refine ⟨(stepN (stepN m y).m x).x, (stepN (stepN m y).m x).m, q1, q2, q3, by omega, fun IT => ?_⟩
    rw [nL1N]
    simp only [decide_eq_true hi, hq, hm, hx, hy, p1, p2, p3, p4, q1, q2, q3, q4, lx, ly, f1, f2, sameW_self, beq_self_eq_true, Bool.and_self, Bool.and_true, Bool.not_true, Bool.not_false, decide_true, br_t, br_f, w64 hi1 hi2]
    try rfl
    try (generalize SR.ok _ = z; cases z <;> simp only [Bool.not_true, Bool.not_false, br_t, br_f] <;> rfl)
theorem loopN {q : Int} {c : Cf} {y x0 : Wk} (hy : okW y = true) (ly : lenW y = true) : ∀ (k i N : Nat) (x : Wk) (m : Mm), i + k = 12 → k < N → okM m = true → okW x = true → lenW x = true → m.ws.length ≤ 400 →
    Tru (iter [4, 7, 8, 11, 12, 17, 18] 13 (sxI itB E1004 A1004 L1004_12 0) N (S1004z q c x y x0 m (i : Int)) (Z1004_12 itB KS))
  | 0, i, N, x, m, hk, hN, hm, hx, lx, hl => by
    obtain ⟨N, rfl⟩ : ∃ k, N = k + 1 := ⟨N - 1, by omega⟩
    rw [iter_succ, nL1N, decide_eq_false (by omega), br_f]
    exact tru_ret
  | k + 1, i, N, x, m, hk, hN, hm, hx, lx, hl => by
    obtain ⟨N, rfl⟩ : ∃ k, N = k + 1 := ⟨N - 1, by omega⟩
    obtain ⟨x', m', h1, h2, h3, h4, h5⟩ := roundN (q := q) (c := c) (x0 := x0) hm hx hy lx ly hl (i := i) (by omega) (by omega)
    rw [iter_succ, h5]
    have := loopN (q := q) (c := c) (x0 := x0) hy ly k (i + 1) N x' m' (by omega) (by omega) h1 h2 h3 h4
    rw [show ((i + 1 : Nat) : Int) = (i : Int) + 1 by push_cast; rfl] at this
    exact this

theorem mainN (q : Int) (c : Cf) (ws : List Int) (x y : Wk) (hw : u64B ws = true) (hx : okW x = true) (hy : okW y = true) : Tru (sxFn E1004 A1004 C1004 [.agg (encC c), .d (.ints .u64 ws), .agg (encW x), .agg (encW y), .d (.v (.int .u8 q))] [] KS) := by
  rw [← sxFnI_eq, nL0N]
  have LOOP : ∀ {x0 : Wk}, chkC c = 0 → ws.length ≤ 400 → greatW x = false → greatW y = false → Tru (itB [4, 7, 8, 11, 12, 17, 18] 13 (sxI itB E1004 A1004 L1004_12 0) (S1004z q c x y x0 ⟨c, ac0, ws⟩ 0) (Z1004_12 itB KS)) := fun hc hl gx gy => by
    rw [itB_def]
    exact loopN hy (lenW_of gy) 12 0 big x ⟨c, ac0, ws⟩ rfl (by unfold big; omega) (by simp only [okM, hc, hw, beq_self_eq_true, Bool.and_self]) hx (lenW_of gx) hl
  have fz : ws.length ≤ 400 → fits (0 + ws.length) 8 = true ∧ fits ws.length 8 = true := fun h => ⟨fits_of (by omega), fits_of (by omega)⟩
  by_cases h400 : ws.length ≤ 400
  · obtain ⟨z1, z2⟩ := fz h400
    have z3 : decide ((ws.length : Int) > 400) = false := decide_eq_false (by omega)
    cases hc : (chkC c == 0) with
    | true =>
      simp only [hc, z1, z2, z3, Bool.not_true, br_t, br_f]
      exact Tru.br (fun _ => tru_ret) fun _ => Tru.br (fun _ => tru_ret) fun _ => Tru.br (fun _ => tru_ret) fun _ => Tru.br (fun _ => tru_ret) fun _ => Tru.br (fun _ => tru_ret) fun gx => Tru.br (fun _ => tru_ret) fun gy => LOOP (by simpa using hc) h400 gx gy
    | false =>
      simp only [hc, z1, z2, z3, Bool.not_false, br_t, br_f]
      exact tru_ret
  · have z3 : decide ((ws.length : Int) > 400) = true := decide_eq_true (by omega)
    simp only [z3, br_t]
    exact Tru.br (fun _ => Tru.br (fun _ => tru_ret) fun _ => Tru.br (fun _ => tru_ret) fun _ => tru_ret) fun _ => tru_ret
end Go.Sx.Pr
