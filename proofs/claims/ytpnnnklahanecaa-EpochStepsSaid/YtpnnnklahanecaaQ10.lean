/- Pieces of the code of functions, compiled for the symbolic interpreter, each checked against the program; no conditions. -/
import Derived.Test.YtpnnnklahanecaaQ4b
import Derived.Test.YtpnnnklahanecaaRows
import Derived.KernelRfl
set_option linter.unusedVariables false
namespace Go.Sx.Pr
open Go Go.Sx Go.Proofs
set_option maxRecDepth 100000
def K10_1 : CC := .seq (.reg false [⟨some 14, .mv (.c (.d (.v (.bool true)))), none, 0⟩])
 (.ret)
def K10_2 : CC := .reg false [⟨some 65, .mv (.t 22), none, 0⟩,
   ⟨some 66, .bin .add (.t 65) (.c (.d (.v (.int .i64 1)))), none, 0⟩,
   ⟨some 22, .mv (.t 66), none, 0⟩]
def K10_3 : CC := .seq (.seq (.reg false [⟨some 118, .ld 33 true (.t 29), none, 0⟩,
   ⟨some 119, .ld 33 true (.t 32), none, 0⟩,
   ⟨some 120, .call (.c (.fn (.func 48) [] [])) [.t 118, .t 119], none, 0⟩,
   ⟨some 121, .un .not (.t 120), none, 0⟩,
   ⟨some 122, .mv (.t 121), none, 0⟩,
   ⟨some 123, .mv (.t 30), some (122, false), 0⟩,
   ⟨some 124, .mv (.t 33), some (122, false), 0⟩,
   ⟨some 125, .eq .int true (.t 123) (.t 124), some (122, false), 0⟩,
   ⟨some 126, .pick (.t 122) (.c (.d (.v (.bool true)))) (.t 125), none, 0⟩,
   ⟨some 127, .mv (.t 126), none, 0⟩,
   ⟨some 128, .mv (.t 31), some (127, false), 0⟩,
   ⟨some 129, .mv (.t 34), some (127, false), 0⟩,
   ⟨some 130, .eq .bool true (.t 128) (.t 129), some (127, false), 0⟩,
   ⟨some 131, .pick (.t 127) (.c (.d (.v (.bool true)))) (.t 130), none, 0⟩,
   ⟨some 132, .mv (.t 131), none, 0⟩,
   ⟨some 133, .mv (.t 15), some (132, false), 0⟩,
   ⟨some 134, .mv (.t 16), some (132, false), 0⟩,
   ⟨some 135, .call (.c (.fn (.func 49) [] [])) [.t 133, .t 134], some (132, false), 0⟩,
   ⟨some 136, .un .not (.t 135), some (132, false), 0⟩,
   ⟨some 137, .pick (.t 132) (.c (.d (.v (.bool true)))) (.t 136), none, 0⟩])
 (.cond 137 (.seq (.reg false [⟨some 14, .mv (.c (.d (.v (.bool false)))), none, 0⟩])
   (.ret))
   (.skip)))
 (.reg true [⟨some 138, .ld 33 true (.t 29), none, 0⟩,
   ⟨some 139, .ld 33 true (.t 32), none, 0⟩,
   ⟨none, .st 33 (.t 11) (.t 138), none, 1⟩,
   ⟨none, .st 33 (.t 21) (.t 139), none, 7⟩])
def K10_4 : CC := .reg false [⟨some 111, .mv (.t 16), none, 0⟩,
   ⟨some 112, .mv (.t 2), none, 0⟩,
   ⟨some 113, .ld 33 true (.t 21), none, 0⟩,
   ⟨some 114, .call (.c (.fn (.func 55) [] [])) [.t 111, .t 112, .t 113], none, 0⟩,
   ⟨some 110, .mv (.t 114), none, 0⟩,
   ⟨some 115, .ext 0 (.t 110), none, 0⟩,
   ⟨some 116, .ext 1 (.t 110), none, 0⟩,
   ⟨some 117, .ext 2 (.t 110), none, 0⟩,
   ⟨some 32, .newc 73 [.d (.v (.int .i64 0)), .d (.v (.int .i64 0)), .d (.v (.int .u64 0)), .d (.v (.int .u64 0)), .d (.v (.int .i64 0)), .d (.v (.bool false)), .d (.v (.int .i64 0)), .d (.v (.int .i64 0)), .d (.v (.bool false)), .d (.v (.int .u64 0)), .d (.v (.slice none 0 0)), .d (.v (.int .u64 0)), .d (.v (.slice none 0 0)), .d (.v (.int .u64 0)), .d (.v (.slice none 0 0)), .d (.v (.int .u64 0)), .d (.v (.slice none 0 0)), .d (.v (.slice none 0 0)), .d (.v (.int .i64 0)), .d (.v (.int .i64 0)), .d (.v (.int .i64 0)), .d (.v (.int .i64 0)), .d (.v (.int .i64 0)), .d (.v (.int .u64 0)), .d (.v (.int .u64 0)), .d (.v (.int .u64 0)), .d (.v (.int .u64 0)), .d (.v (.int .u64 0)), .d (.v (.int .i64 0)), .d (.v (.slice none 0 0)), .d (.v (.int .u64 0)), .d (.v (.int .i64 0)), .d (.v (.bool false))], none, 0⟩,
   ⟨none, .st 33 (.t 32) (.t 115), none, 0⟩,
   ⟨some 33, .mv (.t 116), none, 0⟩,
   ⟨some 34, .mv (.t 117), none, 0⟩]
def K10_5 : CC := .reg false [⟨some 103, .mv (.t 15), none, 0⟩,
   ⟨some 104, .mv (.t 2), none, 0⟩,
   ⟨some 105, .ld 33 true (.t 11), none, 0⟩,
   ⟨some 106, .call (.c (.fn (.func 54) [] [])) [.t 103, .t 104, .t 105], none, 0⟩,
   ⟨some 102, .mv (.t 106), none, 0⟩,
   ⟨some 107, .ext 0 (.t 102), none, 0⟩,
   ⟨some 108, .ext 1 (.t 102), none, 0⟩,
   ⟨some 109, .ext 2 (.t 102), none, 0⟩,
   ⟨some 29, .newc 73 [.d (.v (.int .i64 0)), .d (.v (.int .i64 0)), .d (.v (.int .u64 0)), .d (.v (.int .u64 0)), .d (.v (.int .i64 0)), .d (.v (.bool false)), .d (.v (.int .i64 0)), .d (.v (.int .i64 0)), .d (.v (.bool false)), .d (.v (.int .u64 0)), .d (.v (.slice none 0 0)), .d (.v (.int .u64 0)), .d (.v (.slice none 0 0)), .d (.v (.int .u64 0)), .d (.v (.slice none 0 0)), .d (.v (.int .u64 0)), .d (.v (.slice none 0 0)), .d (.v (.slice none 0 0)), .d (.v (.int .i64 0)), .d (.v (.int .i64 0)), .d (.v (.int .i64 0)), .d (.v (.int .i64 0)), .d (.v (.int .i64 0)), .d (.v (.int .u64 0)), .d (.v (.int .u64 0)), .d (.v (.int .u64 0)), .d (.v (.int .u64 0)), .d (.v (.int .u64 0)), .d (.v (.int .i64 0)), .d (.v (.slice none 0 0)), .d (.v (.int .u64 0)), .d (.v (.int .i64 0)), .d (.v (.bool false))], none, 0⟩,
   ⟨none, .st 33 (.t 29) (.t 107), none, 0⟩,
   ⟨some 30, .mv (.t 108), none, 0⟩,
   ⟨some 31, .mv (.t 109), none, 0⟩]
def K10_6 : CC := .seq (.reg false [⟨some 88, .ld 33 true (.t 23), none, 0⟩,
   ⟨some 89, .ld 33 true (.t 26), none, 0⟩,
   ⟨some 90, .call (.c (.fn (.func 48) [] [])) [.t 88, .t 89], none, 0⟩,
   ⟨some 91, .un .not (.t 90), none, 0⟩,
   ⟨some 92, .mv (.t 91), none, 0⟩,
   ⟨some 93, .mv (.t 24), some (92, false), 0⟩,
   ⟨some 94, .mv (.t 27), some (92, false), 0⟩,
   ⟨some 95, .eq .int true (.t 93) (.t 94), some (92, false), 0⟩,
   ⟨some 96, .pick (.t 92) (.c (.d (.v (.bool true)))) (.t 95), none, 0⟩,
   ⟨some 97, .mv (.t 96), none, 0⟩,
   ⟨some 98, .mv (.t 25), some (97, false), 0⟩,
   ⟨some 99, .mv (.t 28), some (97, false), 0⟩,
   ⟨some 100, .eq .bool true (.t 98) (.t 99), some (97, false), 0⟩,
   ⟨some 101, .pick (.t 97) (.c (.d (.v (.bool true)))) (.t 100), none, 0⟩])
 (.cond 101 (.seq (.reg false [⟨some 14, .mv (.c (.d (.v (.bool false)))), none, 0⟩])
   (.ret))
   (.skip))
def K10_7 : CC := .reg false [⟨some 81, .mv (.t 16), none, 0⟩,
   ⟨some 82, .mv (.t 3), none, 0⟩,
   ⟨some 83, .ld 33 true (.t 12), none, 0⟩,
   ⟨some 84, .call (.c (.fn (.func 55) [] [])) [.t 81, .t 82, .t 83], none, 0⟩,
   ⟨some 80, .mv (.t 84), none, 0⟩,
   ⟨some 85, .ext 0 (.t 80), none, 0⟩,
   ⟨some 86, .ext 1 (.t 80), none, 0⟩,
   ⟨some 87, .ext 2 (.t 80), none, 0⟩,
   ⟨some 26, .newc 73 [.d (.v (.int .i64 0)), .d (.v (.int .i64 0)), .d (.v (.int .u64 0)), .d (.v (.int .u64 0)), .d (.v (.int .i64 0)), .d (.v (.bool false)), .d (.v (.int .i64 0)), .d (.v (.int .i64 0)), .d (.v (.bool false)), .d (.v (.int .u64 0)), .d (.v (.slice none 0 0)), .d (.v (.int .u64 0)), .d (.v (.slice none 0 0)), .d (.v (.int .u64 0)), .d (.v (.slice none 0 0)), .d (.v (.int .u64 0)), .d (.v (.slice none 0 0)), .d (.v (.slice none 0 0)), .d (.v (.int .i64 0)), .d (.v (.int .i64 0)), .d (.v (.int .i64 0)), .d (.v (.int .i64 0)), .d (.v (.int .i64 0)), .d (.v (.int .u64 0)), .d (.v (.int .u64 0)), .d (.v (.int .u64 0)), .d (.v (.int .u64 0)), .d (.v (.int .u64 0)), .d (.v (.int .i64 0)), .d (.v (.slice none 0 0)), .d (.v (.int .u64 0)), .d (.v (.int .i64 0)), .d (.v (.bool false))], none, 0⟩,
   ⟨none, .st 33 (.t 26) (.t 85), none, 0⟩,
   ⟨some 27, .mv (.t 86), none, 0⟩,
   ⟨some 28, .mv (.t 87), none, 0⟩]
def K10_8 : CC := .reg false [⟨some 73, .mv (.t 15), none, 0⟩,
   ⟨some 74, .mv (.t 3), none, 0⟩,
   ⟨some 75, .ld 33 true (.t 12), none, 0⟩,
   ⟨some 76, .call (.c (.fn (.func 54) [] [])) [.t 73, .t 74, .t 75], none, 0⟩,
   ⟨some 72, .mv (.t 76), none, 0⟩,
   ⟨some 77, .ext 0 (.t 72), none, 0⟩,
   ⟨some 78, .ext 1 (.t 72), none, 0⟩,
   ⟨some 79, .ext 2 (.t 72), none, 0⟩,
   ⟨some 23, .newc 73 [.d (.v (.int .i64 0)), .d (.v (.int .i64 0)), .d (.v (.int .u64 0)), .d (.v (.int .u64 0)), .d (.v (.int .i64 0)), .d (.v (.bool false)), .d (.v (.int .i64 0)), .d (.v (.int .i64 0)), .d (.v (.bool false)), .d (.v (.int .u64 0)), .d (.v (.slice none 0 0)), .d (.v (.int .u64 0)), .d (.v (.slice none 0 0)), .d (.v (.int .u64 0)), .d (.v (.slice none 0 0)), .d (.v (.int .u64 0)), .d (.v (.slice none 0 0)), .d (.v (.slice none 0 0)), .d (.v (.int .i64 0)), .d (.v (.int .i64 0)), .d (.v (.int .i64 0)), .d (.v (.int .i64 0)), .d (.v (.int .i64 0)), .d (.v (.int .u64 0)), .d (.v (.int .u64 0)), .d (.v (.int .u64 0)), .d (.v (.int .u64 0)), .d (.v (.int .u64 0)), .d (.v (.int .i64 0)), .d (.v (.slice none 0 0)), .d (.v (.int .u64 0)), .d (.v (.int .i64 0)), .d (.v (.bool false))], none, 0⟩,
   ⟨none, .st 33 (.t 23) (.t 77), none, 0⟩,
   ⟨some 24, .mv (.t 78), none, 0⟩,
   ⟨some 25, .mv (.t 79), none, 0⟩]
def K10_9 : CC := .reg false [⟨some 67, .mv (.t 22), none, 0⟩,
   ⟨some 68, .mv (.t 6), none, 0⟩,
   ⟨some 69, .conv .i64 (.t 68), none, 0⟩,
   ⟨some 70, .bin .rem (.t 69) (.c (.d (.v (.int .i64 12)))), none, 0⟩,
   ⟨some 71, .eq .int false (.t 67) (.t 70), none, 0⟩]
def K10_10 : CC := .seq (.reg false [⟨some 63, .mv (.t 22), none, 0⟩,
   ⟨some 64, .bin .lss (.t 63) (.c (.d (.v (.int .i64 12)))), none, 0⟩])
 (.cond 64 (.skip)
   (.exit 0))
def L10_11 : CC := .seq K10_10 (.seq (.block 1 (.seq (.seq K10_9 (.cond 71 (.seq K10_8 (.seq K10_7 K10_6)) .skip)) (.seq K10_5 (.seq K10_4 K10_3)))) K10_2)
def K10_12 : CC := .reg false [⟨some 22, .mv (.c (.d (.v (.int .i64 0)))), none, 0⟩]
def K10_13 : CC := .reg false [⟨some 62, .ld 33 true (.t 11), none, 0⟩,
   ⟨some 21, .newc 73 [.d (.v (.int .i64 0)), .d (.v (.int .i64 0)), .d (.v (.int .u64 0)), .d (.v (.int .u64 0)), .d (.v (.int .i64 0)), .d (.v (.bool false)), .d (.v (.int .i64 0)), .d (.v (.int .i64 0)), .d (.v (.bool false)), .d (.v (.int .u64 0)), .d (.v (.slice none 0 0)), .d (.v (.int .u64 0)), .d (.v (.slice none 0 0)), .d (.v (.int .u64 0)), .d (.v (.slice none 0 0)), .d (.v (.int .u64 0)), .d (.v (.slice none 0 0)), .d (.v (.slice none 0 0)), .d (.v (.int .i64 0)), .d (.v (.int .i64 0)), .d (.v (.int .i64 0)), .d (.v (.int .i64 0)), .d (.v (.int .i64 0)), .d (.v (.int .u64 0)), .d (.v (.int .u64 0)), .d (.v (.int .u64 0)), .d (.v (.int .u64 0)), .d (.v (.int .u64 0)), .d (.v (.int .i64 0)), .d (.v (.slice none 0 0)), .d (.v (.int .u64 0)), .d (.v (.int .i64 0)), .d (.v (.bool false))], none, 0⟩,
   ⟨none, .st 33 (.t 21) (.t 62), none, 0⟩]
def K10_14 : CC := .seq (.reg false [⟨some 52, .mv (.t 17), none, 0⟩,
   ⟨some 53, .un .not (.t 52), none, 0⟩,
   ⟨some 54, .mv (.t 53), none, 0⟩,
   ⟨some 55, .ld 33 true (.t 11), some (54, false), 0⟩,
   ⟨some 56, .call (.c (.fn (.func 46) [] [])) [.t 55], some (54, false), 0⟩,
   ⟨some 57, .pick (.t 54) (.c (.d (.v (.bool true)))) (.t 56), none, 0⟩,
   ⟨some 58, .mv (.t 57), none, 0⟩,
   ⟨some 59, .ld 33 true (.t 12), some (58, false), 0⟩,
   ⟨some 60, .call (.c (.fn (.func 46) [] [])) [.t 59], some (58, false), 0⟩,
   ⟨some 61, .pick (.t 58) (.c (.d (.v (.bool true)))) (.t 60), none, 0⟩])
 (.cond 61 (.seq (.reg false [⟨some 14, .mv (.c (.d (.v (.bool true)))), none, 0⟩])
   (.ret))
   (.skip))
def K10_15 : CC := .seq (.reg false [⟨some 45, .mv (.t 2), none, 0⟩,
   ⟨some 46, .ld 33 true (.t 11), none, 0⟩,
   ⟨some 47, .call (.c (.fn (.func 54) [] [])) [.c (.d (.v (.pointer none))), .t 45, .t 46], none, 0⟩,
   ⟨some 44, .mv (.t 47), none, 0⟩,
   ⟨some 48, .ext 0 (.t 44), none, 0⟩,
   ⟨some 49, .ext 1 (.t 44), none, 0⟩,
   ⟨some 50, .ext 2 (.t 44), none, 0⟩,
   ⟨some 18, .newc 73 [.d (.v (.int .i64 0)), .d (.v (.int .i64 0)), .d (.v (.int .u64 0)), .d (.v (.int .u64 0)), .d (.v (.int .i64 0)), .d (.v (.bool false)), .d (.v (.int .i64 0)), .d (.v (.int .i64 0)), .d (.v (.bool false)), .d (.v (.int .u64 0)), .d (.v (.slice none 0 0)), .d (.v (.int .u64 0)), .d (.v (.slice none 0 0)), .d (.v (.int .u64 0)), .d (.v (.slice none 0 0)), .d (.v (.int .u64 0)), .d (.v (.slice none 0 0)), .d (.v (.slice none 0 0)), .d (.v (.int .i64 0)), .d (.v (.int .i64 0)), .d (.v (.int .i64 0)), .d (.v (.int .i64 0)), .d (.v (.int .i64 0)), .d (.v (.int .u64 0)), .d (.v (.int .u64 0)), .d (.v (.int .u64 0)), .d (.v (.int .u64 0)), .d (.v (.int .u64 0)), .d (.v (.int .i64 0)), .d (.v (.slice none 0 0)), .d (.v (.int .u64 0)), .d (.v (.int .i64 0)), .d (.v (.bool false))], none, 0⟩,
   ⟨none, .st 33 (.t 18) (.t 48), none, 0⟩,
   ⟨some 19, .mv (.t 49), none, 0⟩,
   ⟨some 20, .mv (.t 50), none, 0⟩])
 (.seq (.reg false [⟨some 51, .mv (.t 20), none, 0⟩])
 (.cond 51 (.seq (.reg false [⟨some 14, .mv (.c (.d (.v (.bool false)))), none, 0⟩])
   (.ret))
   (.skip)))
def K10_16 : CC := .reg false [⟨some 38, .ld 8 true (.t 7), none, 0⟩,
   ⟨some 39, .mv (.t 1), none, 0⟩,
   ⟨some 40, .call (.c (.fn (.func 44) [] [])) [.t 38, .t 39], none, 0⟩,
   ⟨some 37, .mv (.t 40), none, 0⟩,
   ⟨some 41, .ext 0 (.t 37), none, 0⟩,
   ⟨some 42, .ext 1 (.t 37), none, 0⟩,
   ⟨some 43, .ext 2 (.t 37), none, 0⟩,
   ⟨some 15, .mv (.t 41), none, 0⟩,
   ⟨some 16, .mv (.t 42), none, 0⟩,
   ⟨some 17, .mv (.t 43), none, 0⟩]
def K10_17 : CC := .seq (.reg false [⟨some 35, .call (.c (.fn (.func 53) [] [])) [], none, 0⟩,
   ⟨some 36, .un .not (.t 35), none, 0⟩])
 (.cond 36 (.seq (.reg false [⟨some 14, .mv (.c (.d (.v (.bool false)))), none, 0⟩])
   (.ret))
   (.skip))
def K10_18 : CC := .reg false [⟨some 7, .box 24 8 (.t 0), none, 0⟩,
   ⟨some 11, .box 73 33 (.t 4), none, 0⟩,
   ⟨some 12, .box 73 33 (.t 5), none, 0⟩,
   ⟨some 14, .mv (.c (.d (.v (.bool false)))), none, 0⟩]
/-- coatcheck/coatchecklaw07.EpochSteps -/
def C10 : CF := ⟨7, [(14, none)],
 .seq K10_18 (.seq K10_17 (.seq K10_16 (.seq K10_15 (.seq K10_14 (.seq K10_13 (.seq (.seq K10_12 (.block 0 (.loop L10_11))) K10_1))))))⟩
theorem c10 : coF Try.prog Try.f10 = some C10 := by kernel_rfl
def A10 : Ann := { keep := [0, 1, 2, 3, 4, 5, 6, 7, 11, 12, 14, 15, 16, 17, 20, 21, 22, 23, 24, 25, 26, 27, 28, 29, 30, 31, 32, 33, 34, 36, 51, 61, 64, 71, 101, 137], live := [(0, [2, 3, 6, 11, 12, 15, 16, 21, 22])] }
def E10 {Ω : Type} : Env Ω := econs 44 S44 (econs 46 S46c (econs 48 S48c (econs 49 S49 (econs 53 S53 (econs 54 S54m (econs 55 S55m (enil)))))))
theorem e10 : GoodE Try.prog E10 := GoodE.cons g44 (GoodE.cons g46c (GoodE.cons g48c (GoodE.cons g49 (GoodE.cons g53 (GoodE.cons g54m (GoodE.cons g55m (GoodE.nil)))))))
def Z10_11 {Ω : Type} (it : Itr Ω) (K : SV → SH → Option Ω) : SE → SS → Option Ω := kblk 0 (kseq it E10 A10 K10_1 0 (kfn C10 K))
end Go.Sx.Pr

/- The steps laws: what all of them need. -/
namespace Go.Sx.Pr
open Go Go.Sx Go.Sx.Md Go.Proofs
set_option maxRecDepth 100000

/-- True, with some heap. -/
def Tru (o : Option (SV × SH)) : Prop := ∃ H, o = some (B true, H)
theorem Tru.br {b : Bool} {x y : Option (SV × SH)} (h1 : b = true → Tru x) (h2 : b = false → Tru y) : Tru (br b x y) := by
  cases b with
  | true => exact h1 rfl
  | false => exact h2 rfl
theorem tru_ret {H : SH} : Tru (KS (B true) H) := ⟨H, rfl⟩

def szC (c : Cf) : Int := szZ c.a c.b c.c c.d c.e c.f c.g c.l

/-- What a step leaves well formed. -/
def Pres (m : Mm) (x : Wk) (r : SR) : Prop := okM r.m = true ∧ okW r.x = true ∧ lenW r.x = lenW x ∧ r.m.ws.length = m.ws.length ∧ r.m.c = m.c
theorem Pres.cond {m : Mm} {x : Wk} {a b : SR} {t : Bool} (ha : Pres m x a) (hb : Pres m x b) : Pres m x (bif t then a else b) := by
  cases t with
  | true => exact ha
  | false => exact hb
theorem len_mSet {m : Mm} {g : Bool} {a x : Int} : (mSet m g a x).length = m.ws.length := by
  unfold mSet
  cases g with
  | true => rw [cond_true, List.length_set]
  | false => rfl
theorem uB_low {v : Int} (h : uB v = true) : uB (v % 4294967296) = true := uB_mod h (by decide) (by decide)
theorem uB_20 {v : Int} (h : uB v = true) : uB (v / 1048576) = true := uB_div h (by decide)
theorem uB_one : uB 1 = true := by decide
theorem uB_two : uB 2 = true := by decide

section
variable {m : Mm} {x : Wk} (hm : okM m = true) (hx : okW x = true)
 include hm hx
theorem presE {w : Int} : Pres m x (stepE w m x) := by
  obtain ⟨b1, b2, b3, b4, b5, b6, b7, b8, b9, b10, b11, b12⟩ := okW_all hx
  have hu := okM_u hm
  unfold stepE
  split
  · exact ⟨okM_load hm, (by simp only [okW, b1, b2, b4, b5, b6, b7, b8, b9, b10, b11, b12, uB_load hu, Bool.and_self]), rfl, rfl, rfl⟩
  · split
    · exact ⟨okM_store hm uB_pAnn, (by simp only [okW, b1, b2, b3, b4, b5, b6, b7, b8, b9, b10, b11, b12, Bool.and_self]), rfl, len_mSet, rfl⟩
    · split
      · refine Pres.cond ?_ ?_
        · exact ⟨okM_load hm, (by simp only [okW, b1, b2, b3, b4, b5, b6, b7, b8, b9, b10, b11, b12, Bool.and_self]), rfl, rfl, rfl⟩
        · exact ⟨okM_load hm, (by simp only [okW, b1, b2, b4, b5, b6, b7, b8, b9, b10, b11, b12, uB_load hu, Bool.and_self]), rfl, rfl, rfl⟩
      · split
        · exact ⟨okM_load hm, (by simp only [okW, b1, b2, b3, b4, b5, b6, b7, b8, b10, b11, b12, uB_load hu, Bool.and_self]), rfl, rfl, rfl⟩
        · split
          · refine Pres.cond ?_ ?_
            · exact ⟨okM_load hm, (by simp only [okW, b1, b2, b3, b4, b5, b6, b7, b8, b9, b10, b11, b12, Bool.and_self]), rfl, rfl, rfl⟩
            · exact ⟨okM_load hm, (by simp only [okW, b1, b2, b3, b4, b5, b6, b7, b8, b9, b10, b11, b12, Bool.and_self]), rfl, rfl, rfl⟩
          · split
            · exact ⟨okM_cas hm uB_wrap, (by simp only [okW, b1, b2, b3, b4, b5, b6, b7, b8, b9, b10, b11, b12, Bool.and_self]), rfl, len_mSet, rfl⟩
            · split
              · exact ⟨okM_store hm uB_pAnn, (by simp only [okW, b1, b2, b3, b4, b5, b6, b7, b8, b9, b10, b11, b12, Bool.and_self]), rfl, len_mSet, rfl⟩
              · exact ⟨hm, hx, rfl, rfl, rfl⟩
theorem presL {h k b p : Int} : Pres m x (stepL h k b p m x) := by
  obtain ⟨b1, b2, b3, b4, b5, b6, b7, b8, b9, b10, b11, b12⟩ := okW_all hx
  have hu := okM_u hm
  unfold stepL
  split
  · refine Pres.cond ?_ ?_
    · exact ⟨okM_load hm, (by simp only [okW, b1, b2, b3, b4, b5, b6, b8, b10, b11, b12, uB_load hu, uB_low (uB_load hu), Bool.and_self]), rfl, rfl, rfl⟩
    · exact ⟨okM_load hm, (by simp only [okW, b1, b2, b3, b4, b5, b6, b8, b10, b11, b12, uB_load hu, uB_low (uB_load hu), Bool.and_self]), rfl, rfl, rfl⟩
  · split
    · exact ⟨okM_load hm, (by simp only [okW, b1, b2, b3, b4, b5, b6, b7, b9, b10, b11, b12, uB_load hu, Bool.and_self]), rfl, rfl, rfl⟩
    · split
      · refine Pres.cond ?_ ?_
        · exact ⟨okM_cas hm uB_pHead, (by simp only [okW, b1, b2, b3, b4, b5, b6, b7, b8, b9, b10, b11, b12, Bool.and_self]), rfl, len_mSet, rfl⟩
        · exact ⟨okM_cas hm uB_pHead, (by simp only [okW, b1, b2, b3, b4, b5, b6, b7, b8, b9, b10, b11, b12, Bool.and_self]), rfl, len_mSet, rfl⟩
      · split
        · exact ⟨okM_load hm, (by simp only [okW, b1, b2, b3, b4, b5, b6, b7, b8, b10, b11, b12, uB_load hu, Bool.and_self]), rfl, rfl, rfl⟩
        · split
          · exact ⟨okM_store hm (uB_low b9), (by simp only [okW, b1, b2, b3, b4, b5, b6, b7, b8, b9, b10, b11, b12, Bool.and_self]), rfl, len_mSet, rfl⟩
          · refine Pres.cond ?_ ?_
            · exact ⟨okM_cas hm uB_pHead, (by simp only [okW, b1, b2, b3, b4, b5, b6, b7, b8, b9, b10, b11, b12, Bool.and_self]), rfl, len_mSet, rfl⟩
            · exact ⟨okM_cas hm uB_pHead, (by simp only [okW, b1, b2, b3, b4, b5, b6, b7, b8, b9, b10, b11, b12, Bool.and_self]), rfl, len_mSet, rfl⟩
theorem presS : Pres m x (stepS m x) := by
  unfold stepS
  split
  · exact presL hm hx
  · split
    · exact presL hm hx
    · exact ⟨hm, hx, rfl, rfl, rfl⟩
theorem presB : Pres m x (stepB m x) := by
  obtain ⟨b1, b2, b3, b4, b5, b6, b7, b8, b9, b10, b11, b12⟩ := okW_all hx
  have hu := okM_u hm
  unfold stepB
  split
  · refine Pres.cond ?_ ?_
    · exact ⟨okM_add hm, (by simp only [okW, b1, b2, b3, b4, b5, b6, b7, b8, b9, b10, b11, b12, Bool.and_self]), rfl, len_mSet, rfl⟩
    · exact ⟨okM_add hm, (by simp only [okW, b1, b2, b3, b4, b5, b6, b7, b8, b9, b10, b11, b12, Bool.and_self]), rfl, len_mSet, rfl⟩
  · split
    · exact ⟨okM_load hm, (by simp only [okW, b1, b2, b3, b4, b5, b6, b7, b8, b10, b11, b12, uB_load hu, Bool.and_self]), rfl, rfl, rfl⟩
    · split
      · exact ⟨okM_store hm uB_pSlab, (by simp only [okW, b1, b2, b3, b4, b5, b6, b7, b8, b9, b10, b11, b12, Bool.and_self]), rfl, len_mSet, rfl⟩
      · split
        · refine Pres.cond ?_ ?_
          · exact ⟨okM_load hm, (by simp only [okW, b1, b2, b3, b4, b5, b6, b7, b8, b10, b11, b12, uB_load hu, Bool.and_self]), rfl, rfl, rfl⟩
          · refine Pres.cond ?_ ?_
            · exact ⟨okM_load hm, (by simp only [okW, b1, b2, b3, b4, b5, b6, b7, b8, b10, b11, b12, uB_load hu, Bool.and_self]), rfl, rfl, rfl⟩
            · exact ⟨okM_load hm, (by simp only [okW, b1, b2, b3, b4, b5, b6, b7, b8, b10, b11, b12, uB_load hu, Bool.and_self]), rfl, rfl, rfl⟩
        · split
          · refine Pres.cond ?_ ?_
            · exact ⟨okM_cas hm uB_one, (by simp only [okW, b1, b2, b3, b4, b5, b6, b7, b8, b9, b10, b11, b12, Bool.and_self]), rfl, len_mSet, rfl⟩
            · exact ⟨okM_cas hm uB_one, (by simp only [okW, b1, b2, b3, b4, b5, b6, b7, b8, b9, b10, b11, b12, Bool.and_self]), rfl, len_mSet, rfl⟩
          · split
            · exact ⟨okM_load hm, (by simp only [okW, b1, b2, b3, b4, b5, b6, b7, b8, b9, b10, b11, b12, Bool.and_self]), rfl, rfl, rfl⟩
            · split
              · refine Pres.cond ?_ ?_
                · exact ⟨okM_load hm, (by simp only [okW, b1, b2, b3, b4, b5, b6, b7, b8, b10, b11, b12, uB_load hu, Bool.and_self]), rfl, rfl, rfl⟩
                · exact ⟨okM_load hm, (by simp only [okW, b1, b2, b3, b4, b5, b6, b7, b8, b10, b11, b12, uB_load hu, Bool.and_self]), rfl, rfl, rfl⟩
              · split
                · refine Pres.cond ?_ ?_
                  · exact ⟨okM_cas hm uB_two, (by simp only [okW, b1, b2, b3, b4, b5, b6, b7, b8, b9, b10, b11, b12, Bool.and_self]), rfl, len_mSet, rfl⟩
                  · exact ⟨okM_cas hm uB_two, (by simp only [okW, b1, b2, b3, b4, b5, b6, b7, b8, b9, b10, b11, b12, Bool.and_self]), rfl, len_mSet, rfl⟩
                · split
                  · exact ⟨okM_load hm, (by simp only [okW, b1, b2, b3, b4, b5, b6, b7, b8, b9, b10, b11, b12, Bool.and_self]), rfl, rfl, rfl⟩
                  · exact ⟨hm, hx, rfl, rfl, rfl⟩
theorem presLook : Pres m x (lookN m x) := by
  obtain ⟨b1, b2, b3, b4, b5, b6, b7, b8, b9, b10, b11, b12⟩ := okW_all hx
  have hu := okM_u hm
  unfold lookN
  apply Pres.cond <;> refine ⟨okM_load hm, ?_, rfl, rfl, rfl⟩ <;> simp only [okW, b1, b2, b3, b4, b5, b6, b7, b8, b9, b10, b11, b12, uB_load hu, Bool.and_self]
theorem presN : Pres m x (stepN m x) := by
  obtain ⟨b1, b2, b3, b4, b5, b6, b7, b8, b9, b10, b11, b12⟩ := okW_all hx
  have hu := okM_u hm
  have hS := presS hm hx
  have hL := presLook hm hx
  unfold stepN
  split
  · refine Pres.cond (Pres.cond ?_ ?_) hS
    · obtain ⟨c1, c2, c3, c4, c5, c6, c7, c8, c9, c10, c11, c12⟩ := okW_all hS.2.1
      exact ⟨hS.1, by simp only [okW, c1, c2, c3, c4, c5, c6, c7, c8, c9, c10, c11, c12, Bool.and_self], hS.2.2.1, hS.2.2.2⟩
    · exact ⟨hS.1, hS.2.1, hS.2.2.1, hS.2.2.2⟩
  · split
    · refine ⟨okM_load hm, ?_, rfl, rfl, rfl⟩
      simp only [okW, b1, b2, b3, b4, b5, b6, b7, b8, b9, b10, b12, uB_20 (uB_load hu), Bool.and_self]
    · split
      · refine ⟨okM_store hm uB_pEntry, ?_, rfl, len_mSet, rfl⟩
        simp only [okW, b1, b2, b3, b4, b5, b6, b7, b8, b9, b10, b11, uB_pTicket, Bool.and_self]
      · split
        · exact hL
        · split
          · have hn : uB (nextV m.c x.T) = true := by
              unfold nextV
              cases decide (m.c.l ≤ tG x.T) with
              | true => exact uB_pEntry
              | false => exact uB_pEntry
            apply Pres.cond <;> exact ⟨okM_cas hm hn, hx, rfl, len_mSet, rfl⟩
          · split
            · apply Pres.cond <;> exact ⟨okM_cas hm uB_pEntry, hx, rfl, len_mSet, rfl⟩
            · exact ⟨hm, hx, rfl, rfl, rfl⟩
end
end Go.Sx.Pr

/- A law of a layer's steps: it answers true on symbolic arguments. -/
namespace Go.Sx.Pr
open Go Go.Sx Go.Sx.Md Go.Proofs
set_option maxRecDepth 100000
theorem nL0E {Ω : Type} (it : Itr Ω) (K : SV → SH → Option Ω) (c : Cf) (w v q : Int) (ws : List Int) (x y : Wk) :
    sxFnI it E10 A10 C10 [.agg (encC c), .d (.ints .u64 ws), I w, I v, .agg (encW x), .agg (encW y), .d (.v (.int .u8 q))] [] K =
    br (chkC c == 0) (br (decide (w64' (Cf.b c * Cf.c c) > 40)) (K (B true) [.cells 24 (encC c), .cells 73 (encW x), .cells 73 (encW y), .cells 73 (encW (x))]) (br (decide (Cf.e c > 16)) (K (B true) [.cells 24 (encC c), .cells 73 (encW x), .cells 73 (encW y), .cells 73 (encW (x))]) (br (decide ((↑ (List.length ws) : Int) > 400)) (K (B true) [.cells 24 (encC c), .cells 73 (encW x), .cells 73 (encW y), .cells 73 (encW (x))]) (br (!chkC c == 0) (br (!chkC c == 0) (br (fits (0 + List.length ws) 8) (br (chkC c == 0) (K (B true) [.cells 24 (encC c), .cells 73 (encW x), .cells 73 (encW y), .dead, .dead, .rowi 22 .u64 ([] ++ ws), .cells 41 (memD c ac0 5), .cells 73 (encW (x))]) (K (B true) [.cells 24 (encC c), .cells 73 (encW x), .cells 73 (encW y), .dead, .dead, .rowi 22 .u64 ([] ++ ws), .cells 41 (memD c ac0 5), .cells 73 (encW (x))])) none) (br (! (↑ (List.length ws) : Int) == 0) (br (fits (0 + List.length ws) 8) (K (B true) [.cells 24 (encC c), .cells 73 (encW x), .cells 73 (encW y), .dead, .dead, .rowi 22 .u64 ([] ++ ws), .cells 41 (memD c ac0 5), .cells 73 (encW (x))]) none) (br (fits (List.length ws) 8) (br (fits (0 + List.length ws) 8) (br (chkC c == 0) (br (! (↑ (List.length ws) : Int) == (↑ (sizeN (Int.toNat (Cf.a c)) (Int.toNat (Cf.b c)) (Int.toNat (Cf.c c)) (Int.toNat (Cf.d c)) (Int.toNat (Cf.e c))) : Int)) (K (B true) [.cells 24 (encC c), .cells 73 (encW x), .cells 73 (encW y), .dead, .dead, .dead, .rowi 22 .u64 ws, .cells 51 [I 0, I 0, I 0, I 0, I 0, I 0, I 0, U 0, I 0, I 0, U 0, U 0, U 0, .own 6], .dead, .rowi 22 .u64 ([] ++ ws), .cells 41 (memD c ac0 9), .cells 73 (encW (x))]) (br (greatW (x)) (K (B true) [.cells 24 (encC c), .cells 73 (encW x), .cells 73 (encW y), .dead, .dead, .dead, .rowi 22 .u64 ws, .cells 51 [I 0, I 0, I 0, I 0, I 0, I 0, I 0, U 0, I 0, I 0, U 0, U 0, U 0, .own 6], .dead, .rowi 22 .u64 ([] ++ ws), .cells 41 (memD c ac0 9), .cells 73 (encW (x))]) (br (greatW (y)) (K (B true) [.cells 24 (encC c), .cells 73 (encW x), .cells 73 (encW y), .dead, .dead, .dead, .rowi 22 .u64 ws, .cells 51 [I 0, I 0, I 0, I 0, I 0, I 0, I 0, U 0, I 0, I 0, U 0, U 0, U 0, .own 6], .dead, .rowi 22 .u64 ([] ++ ws), .cells 41 (memD c ac0 9), .cells 73 (encW (x))]) (it [2, 3, 6, 11, 12, 15, 16, 21, 22] 13 (sxI it E10 A10 L10_11 0) (SS.mk [(2, I w), (3, I v), (6, .d (DV.v (Value.int .u8 q))), (11, .ptr 1 0), (12, .ptr 2 0), (15, .ptr 7 0), (16, .ptr 10 0), (21, .ptr 12 0), (22, I 0)] [.cells 24 (encC c), .cells 73 (encW x), .cells 73 (encW y), .dead, .dead, .dead, .rowi 22 .u64 ws, .cells 51 [I 0, I 0, I 0, I 0, I 0, I 0, I 0, U 0, I 0, I 0, U 0, U 0, U 0, .own 6], .dead, .rowi 22 .u64 ([] ++ ws), .cells 41 (memD c ac0 9), .cells 73 (encW (x)), .cells 73 (encW x)]) (Z10_11 it K))))) none) none) none))) (br (! (↑ (List.length ws) : Int) == szC c) (br (fits (0 + List.length ws) 8) (K (B true) [.cells 24 (encC c), .cells 73 (encW x), .cells 73 (encW y), .dead, .dead, .rowi 22 .u64 ([] ++ ws), .cells 41 (memD c ac0 5), .cells 73 (encW (x))]) none) (br (fits (List.length ws) 8) (br (fits (0 + List.length ws) 8) (br (chkC c == 0) (br (! (↑ (List.length ws) : Int) == (↑ (sizeN (Int.toNat (Cf.a c)) (Int.toNat (Cf.b c)) (Int.toNat (Cf.c c)) (Int.toNat (Cf.d c)) (Int.toNat (Cf.e c))) : Int)) (K (B true) [.cells 24 (encC c), .cells 73 (encW x), .cells 73 (encW y), .dead, .dead, .dead, .rowi 22 .u64 ws, .cells 51 (memC c ac0 6), .dead, .rowi 22 .u64 ([] ++ ws), .cells 41 (memD c ac0 9), .cells 73 (encW (x))]) (br (greatW (x)) (K (B true) [.cells 24 (encC c), .cells 73 (encW x), .cells 73 (encW y), .dead, .dead, .dead, .rowi 22 .u64 ws, .cells 51 (memC c ac0 6), .dead, .rowi 22 .u64 ([] ++ ws), .cells 41 (memD c ac0 9), .cells 73 (encW (x))]) (br (greatW (y)) (K (B true) [.cells 24 (encC c), .cells 73 (encW x), .cells 73 (encW y), .dead, .dead, .dead, .rowi 22 .u64 ws, .cells 51 (memC c ac0 6), .dead, .rowi 22 .u64 ([] ++ ws), .cells 41 (memD c ac0 9), .cells 73 (encW (x))]) (it [2, 3, 6, 11, 12, 15, 16, 21, 22] 13 (sxI it E10 A10 L10_11 0) (SS.mk [(2, I w), (3, I v), (6, .d (DV.v (Value.int .u8 q))), (11, .ptr 1 0), (12, .ptr 2 0), (15, .ptr 7 0), (16, .ptr 10 0), (21, .ptr 12 0), (22, I 0)] [.cells 24 (encC c), .cells 73 (encW x), .cells 73 (encW y), .dead, .dead, .dead, .rowi 22 .u64 ws, .cells 51 (memC c ac0 6), .dead, .rowi 22 .u64 ([] ++ ws), .cells 41 (memD c ac0 9), .cells 73 (encW (x)), .cells 73 (encW x)]) (Z10_11 it K))))) none) none) none)))))) (br (decide ((↑ (List.length ws) : Int) > 400)) (K (B true) [.cells 24 (encC c), .cells 73 (encW x), .cells 73 (encW y), .cells 73 (encW (x))]) (br (!chkC c == 0) (br (!chkC c == 0) (br (fits (0 + List.length ws) 8) (br (chkC c == 0) (K (B true) [.cells 24 (encC c), .cells 73 (encW x), .cells 73 (encW y), .dead, .dead, .rowi 22 .u64 ([] ++ ws), .cells 41 (memD c ac0 5), .cells 73 (encW (x))]) (K (B true) [.cells 24 (encC c), .cells 73 (encW x), .cells 73 (encW y), .dead, .dead, .rowi 22 .u64 ([] ++ ws), .cells 41 (memD c ac0 5), .cells 73 (encW (x))])) none) (br (! (↑ (List.length ws) : Int) == 0) (br (fits (0 + List.length ws) 8) (K (B true) [.cells 24 (encC c), .cells 73 (encW x), .cells 73 (encW y), .dead, .dead, .rowi 22 .u64 ([] ++ ws), .cells 41 (memD c ac0 5), .cells 73 (encW (x))]) none) (br (fits (List.length ws) 8) (br (fits (0 + List.length ws) 8) (br (chkC c == 0) (br (! (↑ (List.length ws) : Int) == (↑ (sizeN (Int.toNat (Cf.a c)) (Int.toNat (Cf.b c)) (Int.toNat (Cf.c c)) (Int.toNat (Cf.d c)) (Int.toNat (Cf.e c))) : Int)) (K (B true) [.cells 24 (encC c), .cells 73 (encW x), .cells 73 (encW y), .dead, .dead, .dead, .rowi 22 .u64 ws, .cells 51 [I 0, I 0, I 0, I 0, I 0, I 0, I 0, U 0, I 0, I 0, U 0, U 0, U 0, .own 6], .dead, .rowi 22 .u64 ([] ++ ws), .cells 41 (memD c ac0 9), .cells 73 (encW (x))]) (br (greatW (x)) (K (B true) [.cells 24 (encC c), .cells 73 (encW x), .cells 73 (encW y), .dead, .dead, .dead, .rowi 22 .u64 ws, .cells 51 [I 0, I 0, I 0, I 0, I 0, I 0, I 0, U 0, I 0, I 0, U 0, U 0, U 0, .own 6], .dead, .rowi 22 .u64 ([] ++ ws), .cells 41 (memD c ac0 9), .cells 73 (encW (x))]) (br (greatW (y)) (K (B true) [.cells 24 (encC c), .cells 73 (encW x), .cells 73 (encW y), .dead, .dead, .dead, .rowi 22 .u64 ws, .cells 51 [I 0, I 0, I 0, I 0, I 0, I 0, I 0, U 0, I 0, I 0, U 0, U 0, U 0, .own 6], .dead, .rowi 22 .u64 ([] ++ ws), .cells 41 (memD c ac0 9), .cells 73 (encW (x))]) (it [2, 3, 6, 11, 12, 15, 16, 21, 22] 13 (sxI it E10 A10 L10_11 0) (SS.mk [(2, I w), (3, I v), (6, .d (DV.v (Value.int .u8 q))), (11, .ptr 1 0), (12, .ptr 2 0), (15, .ptr 7 0), (16, .ptr 10 0), (21, .ptr 12 0), (22, I 0)] [.cells 24 (encC c), .cells 73 (encW x), .cells 73 (encW y), .dead, .dead, .dead, .rowi 22 .u64 ws, .cells 51 [I 0, I 0, I 0, I 0, I 0, I 0, I 0, U 0, I 0, I 0, U 0, U 0, U 0, .own 6], .dead, .rowi 22 .u64 ([] ++ ws), .cells 41 (memD c ac0 9), .cells 73 (encW (x)), .cells 73 (encW x)]) (Z10_11 it K))))) none) none) none))) (br (! (↑ (List.length ws) : Int) == szC c) (br (fits (0 + List.length ws) 8) (K (B true) [.cells 24 (encC c), .cells 73 (encW x), .cells 73 (encW y), .dead, .dead, .rowi 22 .u64 ([] ++ ws), .cells 41 (memD c ac0 5), .cells 73 (encW (x))]) none) (br (fits (List.length ws) 8) (br (fits (0 + List.length ws) 8) (br (chkC c == 0) (br (! (↑ (List.length ws) : Int) == (↑ (sizeN (Int.toNat (Cf.a c)) (Int.toNat (Cf.b c)) (Int.toNat (Cf.c c)) (Int.toNat (Cf.d c)) (Int.toNat (Cf.e c))) : Int)) (K (B true) [.cells 24 (encC c), .cells 73 (encW x), .cells 73 (encW y), .dead, .dead, .dead, .rowi 22 .u64 ws, .cells 51 (memC c ac0 6), .dead, .rowi 22 .u64 ([] ++ ws), .cells 41 (memD c ac0 9), .cells 73 (encW (x))]) (br (greatW (x)) (K (B true) [.cells 24 (encC c), .cells 73 (encW x), .cells 73 (encW y), .dead, .dead, .dead, .rowi 22 .u64 ws, .cells 51 (memC c ac0 6), .dead, .rowi 22 .u64 ([] ++ ws), .cells 41 (memD c ac0 9), .cells 73 (encW (x))]) (br (greatW (y)) (K (B true) [.cells 24 (encC c), .cells 73 (encW x), .cells 73 (encW y), .dead, .dead, .dead, .rowi 22 .u64 ws, .cells 51 (memC c ac0 6), .dead, .rowi 22 .u64 ([] ++ ws), .cells 41 (memD c ac0 9), .cells 73 (encW (x))]) (it [2, 3, 6, 11, 12, 15, 16, 21, 22] 13 (sxI it E10 A10 L10_11 0) (SS.mk [(2, I w), (3, I v), (6, .d (DV.v (Value.int .u8 q))), (11, .ptr 1 0), (12, .ptr 2 0), (15, .ptr 7 0), (16, .ptr 10 0), (21, .ptr 12 0), (22, I 0)] [.cells 24 (encC c), .cells 73 (encW x), .cells 73 (encW y), .dead, .dead, .dead, .rowi 22 .u64 ws, .cells 51 (memC c ac0 6), .dead, .rowi 22 .u64 ([] ++ ws), .cells 41 (memD c ac0 9), .cells 73 (encW (x)), .cells 73 (encW x)]) (Z10_11 it K))))) none) none) none)))) := by kernel_rfl

theorem nL1E {Ω : Type} (it : Itr Ω) (IT : SS → Option Ω) (K : SV → SH → Option Ω) (c : Cf) (w v q i : Int) (m : Mm) (x y x0 : Wk) :
    sxI it E10 A10 L10_11 0 ⟨[(2, I w), (3, I v), (6, .d (.v (.int .u8 q))), (11, .ptr 1 0), (12, .ptr 2 0), (15, .ptr 7 0), (16, .ptr 10 0), (21, .ptr 12 0), (22, I i)], [.cells 24 (encC c), .cells 73 (encW x), .cells 73 (encW y), .dead, .dead, .dead, .rowi 22 .u64 m.ws, .cells 51 (memC m.c m.s 6), .dead, .rowi 22 .u64 m.ws, .cells 41 (memD m.c m.s 9), .cells 73 (encW x0), .cells 73 (encW x)]⟩ (kitV [2, 3, 6, 11, 12, 15, 16, 21, 22] 13 IT (Z10_11 it K)) =
    br (decide (i < 12)) (br (i == Int.tmod (w64' q) 12) (br (okM (m) && okW (y)) (br (okM (m) && okW (y)) (br (lenW (SR.x (stepE v (m) (y)))) (br (!sameW (SR.x (stepE v (m) (y))) (SR.x (stepE v (m) (y)))) (K (B false) [.cells 24 (encC c), .cells 73 (encW x), .cells 73 (encW y), .dead, .dead, .dead, .rowi 22 .u64 (Mm.ws (SR.m (stepE v (m) (y)))), .cells 51 (memC (Mm.c (SR.m (stepE v (m) (y)))) (Mm.s (SR.m (stepE v (m) (y)))) 6), .dead, .rowi 22 .u64 (Mm.ws (SR.m (stepE v (m) (y)))), .cells 41 (memD (Mm.c (SR.m (stepE v (m) (y)))) (Mm.s (SR.m (stepE v (m) (y)))) 9), .cells 73 (encW x0), .cells 73 (encW x), .cells 73 (encW (SR.x (stepE v (m) (y)))), .cells 73 (encW (SR.x (stepE v (m) (y))))]) (br (!SR.way (stepE v (m) (y)) == SR.way (stepE v (m) (y))) (K (B false) [.cells 24 (encC c), .cells 73 (encW x), .cells 73 (encW y), .dead, .dead, .dead, .rowi 22 .u64 (Mm.ws (SR.m (stepE v (m) (y)))), .cells 51 (memC (Mm.c (SR.m (stepE v (m) (y)))) (Mm.s (SR.m (stepE v (m) (y)))) 6), .dead, .rowi 22 .u64 (Mm.ws (SR.m (stepE v (m) (y)))), .cells 41 (memD (Mm.c (SR.m (stepE v (m) (y)))) (Mm.s (SR.m (stepE v (m) (y)))) 9), .cells 73 (encW x0), .cells 73 (encW x), .cells 73 (encW (SR.x (stepE v (m) (y)))), .cells 73 (encW (SR.x (stepE v (m) (y))))]) (br (!SR.ok (stepE v (m) (y)) == SR.ok (stepE v (m) (y))) (K (B false) [.cells 24 (encC c), .cells 73 (encW x), .cells 73 (encW y), .dead, .dead, .dead, .rowi 22 .u64 (Mm.ws (SR.m (stepE v (m) (y)))), .cells 51 (memC (Mm.c (SR.m (stepE v (m) (y)))) (Mm.s (SR.m (stepE v (m) (y)))) 6), .dead, .rowi 22 .u64 (Mm.ws (SR.m (stepE v (m) (y)))), .cells 41 (memD (Mm.c (SR.m (stepE v (m) (y)))) (Mm.s (SR.m (stepE v (m) (y)))) 9), .cells 73 (encW x0), .cells 73 (encW x), .cells 73 (encW (SR.x (stepE v (m) (y)))), .cells 73 (encW (SR.x (stepE v (m) (y))))]) (br (okM (SR.m (stepE v (m) (y))) && okW (x)) (br (okM (SR.m (stepE v (m) (y))) && okW (x)) (br (lenW (SR.x (stepE w (SR.m (stepE v (m) (y))) (x)))) (br (!sameW (SR.x (stepE w (SR.m (stepE v (m) (y))) (x))) (SR.x (stepE w (SR.m (stepE v (m) (y))) (x)))) (K (B false) [.cells 24 (encC c), .cells 73 (encW x), .cells 73 (encW y), .dead, .dead, .dead, .rowi 22 .u64 (Mm.ws (SR.m (stepE w (SR.m (stepE v (m) (y))) (x)))), .cells 51 (memC (Mm.c (SR.m (stepE w (SR.m (stepE v (m) (y))) (x)))) (Mm.s (SR.m (stepE w (SR.m (stepE v (m) (y))) (x)))) 6), .dead, .rowi 22 .u64 (Mm.ws (SR.m (stepE w (SR.m (stepE v (m) (y))) (x)))), .cells 41 (memD (Mm.c (SR.m (stepE w (SR.m (stepE v (m) (y))) (x)))) (Mm.s (SR.m (stepE w (SR.m (stepE v (m) (y))) (x)))) 9), .cells 73 (encW x0), .cells 73 (encW x), .cells 73 (encW (SR.x (stepE v (m) (y)))), .cells 73 (encW (SR.x (stepE v (m) (y)))), .cells 73 (encW (SR.x (stepE w (SR.m (stepE v (m) (y))) (x)))), .cells 73 (encW (SR.x (stepE w (SR.m (stepE v (m) (y))) (x))))]) (br (!SR.way (stepE w (SR.m (stepE v (m) (y))) (x)) == SR.way (stepE w (SR.m (stepE v (m) (y))) (x))) (K (B false) [.cells 24 (encC c), .cells 73 (encW x), .cells 73 (encW y), .dead, .dead, .dead, .rowi 22 .u64 (Mm.ws (SR.m (stepE w (SR.m (stepE v (m) (y))) (x)))), .cells 51 (memC (Mm.c (SR.m (stepE w (SR.m (stepE v (m) (y))) (x)))) (Mm.s (SR.m (stepE w (SR.m (stepE v (m) (y))) (x)))) 6), .dead, .rowi 22 .u64 (Mm.ws (SR.m (stepE w (SR.m (stepE v (m) (y))) (x)))), .cells 41 (memD (Mm.c (SR.m (stepE w (SR.m (stepE v (m) (y))) (x)))) (Mm.s (SR.m (stepE w (SR.m (stepE v (m) (y))) (x)))) 9), .cells 73 (encW x0), .cells 73 (encW x), .cells 73 (encW (SR.x (stepE v (m) (y)))), .cells 73 (encW (SR.x (stepE v (m) (y)))), .cells 73 (encW (SR.x (stepE w (SR.m (stepE v (m) (y))) (x)))), .cells 73 (encW (SR.x (stepE w (SR.m (stepE v (m) (y))) (x))))]) (br (!SR.ok (stepE w (SR.m (stepE v (m) (y))) (x)) == SR.ok (stepE w (SR.m (stepE v (m) (y))) (x))) (K (B false) [.cells 24 (encC c), .cells 73 (encW x), .cells 73 (encW y), .dead, .dead, .dead, .rowi 22 .u64 (Mm.ws (SR.m (stepE w (SR.m (stepE v (m) (y))) (x)))), .cells 51 (memC (Mm.c (SR.m (stepE w (SR.m (stepE v (m) (y))) (x)))) (Mm.s (SR.m (stepE w (SR.m (stepE v (m) (y))) (x)))) 6), .dead, .rowi 22 .u64 (Mm.ws (SR.m (stepE w (SR.m (stepE v (m) (y))) (x)))), .cells 41 (memD (Mm.c (SR.m (stepE w (SR.m (stepE v (m) (y))) (x)))) (Mm.s (SR.m (stepE w (SR.m (stepE v (m) (y))) (x)))) 9), .cells 73 (encW x0), .cells 73 (encW x), .cells 73 (encW (SR.x (stepE v (m) (y)))), .cells 73 (encW (SR.x (stepE v (m) (y)))), .cells 73 (encW (SR.x (stepE w (SR.m (stepE v (m) (y))) (x)))), .cells 73 (encW (SR.x (stepE w (SR.m (stepE v (m) (y))) (x))))]) (br (fits (List.length (Mm.ws (SR.m (stepE w (SR.m (stepE v (m) (y))) (x))))) 8) (br (decide (List.length (Mm.ws (SR.m (stepE w (SR.m (stepE v (m) (y))) (x)))) < 1000000000)) (br (decide (Mm.ws (SR.m (stepE w (SR.m (stepE v (m) (y))) (x))) = Mm.ws (SR.m (stepE w (SR.m (stepE v (m) (y))) (x))))) (br (! (Ac.k (Mm.s (SR.m (stepE w (SR.m (stepE v (m) (y))) (x)))) == Ac.k (Mm.s (SR.m (stepE w (SR.m (stepE v (m) (y))) (x)))) && (Ac.a (Mm.s (SR.m (stepE w (SR.m (stepE v (m) (y))) (x)))) == Ac.a (Mm.s (SR.m (stepE w (SR.m (stepE v (m) (y))) (x)))) && (Ac.x (Mm.s (SR.m (stepE w (SR.m (stepE v (m) (y))) (x)))) == Ac.x (Mm.s (SR.m (stepE w (SR.m (stepE v (m) (y))) (x)))) && (Ac.y (Mm.s (SR.m (stepE w (SR.m (stepE v (m) (y))) (x)))) == Ac.y (Mm.s (SR.m (stepE w (SR.m (stepE v (m) (y))) (x)))) && (Ac.o (Mm.s (SR.m (stepE w (SR.m (stepE v (m) (y))) (x)))) == Ac.o (Mm.s (SR.m (stepE w (SR.m (stepE v (m) (y))) (x)))) && true)))))) (K (B false) [.cells 24 (encC c), .cells 73 (encW x), .cells 73 (encW y), .dead, .dead, .dead, .rowi 22 .u64 (Mm.ws (SR.m (stepE w (SR.m (stepE v (m) (y))) (x)))), .cells 51 (memC (Mm.c (SR.m (stepE w (SR.m (stepE v (m) (y))) (x)))) (Mm.s (SR.m (stepE w (SR.m (stepE v (m) (y))) (x)))) 6), .dead, .rowi 22 .u64 (Mm.ws (SR.m (stepE w (SR.m (stepE v (m) (y))) (x)))), .cells 41 (memD (Mm.c (SR.m (stepE w (SR.m (stepE v (m) (y))) (x)))) (Mm.s (SR.m (stepE w (SR.m (stepE v (m) (y))) (x)))) 9), .cells 73 (encW x0), .cells 73 (encW x), .cells 73 (encW (SR.x (stepE v (m) (y)))), .cells 73 (encW (SR.x (stepE v (m) (y)))), .cells 73 (encW (SR.x (stepE w (SR.m (stepE v (m) (y))) (x)))), .cells 73 (encW (SR.x (stepE w (SR.m (stepE v (m) (y))) (x))))]) (IT (SS.mk [(2, I w), (3, I v), (6, .d (DV.v (Value.int .u8 q))), (11, .ptr 1 0), (12, .ptr 2 0), (15, .ptr 7 0), (16, .ptr 10 0), (21, .ptr 12 0), (22, I (w64' (i + 1)))] [.cells 24 (encC c), .cells 73 (encW (SR.x (stepE w (SR.m (stepE v (m) (y))) (x)))), .cells 73 (encW y), .dead, .dead, .dead, .rowi 22 .u64 (Mm.ws (SR.m (stepE w (SR.m (stepE v (m) (y))) (x)))), .cells 51 (memC (Mm.c (SR.m (stepE w (SR.m (stepE v (m) (y))) (x)))) (Mm.s (SR.m (stepE w (SR.m (stepE v (m) (y))) (x)))) 6), .dead, .rowi 22 .u64 (Mm.ws (SR.m (stepE w (SR.m (stepE v (m) (y))) (x)))), .cells 41 (memD (Mm.c (SR.m (stepE w (SR.m (stepE v (m) (y))) (x)))) (Mm.s (SR.m (stepE w (SR.m (stepE v (m) (y))) (x)))) 9), .cells 73 (encW x0), .cells 73 (encW (SR.x (stepE w (SR.m (stepE v (m) (y))) (x))))]))) (K (B false) [.cells 24 (encC c), .cells 73 (encW x), .cells 73 (encW y), .dead, .dead, .dead, .rowi 22 .u64 (Mm.ws (SR.m (stepE w (SR.m (stepE v (m) (y))) (x)))), .cells 51 (memC (Mm.c (SR.m (stepE w (SR.m (stepE v (m) (y))) (x)))) (Mm.s (SR.m (stepE w (SR.m (stepE v (m) (y))) (x)))) 6), .dead, .rowi 22 .u64 (Mm.ws (SR.m (stepE w (SR.m (stepE v (m) (y))) (x)))), .cells 41 (memD (Mm.c (SR.m (stepE w (SR.m (stepE v (m) (y))) (x)))) (Mm.s (SR.m (stepE w (SR.m (stepE v (m) (y))) (x)))) 9), .cells 73 (encW x0), .cells 73 (encW x), .cells 73 (encW (SR.x (stepE v (m) (y)))), .cells 73 (encW (SR.x (stepE v (m) (y)))), .cells 73 (encW (SR.x (stepE w (SR.m (stepE v (m) (y))) (x)))), .cells 73 (encW (SR.x (stepE w (SR.m (stepE v (m) (y))) (x))))])) none) none)))) none) none) none)))) none) none) none) (br (okM (m) && okW (x)) (br (okM (m) && okW (x)) (br (lenW (SR.x (stepE w (m) (x)))) (br (!sameW (SR.x (stepE w (m) (x))) (SR.x (stepE w (m) (x)))) (K (B false) [.cells 24 (encC c), .cells 73 (encW x), .cells 73 (encW y), .dead, .dead, .dead, .rowi 22 .u64 (Mm.ws (SR.m (stepE w (m) (x)))), .cells 51 (memC (Mm.c (SR.m (stepE w (m) (x)))) (Mm.s (SR.m (stepE w (m) (x)))) 6), .dead, .rowi 22 .u64 (Mm.ws (SR.m (stepE w (m) (x)))), .cells 41 (memD (Mm.c (SR.m (stepE w (m) (x)))) (Mm.s (SR.m (stepE w (m) (x)))) 9), .cells 73 (encW x0), .cells 73 (encW x), .cells 73 (encW (SR.x (stepE w (m) (x)))), .cells 73 (encW (SR.x (stepE w (m) (x))))]) (br (!SR.way (stepE w (m) (x)) == SR.way (stepE w (m) (x))) (K (B false) [.cells 24 (encC c), .cells 73 (encW x), .cells 73 (encW y), .dead, .dead, .dead, .rowi 22 .u64 (Mm.ws (SR.m (stepE w (m) (x)))), .cells 51 (memC (Mm.c (SR.m (stepE w (m) (x)))) (Mm.s (SR.m (stepE w (m) (x)))) 6), .dead, .rowi 22 .u64 (Mm.ws (SR.m (stepE w (m) (x)))), .cells 41 (memD (Mm.c (SR.m (stepE w (m) (x)))) (Mm.s (SR.m (stepE w (m) (x)))) 9), .cells 73 (encW x0), .cells 73 (encW x), .cells 73 (encW (SR.x (stepE w (m) (x)))), .cells 73 (encW (SR.x (stepE w (m) (x))))]) (br (!SR.ok (stepE w (m) (x)) == SR.ok (stepE w (m) (x))) (K (B false) [.cells 24 (encC c), .cells 73 (encW x), .cells 73 (encW y), .dead, .dead, .dead, .rowi 22 .u64 (Mm.ws (SR.m (stepE w (m) (x)))), .cells 51 (memC (Mm.c (SR.m (stepE w (m) (x)))) (Mm.s (SR.m (stepE w (m) (x)))) 6), .dead, .rowi 22 .u64 (Mm.ws (SR.m (stepE w (m) (x)))), .cells 41 (memD (Mm.c (SR.m (stepE w (m) (x)))) (Mm.s (SR.m (stepE w (m) (x)))) 9), .cells 73 (encW x0), .cells 73 (encW x), .cells 73 (encW (SR.x (stepE w (m) (x)))), .cells 73 (encW (SR.x (stepE w (m) (x))))]) (br (fits (List.length (Mm.ws (SR.m (stepE w (m) (x))))) 8) (br (decide (List.length (Mm.ws (SR.m (stepE w (m) (x)))) < 1000000000)) (br (decide (Mm.ws (SR.m (stepE w (m) (x))) = Mm.ws (SR.m (stepE w (m) (x))))) (br (! (Ac.k (Mm.s (SR.m (stepE w (m) (x)))) == Ac.k (Mm.s (SR.m (stepE w (m) (x)))) && (Ac.a (Mm.s (SR.m (stepE w (m) (x)))) == Ac.a (Mm.s (SR.m (stepE w (m) (x)))) && (Ac.x (Mm.s (SR.m (stepE w (m) (x)))) == Ac.x (Mm.s (SR.m (stepE w (m) (x)))) && (Ac.y (Mm.s (SR.m (stepE w (m) (x)))) == Ac.y (Mm.s (SR.m (stepE w (m) (x)))) && (Ac.o (Mm.s (SR.m (stepE w (m) (x)))) == Ac.o (Mm.s (SR.m (stepE w (m) (x)))) && true)))))) (K (B false) [.cells 24 (encC c), .cells 73 (encW x), .cells 73 (encW y), .dead, .dead, .dead, .rowi 22 .u64 (Mm.ws (SR.m (stepE w (m) (x)))), .cells 51 (memC (Mm.c (SR.m (stepE w (m) (x)))) (Mm.s (SR.m (stepE w (m) (x)))) 6), .dead, .rowi 22 .u64 (Mm.ws (SR.m (stepE w (m) (x)))), .cells 41 (memD (Mm.c (SR.m (stepE w (m) (x)))) (Mm.s (SR.m (stepE w (m) (x)))) 9), .cells 73 (encW x0), .cells 73 (encW x), .cells 73 (encW (SR.x (stepE w (m) (x)))), .cells 73 (encW (SR.x (stepE w (m) (x))))]) (IT (SS.mk [(2, I w), (3, I v), (6, .d (DV.v (Value.int .u8 q))), (11, .ptr 1 0), (12, .ptr 2 0), (15, .ptr 7 0), (16, .ptr 10 0), (21, .ptr 12 0), (22, I (w64' (i + 1)))] [.cells 24 (encC c), .cells 73 (encW (SR.x (stepE w (m) (x)))), .cells 73 (encW y), .dead, .dead, .dead, .rowi 22 .u64 (Mm.ws (SR.m (stepE w (m) (x)))), .cells 51 (memC (Mm.c (SR.m (stepE w (m) (x)))) (Mm.s (SR.m (stepE w (m) (x)))) 6), .dead, .rowi 22 .u64 (Mm.ws (SR.m (stepE w (m) (x)))), .cells 41 (memD (Mm.c (SR.m (stepE w (m) (x)))) (Mm.s (SR.m (stepE w (m) (x)))) 9), .cells 73 (encW x0), .cells 73 (encW (SR.x (stepE w (m) (x))))]))) (K (B false) [.cells 24 (encC c), .cells 73 (encW x), .cells 73 (encW y), .dead, .dead, .dead, .rowi 22 .u64 (Mm.ws (SR.m (stepE w (m) (x)))), .cells 51 (memC (Mm.c (SR.m (stepE w (m) (x)))) (Mm.s (SR.m (stepE w (m) (x)))) 6), .dead, .rowi 22 .u64 (Mm.ws (SR.m (stepE w (m) (x)))), .cells 41 (memD (Mm.c (SR.m (stepE w (m) (x)))) (Mm.s (SR.m (stepE w (m) (x)))) 9), .cells 73 (encW x0), .cells 73 (encW x), .cells 73 (encW (SR.x (stepE w (m) (x)))), .cells 73 (encW (SR.x (stepE w (m) (x))))])) none) none)))) none) none) none)) (K (B true) [.cells 24 (encC c), .cells 73 (encW x), .cells 73 (encW y), .dead, .dead, .dead, .rowi 22 .u64 (Mm.ws m), .cells 51 (memC (Mm.c m) (Mm.s m) 6), .dead, .rowi 22 .u64 (Mm.ws m), .cells 41 (memD (Mm.c m) (Mm.s m) 9), .cells 73 (encW x0), .cells 73 (encW x)]) := by kernel_rfl

abbrev S10z (w v q : Int) (c : Cf) (x y x0 : Wk) (m : Mm) (i : Int) : SS := ⟨[(2, I w), (3, I v), (6, .d (.v (.int .u8 q))), (11, .ptr 1 0), (12, .ptr 2 0), (15, .ptr 7 0), (16, .ptr 10 0), (21, .ptr 12 0), (22, I i)], [.cells 24 (encC c), .cells 73 (encW x), .cells 73 (encW y), .dead, .dead, .dead, .rowi 22 .u64 m.ws, .cells 51 (memC m.c m.s 6), .dead, .rowi 22 .u64 m.ws, .cells 41 (memD m.c m.s 9), .cells 73 (encW x0), .cells 73 (encW x)]⟩
theorem roundE {w v : Int} {q : Int} {c : Cf} {x y x0 : Wk} {m : Mm} {i : Int} (hm : okM m = true) (hx : okW x = true) (hy : okW y = true) (lx : lenW x = true) (ly : lenW y = true) (hl : m.ws.length ≤ 400) (hi : i < 12) (hi0 : 0 ≤ i) :
    ∃ x' m', okM m' = true ∧ okW x' = true ∧ lenW x' = true ∧ m'.ws.length ≤ 400 ∧ ∀ IT : SS → Option (SV × SH), sxI itB E10 A10 L10_11 0 (S10z w v q c x y x0 m i) (kitV [2, 3, 6, 11, 12, 15, 16, 21, 22] 13 IT (Z10_11 itB KS)) = IT (S10z w v q c x' y x0 m' (i + 1)) := by
  have hi1 : -9223372036854775808 ≤ i + 1 := by omega
  have hi2 : i + 1 ≤ 9223372036854775807 := by omega
  cases hq : (i == Int.tmod (w64' q) 12) with
  | false =>
    obtain ⟨q1, q2, q3, q4, q5⟩ := (presE (w := w) hm hx)
    rw [lx] at q3
    have f1 : fits m.ws.length 8 = true := fits_of (by omega)
    have f2 : decide (m.ws.length < 1000000000) = true := decide_eq_true (by omega)
    refine ⟨(stepE w m x).x, (stepE w m x).m, q1, q2, q3, by omega, fun IT => ?_⟩
    rw [nL1E]
    simp only [decide_eq_true hi, hq, hm, hx, hy, q3, q4, f1, f2, sameW_self, beq_self_eq_true, Bool.and_self, Bool.and_true, Bool.not_true, decide_true, br_t, br_f, w64 hi1 hi2]
    try rfl
  | true =>
    obtain ⟨p1, p2, p3, p4, p5⟩ := (presE (w := v) hm hy)
    rw [ly] at p3
    obtain ⟨q1, q2, q3, q4, q5⟩ := (presE (w := w) p1 hx)
    rw [lx] at q3
    have f1 : fits m.ws.length 8 = true := fits_of (by omega)
    have f2 : decide (m.ws.length < 1000000000) = true := decide_eq_true (by omega)
    refine ⟨(stepE w (stepE v m y).m x).x, (stepE w (stepE v m y).m x).m, q1, q2, q3, by omega, fun IT => ?_⟩
    rw [nL1E]
    simp only [decide_eq_true hi, hq, hm, hx, hy, p1, p3, p4, q3, q4, f1, f2, sameW_self, beq_self_eq_true, Bool.and_self, Bool.not_true, decide_true, br_t, br_f, w64 hi1 hi2]
    try rfl
theorem loopE {w v : Int} {q : Int} {c : Cf} {y x0 : Wk} (hy : okW y = true) (ly : lenW y = true) : ∀ (k i N : Nat) (x : Wk) (m : Mm), i + k = 12 → k < N → okM m = true → okW x = true → lenW x = true → m.ws.length ≤ 400 →
    Tru (iter [2, 3, 6, 11, 12, 15, 16, 21, 22] 13 (sxI itB E10 A10 L10_11 0) N (S10z w v q c x y x0 m (i : Int)) (Z10_11 itB KS))
  | 0, i, N, x, m, hk, hN, hm, hx, lx, hl => by
    obtain ⟨N, rfl⟩ : ∃ k, N = k + 1 := ⟨N - 1, by omega⟩
    rw [iter_succ, nL1E, decide_eq_false (by omega), br_f]
    exact tru_ret
  | k + 1, i, N, x, m, hk, hN, hm, hx, lx, hl => by
    obtain ⟨N, rfl⟩ : ∃ k, N = k + 1 := ⟨N - 1, by omega⟩
    obtain ⟨x', m', h1, h2, h3, h4, h5⟩ := roundE (w := w) (v := v) (q := q) (c := c) (x0 := x0) hm hx hy lx ly hl (i := i) (by omega) (by omega)
    rw [iter_succ, h5]
    have := loopE (w := w) (v := v) (q := q) (c := c) (x0 := x0) hy ly k (i + 1) N x' m' (by omega) (by omega) h1 h2 h3 h4
    rw [show ((i + 1 : Nat) : Int) = (i : Int) + 1 by push_cast; rfl] at this
    exact this

theorem mainE (w v q : Int) (c : Cf) (ws : List Int) (x y : Wk) (hw : u64B ws = true) (hx : okW x = true) (hy : okW y = true) : Tru (sxFn E10 A10 C10 [.agg (encC c), .d (.ints .u64 ws), I w, I v, .agg (encW x), .agg (encW y), .d (.v (.int .u8 q))] [] KS) := by
  rw [← sxFnI_eq, nL0E]
  have LOOP : ∀ {x0 : Wk}, chkC c = 0 → ws.length ≤ 400 → greatW x = false → greatW y = false → Tru (itB [2, 3, 6, 11, 12, 15, 16, 21, 22] 13 (sxI itB E10 A10 L10_11 0) (S10z w v q c x y x0 ⟨c, ac0, ws⟩ 0) (Z10_11 itB KS)) := fun hc hl gx gy => by
    rw [itB_def]
    exact loopE hy (lenW_of gy) 12 0 big x ⟨c, ac0, ws⟩ rfl (by unfold big; omega) (by simp only [okM, hc, hw, beq_self_eq_true, Bool.and_self]) hx (lenW_of gx) hl
  have fz : ws.length ≤ 400 → fits (0 + ws.length) 8 = true ∧ fits ws.length 8 = true := fun h => ⟨fits_of (by omega), fits_of (by omega)⟩
  by_cases h400 : ws.length ≤ 400
  · obtain ⟨z1, z2⟩ := fz h400
    have z3 : decide ((ws.length : Int) > 400) = false := decide_eq_false (by omega)
    cases hc : (chkC c == 0) with
    | true =>
      simp only [z1, z2, z3, Bool.not_true, br_t, br_f]
      exact Tru.br (fun _ => tru_ret) fun _ => Tru.br (fun _ => tru_ret) fun _ => Tru.br (fun _ => tru_ret) fun _ => Tru.br (fun _ => tru_ret) fun _ => Tru.br (fun _ => tru_ret) fun gx => Tru.br (fun _ => tru_ret) fun gy => LOOP (by simpa using hc) h400 gx gy
    | false =>
      simp only [z1, z2, z3, Bool.not_false, br_t, br_f]
      exact tru_ret
  · have z3 : decide ((ws.length : Int) > 400) = true := decide_eq_true (by omega)
    simp only [z3, br_t]
    exact Tru.br (fun _ => Tru.br (fun _ => tru_ret) fun _ => Tru.br (fun _ => tru_ret) fun _ => tru_ret) fun _ => tru_ret
end Go.Sx.Pr
