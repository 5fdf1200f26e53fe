/- Pieces of the code of functions, compiled for the symbolic interpreter, each checked against the program; no conditions. -/
import Derived.Test.YtljmncdlehinnaaT2
import Derived.Test.YtljmncdlehinnaaRows
import Derived.KernelRfl
import Derived.Test.YtljmncdlehinnaaN3
import Derived.Test.YtljmncdlehinnaaR12c
set_option linter.all false
set_option linter.unusedVariables false
set_option linter.unusedSimpArgs false
set_option linter.unnecessarySimpa false
namespace Go.Sx.Pr
open Go Go.Sx Go.Proofs
set_option maxRecDepth 100000
/-- coatcheck/slab.Parked -/
def C1027 : CF := ⟨3, [(6, none)],
 .seq (.reg false [⟨some 3, .box 26 8 (.t 0), none, 0⟩,
   ⟨some 6, .mv (.c (.d (.v (.int .i64 0)))), none, 0⟩])
 (.seq (.reg false [⟨some 13, .ld 8 true (.t 3), none, 0⟩,
   ⟨some 14, .mv (.t 1), none, 0⟩,
   ⟨some 15, .mv (.t 2), none, 0⟩,
   ⟨some 16, .call (.c (.fn (.func 62) [] [])) [.t 13, .t 14, .t 15], none, 0⟩,
   ⟨some 12, .mv (.t 16), none, 0⟩,
   ⟨some 17, .ext 0 (.t 12), none, 0⟩,
   ⟨some 18, .ext 1 (.t 12), none, 0⟩,
   ⟨some 7, .mv (.t 17), none, 0⟩,
   ⟨some 8, .mv (.t 18), none, 0⟩])
 (.seq (.reg false [⟨some 20, .mv (.t 7), none, 0⟩,
   ⟨some 21, .call (.c (.fn (.func 54) [] [])) [.t 20], none, 0⟩,
   ⟨some 19, .mv (.t 21), none, 0⟩,
   ⟨some 22, .ext 0 (.t 19), none, 0⟩,
   ⟨some 23, .ext 1 (.t 19), none, 0⟩,
   ⟨some 24, .ext 2 (.t 19), none, 0⟩,
   ⟨some 9, .mv (.t 22), none, 0⟩,
   ⟨some 10, .mv (.t 23), none, 0⟩,
   ⟨some 11, .mv (.t 24), none, 0⟩])
 (.seq (.reg false [⟨some 25, .mv (.t 10), none, 0⟩,
   ⟨some 6, .mv (.t 25), none, 0⟩])
 (.ret))))⟩
theorem c1027 : coF Try.prog Try.f25 = some C1027 := by kernel_rfl
def A1027 : Ann := { keep := [0, 1, 2, 3, 6, 7, 10], live := [] }
def E1027 {Ω : Type} : Env Ω := econs 54 S94c (econs 62 S124c (enil))
theorem e1027 : GoodE Try.prog E1027 := GoodE.cons g94c (GoodE.cons g124c (GoodE.nil))
def S1027 {Ω : Type} : Spec Ω := inl E1027 A1027 C1027 false
theorem g1027 : Good1 Try.prog 25 S1027 := Good1.inl e1027 mix Try.func25 (by kernel_rfl) c1027 A1027 false
def K1025_1 : CC := .seq (.reg false [⟨some 20, .mv (.t 7), none, 0⟩,
   ⟨some 21, .call (.c (.fn (.func 54) [] [])) [.t 20], none, 0⟩,
   ⟨some 19, .mv (.t 21), none, 0⟩,
   ⟨some 22, .ext 0 (.t 19), none, 0⟩,
   ⟨some 23, .ext 1 (.t 19), none, 0⟩,
   ⟨some 24, .ext 2 (.t 19), none, 0⟩,
   ⟨some 9, .mv (.t 22), none, 0⟩,
   ⟨some 10, .mv (.t 23), none, 0⟩,
   ⟨some 11, .mv (.t 24), none, 0⟩])
 (.seq (.reg false [⟨some 25, .mv (.t 8), none, 0⟩,
   ⟨some 26, .mv (.t 25), none, 0⟩,
   ⟨some 27, .mv (.t 9), some (26, true), 0⟩,
   ⟨some 28, .eq .int false (.t 27) (.c (.d (.v (.int .i64 3)))), some (26, true), 0⟩,
   ⟨some 29, .pick (.t 26) (.t 28) (.c (.d (.v (.bool false)))), none, 0⟩,
   ⟨some 30, .mv (.t 29), none, 0⟩,
   ⟨some 31, .mv (.t 7), some (30, true), 0⟩,
   ⟨some 32, .mv (.t 1), some (30, true), 0⟩,
   ⟨some 33, .ixs 1 (.t 32) (.c (.d (.v (.int .i64 0)))), some (30, true), 0⟩,
   ⟨some 34, .ld 1 false (.t 33), some (30, true), 0⟩,
   ⟨some 35, .call (.c (.fn (.func 21) [] [])) [.t 31, .t 34], some (30, true), 0⟩,
   ⟨some 36, .pick (.t 30) (.t 35) (.c (.d (.v (.bool false)))), none, 0⟩,
   ⟨some 6, .mv (.t 36), none, 0⟩])
 (.ret))
def K1025_2 : CC := .reg false [⟨some 13, .ld 8 true (.t 3), none, 0⟩,
   ⟨some 14, .mv (.t 1), none, 0⟩,
   ⟨some 15, .mv (.t 2), none, 0⟩,
   ⟨some 16, .call (.c (.fn (.func 62) [] [])) [.t 13, .t 14, .t 15], none, 0⟩,
   ⟨some 12, .mv (.t 16), none, 0⟩,
   ⟨some 17, .ext 0 (.t 12), none, 0⟩,
   ⟨some 18, .ext 1 (.t 12), none, 0⟩,
   ⟨some 7, .mv (.t 17), none, 0⟩,
   ⟨some 8, .mv (.t 18), none, 0⟩]
def K1025_3 : CC := .reg false [⟨some 3, .box 26 8 (.t 0), none, 0⟩,
   ⟨some 6, .mv (.c (.d (.v (.bool false)))), none, 0⟩]
/-- coatcheck/slab.Gone -/
def C1025 : CF := ⟨3, [(6, none)],
 .seq K1025_3 (.seq K1025_2 K1025_1)⟩
theorem c1025 : coF Try.prog Try.f23 = some C1025 := by kernel_rfl
def A1025 : Ann := { keep := [0, 1, 2, 3, 6, 7, 8, 9], live := [] }
def E1025 {Ω : Type} : Env Ω := econs 21 S98c (econs 54 S94c (econs 62 S124c (enil)))
theorem e1025 : GoodE Try.prog E1025 := GoodE.cons g98c (GoodE.cons g94c (GoodE.cons g124c (GoodE.nil)))
def S1025 {Ω : Type} : Spec Ω := inl E1025 A1025 C1025 false
theorem g1025 : Good1 Try.prog 23 S1025 := Good1.inl e1025 mix Try.func23 (by kernel_rfl) c1025 A1025 false
/-- coatcheck/coatcheckref08.Gone -/
def C1026 : CF := ⟨3, [(6, none)],
 .seq (.reg false [⟨some 3, .box 26 8 (.t 0), none, 0⟩,
   ⟨some 6, .mv (.c (.d (.v (.bool false)))), none, 0⟩])
 (.seq (.reg false [⟨some 10, .ld 8 true (.t 3), none, 0⟩,
   ⟨some 11, .mv (.t 1), none, 0⟩,
   ⟨some 12, .mv (.t 2), none, 0⟩,
   ⟨some 13, .call (.c (.fn (.func 19) [] [])) [.t 10, .t 11, .t 12], none, 0⟩,
   ⟨some 9, .mv (.t 13), none, 0⟩,
   ⟨some 14, .ext 0 (.t 9), none, 0⟩,
   ⟨some 15, .ext 1 (.t 9), none, 0⟩,
   ⟨some 7, .mv (.t 14), none, 0⟩,
   ⟨some 8, .mv (.t 15), none, 0⟩])
 (.seq (.reg false [⟨some 16, .mv (.t 8), none, 0⟩,
   ⟨some 17, .mv (.t 16), none, 0⟩,
   ⟨some 18, .mv (.t 7), some (17, true), 0⟩,
   ⟨some 19, .bin .rem (.t 18) (.c (.d (.v (.int .u64 16)))), some (17, true), 0⟩,
   ⟨some 20, .eq .int false (.t 19) (.c (.d (.v (.int .u64 3)))), some (17, true), 0⟩,
   ⟨some 21, .pick (.t 17) (.t 20) (.c (.d (.v (.bool false)))), none, 0⟩,
   ⟨some 22, .mv (.t 21), none, 0⟩,
   ⟨some 23, .mv (.t 7), some (22, true), 0⟩,
   ⟨some 24, .mv (.t 1), some (22, true), 0⟩,
   ⟨some 25, .ixs 1 (.t 24) (.c (.d (.v (.int .i64 0)))), some (22, true), 0⟩,
   ⟨some 26, .ld 1 false (.t 25), some (22, true), 0⟩,
   ⟨some 27, .call (.c (.fn (.func 22) [] [])) [.t 23, .t 26], some (22, true), 0⟩,
   ⟨some 28, .pick (.t 22) (.t 27) (.c (.d (.v (.bool false)))), none, 0⟩,
   ⟨some 6, .mv (.t 28), none, 0⟩])
 (.ret)))⟩
theorem c1026 : coF Try.prog Try.f24 = some C1026 := by kernel_rfl
def A1026 : Ann := { keep := [0, 1, 2, 3, 6, 7, 8], live := [] }
def E1026 {Ω : Type} : Env Ω := econs 19 S1024c (econs 22 S105c (enil))
theorem e1026 : GoodE Try.prog E1026 := GoodE.cons g1024c (GoodE.cons g105c (GoodE.nil))
def S1026 {Ω : Type} : Spec Ω := inl E1026 A1026 C1026 false
theorem g1026 : Good1 Try.prog 24 S1026 := Good1.inl e1026 mix Try.func24 (by kernel_rfl) c1026 A1026 false
def K1003_1 : CC := .ret
def K1003_2 : CC := .reg true [⟨some 38, .mv (.t 3), none, 0⟩,
   ⟨some 39, .mv (.t 4), none, 0⟩,
   ⟨some 40, .call (.c (.fn (.func 21) [] [])) [.t 38, .t 39], none, 3⟩,
   ⟨some 41, .mv (.t 3), none, 0⟩,
   ⟨some 42, .mv (.t 4), none, 0⟩,
   ⟨some 43, .call (.c (.fn (.func 22) [] [])) [.t 41, .t 42], none, 31⟩,
   ⟨some 44, .eq .bool false (.t 40) (.t 43), none, 63⟩,
   ⟨some 45, .mv (.t 44), none, 127⟩,
   ⟨some 46, .ld 8 true (.t 5), some (45, true), 255⟩,
   ⟨some 47, .mv (.t 1), some (45, true), 255⟩,
   ⟨some 48, .mv (.t 2), some (45, true), 255⟩,
   ⟨some 49, .call (.c (.fn (.func 23) [] [])) [.t 46, .t 47, .t 48], some (45, true), 2047⟩,
   ⟨some 50, .ld 8 true (.t 5), some (45, true), 255⟩,
   ⟨some 51, .mv (.t 1), some (45, true), 255⟩,
   ⟨some 52, .mv (.t 2), some (45, true), 255⟩,
   ⟨some 53, .call (.c (.fn (.func 24) [] [])) [.t 50, .t 51, .t 52], some (45, true), 32767⟩,
   ⟨some 54, .eq .bool false (.t 49) (.t 53), some (45, true), 65535⟩,
   ⟨some 55, .pick (.t 45) (.t 54) (.c (.d (.v (.bool false)))), none, 131071⟩,
   ⟨some 56, .mv (.t 55), none, 262143⟩,
   ⟨some 57, .ld 8 true (.t 5), some (56, true), 524287⟩,
   ⟨some 58, .mv (.t 1), some (56, true), 524287⟩,
   ⟨some 59, .mv (.t 2), some (56, true), 524287⟩,
   ⟨some 60, .call (.c (.fn (.func 16) [] [])) [.t 57, .t 58, .t 59], some (56, true), 4194303⟩,
   ⟨some 61, .mv (.t 13), some (56, true), 524287⟩,
   ⟨some 62, .eq .int false (.t 60) (.t 61), some (56, true), 16777215⟩,
   ⟨some 63, .pick (.t 56) (.t 62) (.c (.d (.v (.bool false)))), none, 33554431⟩,
   ⟨some 64, .mv (.t 63), none, 67108863⟩,
   ⟨some 65, .ld 8 true (.t 5), some (64, true), 134217727⟩,
   ⟨some 66, .mv (.t 1), some (64, true), 134217727⟩,
   ⟨some 67, .mv (.t 2), some (64, true), 134217727⟩,
   ⟨some 68, .call (.c (.fn (.func 25) [] [])) [.t 65, .t 66, .t 67], some (64, true), 1073741823⟩,
   ⟨some 69, .mv (.t 14), some (64, true), 134217727⟩,
   ⟨some 70, .eq .int false (.t 68) (.t 69), some (64, true), 4294967295⟩,
   ⟨some 71, .pick (.t 64) (.t 70) (.c (.d (.v (.bool false)))), none, 8589934591⟩,
   ⟨some 10, .mv (.t 71), none, 17179869183⟩]
def K1003_3 : CC := .reg false [⟨some 33, .mv (.t 11), none, 0⟩,
   ⟨some 34, .call (.c (.fn (.func 20) [] [])) [.t 33], none, 0⟩,
   ⟨some 32, .mv (.t 34), none, 0⟩,
   ⟨some 35, .ext 0 (.t 32), none, 0⟩,
   ⟨some 36, .ext 1 (.t 32), none, 0⟩,
   ⟨some 37, .ext 2 (.t 32), none, 0⟩,
   ⟨some 13, .mv (.t 35), none, 0⟩,
   ⟨some 14, .mv (.t 36), none, 0⟩,
   ⟨some 15, .mv (.t 37), none, 0⟩]
def K1003_4 : CC := .reg false [⟨some 26, .ld 8 true (.t 5), none, 0⟩,
   ⟨some 27, .mv (.t 1), none, 0⟩,
   ⟨some 28, .mv (.t 2), none, 0⟩,
   ⟨some 29, .call (.c (.fn (.func 19) [] [])) [.t 26, .t 27, .t 28], none, 0⟩,
   ⟨some 25, .mv (.t 29), none, 0⟩,
   ⟨some 30, .ext 0 (.t 25), none, 0⟩,
   ⟨some 31, .ext 1 (.t 25), none, 0⟩,
   ⟨some 11, .mv (.t 30), none, 0⟩,
   ⟨some 12, .mv (.t 31), none, 0⟩]
def K1003_5 : CC := .seq (.reg false [⟨some 18, .ld 8 true (.t 5), none, 0⟩,
   ⟨some 19, .call (.c (.fn (.func 18) [] [])) [.t 18], none, 0⟩,
   ⟨some 20, .mv (.t 19), none, 0⟩,
   ⟨some 21, .mv (.t 1), some (20, false), 0⟩,
   ⟨some 22, .len (.t 21), some (20, false), 0⟩,
   ⟨some 23, .bin .gtr (.t 22) (.c (.d (.v (.int .i64 400)))), some (20, false), 0⟩,
   ⟨some 24, .pick (.t 20) (.c (.d (.v (.bool true)))) (.t 23), none, 0⟩])
 (.cond 24 (.seq (.reg false [⟨some 10, .mv (.c (.d (.v (.bool true)))), none, 0⟩])
   (.ret))
   (.skip))
def K1003_6 : CC := .seq (.reg false [⟨some 16, .call (.c (.fn (.func 11) [] [])) [], none, 0⟩,
   ⟨some 17, .un .not (.t 16), none, 0⟩])
 (.cond 17 (.seq (.reg false [⟨some 10, .mv (.c (.d (.v (.bool false)))), none, 0⟩])
   (.ret))
   (.skip))
def K1003_7 : CC := .reg false [⟨some 5, .box 26 8 (.t 0), none, 0⟩,
   ⟨some 10, .mv (.c (.d (.v (.bool false)))), none, 0⟩]
/-- coatcheck/coatchecklaw08.SlabTells -/
def C1003 : CF := ⟨5, [(10, none)],
 .seq K1003_7 (.seq K1003_6 (.seq K1003_5 (.seq K1003_4 (.seq K1003_3 (.seq K1003_2 K1003_1)))))⟩
theorem c1003 : coF Try.prog Try.f4 = some C1003 := by kernel_rfl
def A1003 : Ann := { keep := [0, 1, 2, 3, 4, 5, 10, 11, 13, 14, 17, 24], live := [] }
def E1003 {Ω : Type} : Env Ω := econs 11 S60 (econs 16 S92c (econs 18 S16 (econs 19 S1024c (econs 20 S101c (econs 21 S98c (econs 22 S105c (econs 23 S1025 (econs 24 S1026 (econs 25 S1027 (enil))))))))))
theorem e1003 : GoodE Try.prog E1003 := GoodE.cons g60 (GoodE.cons g92c (GoodE.cons g16 (GoodE.cons g1024c (GoodE.cons g101c (GoodE.cons g98c (GoodE.cons g105c (GoodE.cons g1025 (GoodE.cons g1026 (GoodE.cons g1027 (GoodE.nil))))))))))
end Go.Sx.Pr

/- SlabTells: the law answers true on symbolic arguments. -/
namespace Go.Sx.Pr
open Go Go.Sx Go.Sx.Md Go.Proofs
set_option maxRecDepth 100000
theorem nT3 {Ω : Type} (it : Itr Ω) (K : SV → SH → Option Ω) (c : Cf) (ws : List Int) (j w e : Int) :
    sxFnI it E1003 A1003 C1003 [.agg (encC c), .d (.ints .u64 ws), I j, U w, U e] [] K =
    br (chkC c == 0) (br (decide (w64' (Cf.b c * Cf.c c) > 40)) (K (B true) [.cells 26 (encC c)]) (br (decide (Cf.e c > 16)) (K (B true) [.cells 26 (encC c)]) (br (decide ((↑ (List.length ws) : Int) > 400)) (K (B true) [.cells 26 (encC c)]) (br (uB (Prod.fst (wordV (c) ws j))) (br (uB w && uB e) (br (uB w && uB e) (br (readyV w e == readyV w e) (br (uB (Prod.fst (wordV (c) ws j))) (br (Prod.snd (wordV (c) ws j)) (br (Prod.fst (wordV (c) ws j) % 16 == 3) (br (inB 0 (List.length ws)) (br (uB (Prod.fst (wordV (c) ws j)) && uB (List.getD ws 0 0)) (br (Prod.snd (wordV (c) ws j)) (br (Int.tmod (Prod.fst (wordV (c) ws j)) 16 == 3) (br (inB 0 (List.length ws)) (br (uB (Prod.fst (wordV (c) ws j)) && uB (List.getD ws 0 0)) (br (readyV (Prod.fst (wordV (c) ws j)) (List.getD ws 0 0) == readyV (Prod.fst (wordV (c) ws j)) (List.getD ws 0 0)) (br (u64B ws) (br (Prod.fst (wordV (c) ws j) % 16 == Prod.fst (wordV (c) ws j) % 16) (br (uB (Prod.fst (wordV (c) ws j))) (K (B (Prod.fst (wordV (c) ws j) / 16 % 4096 == Prod.fst (wordV (c) ws j) / 16 % 4096)) [.cells 26 (encC c)]) none) (K (B false) [.cells 26 (encC c)])) none) (K (B false) [.cells 26 (encC c)])) none) none) (br (readyV (Prod.fst (wordV (c) ws j)) (List.getD ws 0 0) == false) (br (u64B ws) (br (Prod.fst (wordV (c) ws j) % 16 == Prod.fst (wordV (c) ws j) % 16) (br (uB (Prod.fst (wordV (c) ws j))) (K (B (Prod.fst (wordV (c) ws j) / 16 % 4096 == Prod.fst (wordV (c) ws j) / 16 % 4096)) [.cells 26 (encC c)]) none) (K (B false) [.cells 26 (encC c)])) none) (K (B false) [.cells 26 (encC c)]))) (br (readyV (Prod.fst (wordV (c) ws j)) (List.getD ws 0 0) == false) (br (u64B ws) (br (Prod.fst (wordV (c) ws j) % 16 == Prod.fst (wordV (c) ws j) % 16) (br (uB (Prod.fst (wordV (c) ws j))) (K (B (Prod.fst (wordV (c) ws j) / 16 % 4096 == Prod.fst (wordV (c) ws j) / 16 % 4096)) [.cells 26 (encC c)]) none) (K (B false) [.cells 26 (encC c)])) none) (K (B false) [.cells 26 (encC c)]))) none) none) (br (Prod.snd (wordV (c) ws j)) (br (Int.tmod (Prod.fst (wordV (c) ws j)) 16 == 3) (br (inB 0 (List.length ws)) (br (uB (Prod.fst (wordV (c) ws j)) && uB (List.getD ws 0 0)) (br (false == readyV (Prod.fst (wordV (c) ws j)) (List.getD ws 0 0)) (br (u64B ws) (br (Prod.fst (wordV (c) ws j) % 16 == Prod.fst (wordV (c) ws j) % 16) (br (uB (Prod.fst (wordV (c) ws j))) (K (B (Prod.fst (wordV (c) ws j) / 16 % 4096 == Prod.fst (wordV (c) ws j) / 16 % 4096)) [.cells 26 (encC c)]) none) (K (B false) [.cells 26 (encC c)])) none) (K (B false) [.cells 26 (encC c)])) none) none) (br (u64B ws) (br (Prod.fst (wordV (c) ws j) % 16 == Prod.fst (wordV (c) ws j) % 16) (br (uB (Prod.fst (wordV (c) ws j))) (K (B (Prod.fst (wordV (c) ws j) / 16 % 4096 == Prod.fst (wordV (c) ws j) / 16 % 4096)) [.cells 26 (encC c)]) none) (K (B false) [.cells 26 (encC c)])) none)) (br (u64B ws) (br (Prod.fst (wordV (c) ws j) % 16 == Prod.fst (wordV (c) ws j) % 16) (br (uB (Prod.fst (wordV (c) ws j))) (K (B (Prod.fst (wordV (c) ws j) / 16 % 4096 == Prod.fst (wordV (c) ws j) / 16 % 4096)) [.cells 26 (encC c)]) none) (K (B false) [.cells 26 (encC c)])) none))) (br (Prod.snd (wordV (c) ws j)) (br (Int.tmod (Prod.fst (wordV (c) ws j)) 16 == 3) (br (inB 0 (List.length ws)) (br (uB (Prod.fst (wordV (c) ws j)) && uB (List.getD ws 0 0)) (br (false == readyV (Prod.fst (wordV (c) ws j)) (List.getD ws 0 0)) (br (u64B ws) (br (Prod.fst (wordV (c) ws j) % 16 == Prod.fst (wordV (c) ws j) % 16) (br (uB (Prod.fst (wordV (c) ws j))) (K (B (Prod.fst (wordV (c) ws j) / 16 % 4096 == Prod.fst (wordV (c) ws j) / 16 % 4096)) [.cells 26 (encC c)]) none) (K (B false) [.cells 26 (encC c)])) none) (K (B false) [.cells 26 (encC c)])) none) none) (br (u64B ws) (br (Prod.fst (wordV (c) ws j) % 16 == Prod.fst (wordV (c) ws j) % 16) (br (uB (Prod.fst (wordV (c) ws j))) (K (B (Prod.fst (wordV (c) ws j) / 16 % 4096 == Prod.fst (wordV (c) ws j) / 16 % 4096)) [.cells 26 (encC c)]) none) (K (B false) [.cells 26 (encC c)])) none)) (br (u64B ws) (br (Prod.fst (wordV (c) ws j) % 16 == Prod.fst (wordV (c) ws j) % 16) (br (uB (Prod.fst (wordV (c) ws j))) (K (B (Prod.fst (wordV (c) ws j) / 16 % 4096 == Prod.fst (wordV (c) ws j) / 16 % 4096)) [.cells 26 (encC c)]) none) (K (B false) [.cells 26 (encC c)])) none))) none) (K (B false) [.cells 26 (encC c)])) none) none) none)))) (br (decide ((↑ (List.length ws) : Int) > 400)) (K (B true) [.cells 26 (encC c)]) (br (uB (Prod.fst (wordV (c) ws j))) (br (uB w && uB e) (br (uB w && uB e) (br (readyV w e == readyV w e) (br (uB (Prod.fst (wordV (c) ws j))) (br (Prod.snd (wordV (c) ws j)) (br (Prod.fst (wordV (c) ws j) % 16 == 3) (br (inB 0 (List.length ws)) (br (uB (Prod.fst (wordV (c) ws j)) && uB (List.getD ws 0 0)) (br (Prod.snd (wordV (c) ws j)) (br (Int.tmod (Prod.fst (wordV (c) ws j)) 16 == 3) (br (inB 0 (List.length ws)) (br (uB (Prod.fst (wordV (c) ws j)) && uB (List.getD ws 0 0)) (br (readyV (Prod.fst (wordV (c) ws j)) (List.getD ws 0 0) == readyV (Prod.fst (wordV (c) ws j)) (List.getD ws 0 0)) (br (u64B ws) (br (Prod.fst (wordV (c) ws j) % 16 == Prod.fst (wordV (c) ws j) % 16) (br (uB (Prod.fst (wordV (c) ws j))) (K (B (Prod.fst (wordV (c) ws j) / 16 % 4096 == Prod.fst (wordV (c) ws j) / 16 % 4096)) [.cells 26 (encC c)]) none) (K (B false) [.cells 26 (encC c)])) none) (K (B false) [.cells 26 (encC c)])) none) none) (br (readyV (Prod.fst (wordV (c) ws j)) (List.getD ws 0 0) == false) (br (u64B ws) (br (Prod.fst (wordV (c) ws j) % 16 == Prod.fst (wordV (c) ws j) % 16) (br (uB (Prod.fst (wordV (c) ws j))) (K (B (Prod.fst (wordV (c) ws j) / 16 % 4096 == Prod.fst (wordV (c) ws j) / 16 % 4096)) [.cells 26 (encC c)]) none) (K (B false) [.cells 26 (encC c)])) none) (K (B false) [.cells 26 (encC c)]))) (br (readyV (Prod.fst (wordV (c) ws j)) (List.getD ws 0 0) == false) (br (u64B ws) (br (Prod.fst (wordV (c) ws j) % 16 == Prod.fst (wordV (c) ws j) % 16) (br (uB (Prod.fst (wordV (c) ws j))) (K (B (Prod.fst (wordV (c) ws j) / 16 % 4096 == Prod.fst (wordV (c) ws j) / 16 % 4096)) [.cells 26 (encC c)]) none) (K (B false) [.cells 26 (encC c)])) none) (K (B false) [.cells 26 (encC c)]))) none) none) (br (Prod.snd (wordV (c) ws j)) (br (Int.tmod (Prod.fst (wordV (c) ws j)) 16 == 3) (br (inB 0 (List.length ws)) (br (uB (Prod.fst (wordV (c) ws j)) && uB (List.getD ws 0 0)) (br (false == readyV (Prod.fst (wordV (c) ws j)) (List.getD ws 0 0)) (br (u64B ws) (br (Prod.fst (wordV (c) ws j) % 16 == Prod.fst (wordV (c) ws j) % 16) (br (uB (Prod.fst (wordV (c) ws j))) (K (B (Prod.fst (wordV (c) ws j) / 16 % 4096 == Prod.fst (wordV (c) ws j) / 16 % 4096)) [.cells 26 (encC c)]) none) (K (B false) [.cells 26 (encC c)])) none) (K (B false) [.cells 26 (encC c)])) none) none) (br (u64B ws) (br (Prod.fst (wordV (c) ws j) % 16 == Prod.fst (wordV (c) ws j) % 16) (br (uB (Prod.fst (wordV (c) ws j))) (K (B (Prod.fst (wordV (c) ws j) / 16 % 4096 == Prod.fst (wordV (c) ws j) / 16 % 4096)) [.cells 26 (encC c)]) none) (K (B false) [.cells 26 (encC c)])) none)) (br (u64B ws) (br (Prod.fst (wordV (c) ws j) % 16 == Prod.fst (wordV (c) ws j) % 16) (br (uB (Prod.fst (wordV (c) ws j))) (K (B (Prod.fst (wordV (c) ws j) / 16 % 4096 == Prod.fst (wordV (c) ws j) / 16 % 4096)) [.cells 26 (encC c)]) none) (K (B false) [.cells 26 (encC c)])) none))) (br (Prod.snd (wordV (c) ws j)) (br (Int.tmod (Prod.fst (wordV (c) ws j)) 16 == 3) (br (inB 0 (List.length ws)) (br (uB (Prod.fst (wordV (c) ws j)) && uB (List.getD ws 0 0)) (br (false == readyV (Prod.fst (wordV (c) ws j)) (List.getD ws 0 0)) (br (u64B ws) (br (Prod.fst (wordV (c) ws j) % 16 == Prod.fst (wordV (c) ws j) % 16) (br (uB (Prod.fst (wordV (c) ws j))) (K (B (Prod.fst (wordV (c) ws j) / 16 % 4096 == Prod.fst (wordV (c) ws j) / 16 % 4096)) [.cells 26 (encC c)]) none) (K (B false) [.cells 26 (encC c)])) none) (K (B false) [.cells 26 (encC c)])) none) none) (br (u64B ws) (br (Prod.fst (wordV (c) ws j) % 16 == Prod.fst (wordV (c) ws j) % 16) (br (uB (Prod.fst (wordV (c) ws j))) (K (B (Prod.fst (wordV (c) ws j) / 16 % 4096 == Prod.fst (wordV (c) ws j) / 16 % 4096)) [.cells 26 (encC c)]) none) (K (B false) [.cells 26 (encC c)])) none)) (br (u64B ws) (br (Prod.fst (wordV (c) ws j) % 16 == Prod.fst (wordV (c) ws j) % 16) (br (uB (Prod.fst (wordV (c) ws j))) (K (B (Prod.fst (wordV (c) ws j) / 16 % 4096 == Prod.fst (wordV (c) ws j) / 16 % 4096)) [.cells 26 (encC c)]) none) (K (B false) [.cells 26 (encC c)])) none))) none) (K (B false) [.cells 26 (encC c)])) none) none) none)) := by kernel_rfl

theorem mainT3 {c : Cf} {ws : List Int} {j w e : Int} (hw : u64B ws = true) (h1 : uB w = true) (h2 : uB e = true) : Tru (sxFn E1003 A1003 C1003 [.agg (encC c), .d (.ints .u64 ws), I j, U w, U e] [] KS) := by
  rw [← sxFnI_eq, nT3]
  have a1 : uB (wordV c ws j).1 = true := wordV_u hw
  have a2 : uB (ws.getD 0 0) = true := u64B_all hw 0
  have a3 : (wordV c ws j).2 = true → inB 0 ws.length = true := fun h => by
    unfold wordV at h
    cases q : (chkC c == 0) && (((ws.length : Int) == szC c) && (decide (0 ≤ j) && decide (j < c.b))) with
    | false => rw [q] at h; cases h
    | true =>
      simp only [Bool.and_eq_true, beq_iff_eq, decide_eq_true_eq] at q
      have hs := szC_eq q.1
      refine inB_of' (Int.le_refl _) ?_
      unfold sizeN at hs
      omega
  have a4 : (wordV c ws j).1.tmod 16 = (wordV c ws j).1 % 16 := Int.tmod_eq_emod_of_nonneg (uB_iff.1 a1).1
  generalize (wordV c ws j).1 = p at *
  generalize hq : (wordV c ws j).2 = q at *
  cases q with
  | false =>
    simp only [hw, h1, h2, a1, a2, a4, br_t, br_f, beq_self_eq_true, Bool.and_self]
    repeat (first | exact tru_ret | refine Tru.br (fun _ => ?_) (fun _ => ?_))
  | true =>
    simp only [hw, h1, h2, a1, a2, a3 rfl, a4, br_t, br_f, beq_self_eq_true, Bool.and_self]
    cases h3 : p % 16 == 3 with
    | true =>
      simp only [br_t, br_f]
      repeat (first | exact tru_ret | refine Tru.br (fun _ => ?_) (fun _ => ?_))
    | false =>
      simp only [br_t, br_f]
      repeat (first | exact tru_ret | refine Tru.br (fun _ => ?_) (fun _ => ?_))
end Go.Sx.Pr

/- A worker's state as an argument of a law. -/
namespace Go.Sx.Pr
open Go Go.Sx Go.Sx.Md Go.Proofs Go.ChangeShapes Go.WideShapes Go.ChangeAt Go.RowKit
set_option maxRecDepth 100000

theorem uB_wf {x : Int} (h : (Lit.int .u64 x).wf = true) : uB x = true := uB_iff.2 (u64_wf h)

section
variable {H : Type} {enc : TypeId × Value → H} {w : World}
end
end Go.Sx.Pr

/- A list of bytes as an argument of a law. -/
namespace Go.Sx.Pr
open Go Go.Sx Go.Proofs Go.ChangeShapes Go.WideShapes Go.ChangeAt Go.RowKit
set_option maxRecDepth 100000
section
variable {H : Type} {enc : TypeId × Value → H} {w : World}
end
end Go.Sx.Pr
