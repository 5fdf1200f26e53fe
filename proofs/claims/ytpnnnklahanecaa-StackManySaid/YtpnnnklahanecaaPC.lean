/- StackMany: the law answers true on symbolic arguments. -/
import Derived.Test.YtpnnnklahanecaaQ41
import Derived.Test.YtpnnnklahanecaaQ41
import Derived.Test.YtpnnnklahanecaaQ35
import Derived.Test.YtpnnnklahanecaaN3
import Derived.Test.YtpnnnklahanecaaR9
set_option linter.all false
set_option linter.unusedVariables false
set_option linter.unusedSimpArgs false
set_option linter.unnecessarySimpa false
namespace Go.Sx.Pr
open Go Go.Sx Go.Sx.Md Go.Proofs
set_option maxRecDepth 100000
theorem n9 {Ω : Type} (it : Itr Ω) (K : SV → SH → Option Ω) (w e : Int) (ps : List Int) :
    sxFnI it E9 A9 C9 [.d (.v (.int .u8 w)), .d (.v (.int .u8 e)), .d (.ints .u8 ps)] [] K =
    br (decide ((↑ (List.length ps) : Int) > 600)) (K (B true) [.cells 24 [I (w64' (1 + Int.tmod (w64' w) 8)), I 1, I 1, I 1, I (w64' (1 + Int.tmod (w64' e) 16)), I 0, I 1, U 1]]) (br (!chkC (Cf.mk (w64' (1 + Int.tmod (w64' w) 8)) 1 1 1 (w64' (1 + Int.tmod (w64' e) 16)) 0 1 1) == 0) (br (!chkC (Cf.mk (w64' (1 + Int.tmod (w64' w) 8)) 1 1 1 (w64' (1 + Int.tmod (w64' e) 16)) 0 1 1) == 0) (K (B false) [.cells 24 [I (w64' (1 + Int.tmod (w64' w) 8)), I 1, I 1, I 1, I (w64' (1 + Int.tmod (w64' e) 16)), I 0, I 1, U 1]]) (K (B false) [.cells 24 [I (w64' (1 + Int.tmod (w64' w) 8)), I 1, I 1, I 1, I (w64' (1 + Int.tmod (w64' e) 16)), I 0, I 1, U 1]])) (br (decide (0 ≤ IntKind.wrap .i64 (1 + Int.tmod (w64' w) 8)) && fits (Int.toNat (w64' (1 + Int.tmod (w64' w) 8))) 360) (it [2, 7, 8, 10, 11] 10 (sxI it E9 A9 L9_23 0) (SS.mk [(2, .d (DV.ints .u8 ps)), (7, .ptr 0 0), (8, .ptr 8 0), (10, .own 9), (11, I 0)] [.cells 24 [I (w64' (1 + Int.tmod (w64' w) 8)), I 1, I 1, I 1, I (w64' (1 + Int.tmod (w64' e) 16)), I 0, I 1, U 1], .dead, .dead, .dead, .dead, .dead, .dead, .rowi 22 .u64 (flC (Cf.mk (w64' (1 + Int.tmod (w64' w) 8)) 1 1 1 (w64' (1 + Int.tmod (w64' e) 16)) 0 1 1)), .cells 51 (memC (Cf.mk (w64' (1 + Int.tmod (w64' w) 8)) 1 1 1 (w64' (1 + Int.tmod (w64' e) 16)) 0 1 1) ac0 7), .row 73 33 (Int.toNat (w64' (1 + Int.tmod (w64' w) 8))) fun x j => lkD [DV.v (Value.int .i64 0), DV.v (Value.int .i64 0), DV.v (Value.int .u64 0), DV.v (Value.int .u64 0), DV.v (Value.int .i64 0), DV.v (Value.bool false), DV.v (Value.int .i64 0), DV.v (Value.int .i64 0), DV.v (Value.bool false), DV.v (Value.int .u64 0), DV.ints .i64 [], DV.v (Value.int .u64 0), DV.ints .i64 [], DV.v (Value.int .u64 0), DV.ints .i64 [], DV.v (Value.int .u64 0), DV.ints .i64 [], DV.ints .i64 [], DV.v (Value.int .i64 0), DV.v (Value.int .i64 0), DV.v (Value.int .i64 0), DV.v (Value.int .i64 0), DV.v (Value.int .i64 0), DV.v (Value.int .u64 0), DV.v (Value.int .u64 0), DV.v (Value.int .u64 0), DV.v (Value.int .u64 0), DV.v (Value.int .u64 0), DV.v (Value.int .i64 0), DV.ints .u64 [], DV.v (Value.int .u64 0), DV.v (Value.int .i64 0), DV.v (Value.bool false)] j]) (Z9_23 it K)) none)) := by kernel_rfl
theorem i9 {Ω : Type} (it : Itr Ω) (IT : SS → Option Ω) (K : SV → SH → Option Ω) (c : Cf) (m : Mm) (ps : List Int) (n : Nat) (a : Nat → Wk) (i : Int) :
    sxI it E9 A9 L9_23 0 ⟨[(2, .d (.ints .u8 ps)), (7, .ptr 0 0), (8, .ptr 8 0), (10, .own 9), (11, I i)], [.cells 24 (encC c), .dead, .dead, .dead, .dead, .dead, .dead, .rowi 22 .u64 m.ws, .cells 51 (memC m.c m.s 7), .row 73 33 n (rowW a)]⟩ (kitV [2, 7, 8, 10, 11] 10 IT (Z9_23 it K)) =
    br (decide (i < (↑n : Int))) (br (inB i n) (IT (SS.mk [(2, .d (DV.ints .u8 ps)), (7, .ptr 0 0), (8, .ptr 8 0), (10, .own 9), (11, I (w64' (i + 1)))] [.cells 24 (encC c), .dead, .dead, .dead, .dead, .dead, .dead, .rowi 22 .u64 (Mm.ws m), .cells 51 (memC (Mm.c m) (Mm.s m) 7), .row 73 33 n (updRow (rowW a) (Int.toNat i) 0 (List.map dv (encW { wk0 with line := 20 })))])) none) (it [2, 7, 8, 10, 12] 10 (sxI it E9 A9 L9_21 2) (SS.mk [(2, .d (DV.ints .u8 ps)), (7, .ptr 0 0), (8, .ptr 8 0), (10, .own 9), (12, I 0)] [.cells 24 (encC c), .dead, .dead, .dead, .dead, .dead, .dead, .rowi 22 .u64 (Mm.ws m), .cells 51 (memC (Mm.c m) (Mm.s m) 7), .row 73 33 n (rowW a)]) (Z9_21 it K)) := by kernel_rfl
theorem o9 {Ω : Type} (it : Itr Ω) (IT : SS → Option Ω) (K : SV → SH → Option Ω) (c : Cf) (m : Mm) (ps : List Int) (n : Nat) (a : Nat → Wk) (i : Int) :
    sxI it E9 A9 L9_21 2 ⟨[(2, .d (.ints .u8 ps)), (7, .ptr 0 0), (8, .ptr 8 0), (10, .own 9), (12, I i)], [.cells 24 (encC c), .dead, .dead, .dead, .dead, .dead, .dead, .rowi 22 .u64 m.ws, .cells 51 (memC m.c m.s 7), .row 73 33 n (rowW a)]⟩ (kitV [2, 7, 8, 10, 12] 10 IT (Z9_21 it K)) =
    br (decide (i < (↑ (List.length ps) : Int))) (br (inB i (List.length ps)) (br (Cf.a c == 0) none (br (inB (Int.tmod (w64' (List.getD ps (Int.toNat i) 0)) (Cf.a c)) n) (br (okM (m) && okW (a (Int.toNat (Int.tmod (w64' (List.getD ps (Int.toNat i) 0)) (Cf.a c))))) (br (!SR.ok (stepS (m) (a (Int.toNat (Int.tmod (w64' (List.getD ps (Int.toNat i) 0)) (Cf.a c)))))) (K (B false) [.cells 24 (encC c), .dead, .dead, .dead, .dead, .dead, .dead, .rowi 22 .u64 (Mm.ws (SR.m (stepS (m) (a (Int.toNat (Int.tmod (w64' (List.getD ps (Int.toNat i) 0)) (Cf.a c))))))), .cells 51 (memC (Mm.c (SR.m (stepS (m) (a (Int.toNat (Int.tmod (w64' (List.getD ps (Int.toNat i) 0)) (Cf.a c))))))) (Mm.s (SR.m (stepS (m) (a (Int.toNat (Int.tmod (w64' (List.getD ps (Int.toNat i) 0)) (Cf.a c))))))) 7), .row 73 33 n (rowW a), .cells 73 (encW (SR.x (stepS (m) (a (Int.toNat (Int.tmod (w64' (List.getD ps (Int.toNat i) 0)) (Cf.a c)))))))]) (br (SR.way (stepS (m) (a (Int.toNat (Int.tmod (w64' (List.getD ps (Int.toNat i) 0)) (Cf.a c))))) == 1) (br (inB (Int.tmod (w64' (List.getD ps (Int.toNat i) 0)) (Cf.a c)) n) (br (Wk.line (a (Int.toNat (Int.tmod (w64' (List.getD ps (Int.toNat i) 0)) (Cf.a c)))) == 22) (br (inB (Int.tmod (w64' (List.getD ps (Int.toNat i) 0)) (Cf.a c)) n) (br (fits (List.length (Mm.ws (SR.m (stepS (m) (a (Int.toNat (Int.tmod (w64' (List.getD ps (Int.toNat i) 0)) (Cf.a c)))))))) 8) (br (u64B (Mm.ws (SR.m (stepS (m) (a (Int.toNat (Int.tmod (w64' (List.getD ps (Int.toNat i) 0)) (Cf.a c)))))))) (br (!Option.isSome (listV (c) (Mm.ws (SR.m (stepS (m) (a (Int.toNat (Int.tmod (w64' (List.getD ps (Int.toNat i) 0)) (Cf.a c))))))) true)) (K (B false) [.cells 24 (encC c), .dead, .dead, .dead, .dead, .dead, .dead, .rowi 22 .u64 (Mm.ws (SR.m (stepS (m) (a (Int.toNat (Int.tmod (w64' (List.getD ps (Int.toNat i) 0)) (Cf.a c))))))), .cells 51 (memC (Mm.c (SR.m (stepS (m) (a (Int.toNat (Int.tmod (w64' (List.getD ps (Int.toNat i) 0)) (Cf.a c))))))) (Mm.s (SR.m (stepS (m) (a (Int.toNat (Int.tmod (w64' (List.getD ps (Int.toNat i) 0)) (Cf.a c))))))) 7), .row 73 33 n (updRow (rowW a) (Int.toNat (Int.tmod (w64' (List.getD ps (Int.toNat i) 0)) (Cf.a c))) 0 (List.map dv (encW { wk0 with line := 23, I := IntKind.wrap .i64 (Wk.H (SR.x (stepS (m) (a (Int.toNat (Int.tmod (w64' (List.getD ps (Int.toNat i) 0)) (Cf.a c))))))) }))), .cells 73 (encW { wk0 with line := 23, I := IntKind.wrap .i64 (Wk.H (SR.x (stepS (m) (a (Int.toNat (Int.tmod (w64' (List.getD ps (Int.toNat i) 0)) (Cf.a c))))))) }), .rowi 22 .u64 (Mm.ws (SR.m (stepS (m) (a (Int.toNat (Int.tmod (w64' (List.getD ps (Int.toNat i) 0)) (Cf.a c)))))))]) (br (decide (0 ≤ Cf.e c) && fits (Int.toNat (Cf.e c)) 8) (it [2, 7, 8, 10, 12, 17, 19, 20] 13 (sxI it E9 A9 L9_10 5) (SS.mk [(2, .d (DV.ints .u8 ps)), (7, .ptr 0 0), (8, .ptr 8 0), (10, .own 9), (12, I i), (17, .d (DV.ints .i64 (Option.getD (listV (c) (Mm.ws (SR.m (stepS (m) (a (Int.toNat (Int.tmod (w64' (List.getD ps (Int.toNat i) 0)) (Cf.a c))))))) true) []))), (19, .own 12), (20, I 0)] [.cells 24 (encC c), .dead, .dead, .dead, .dead, .dead, .dead, .rowi 22 .u64 (Mm.ws (SR.m (stepS (m) (a (Int.toNat (Int.tmod (w64' (List.getD ps (Int.toNat i) 0)) (Cf.a c))))))), .cells 51 (memC (Mm.c (SR.m (stepS (m) (a (Int.toNat (Int.tmod (w64' (List.getD ps (Int.toNat i) 0)) (Cf.a c))))))) (Mm.s (SR.m (stepS (m) (a (Int.toNat (Int.tmod (w64' (List.getD ps (Int.toNat i) 0)) (Cf.a c))))))) 7), .row 73 33 n (updRow (rowW a) (Int.toNat (Int.tmod (w64' (List.getD ps (Int.toNat i) 0)) (Cf.a c))) 0 (List.map dv (encW { wk0 with line := 23, I := IntKind.wrap .i64 (Wk.H (SR.x (stepS (m) (a (Int.toNat (Int.tmod (w64' (List.getD ps (Int.toNat i) 0)) (Cf.a c))))))) }))), .cells 73 (encW { wk0 with line := 23, I := IntKind.wrap .i64 (Wk.H (SR.x (stepS (m) (a (Int.toNat (Int.tmod (w64' (List.getD ps (Int.toNat i) 0)) (Cf.a c))))))) }), .rowi 22 .u64 (Mm.ws (SR.m (stepS (m) (a (Int.toNat (Int.tmod (w64' (List.getD ps (Int.toNat i) 0)) (Cf.a c))))))), .rowi 3 .i64 (List.replicate (Int.toNat (Cf.e c)) 0)]) (Z9_10 it (kitV [2, 7, 8, 10, 12] 10 IT (Z9_21 it K)))) none)) none) none) none) (br (!SR.way (stepS (m) (a (Int.toNat (Int.tmod (w64' (List.getD ps (Int.toNat i) 0)) (Cf.a c))))) == 0) (br (inB (Int.tmod (w64' (List.getD ps (Int.toNat i) 0)) (Cf.a c)) n) (br (fits (List.length (Mm.ws (SR.m (stepS (m) (a (Int.toNat (Int.tmod (w64' (List.getD ps (Int.toNat i) 0)) (Cf.a c)))))))) 8) (br (u64B (Mm.ws (SR.m (stepS (m) (a (Int.toNat (Int.tmod (w64' (List.getD ps (Int.toNat i) 0)) (Cf.a c)))))))) (br (!Option.isSome (listV (c) (Mm.ws (SR.m (stepS (m) (a (Int.toNat (Int.tmod (w64' (List.getD ps (Int.toNat i) 0)) (Cf.a c))))))) true)) (K (B false) [.cells 24 (encC c), .dead, .dead, .dead, .dead, .dead, .dead, .rowi 22 .u64 (Mm.ws (SR.m (stepS (m) (a (Int.toNat (Int.tmod (w64' (List.getD ps (Int.toNat i) 0)) (Cf.a c))))))), .cells 51 (memC (Mm.c (SR.m (stepS (m) (a (Int.toNat (Int.tmod (w64' (List.getD ps (Int.toNat i) 0)) (Cf.a c))))))) (Mm.s (SR.m (stepS (m) (a (Int.toNat (Int.tmod (w64' (List.getD ps (Int.toNat i) 0)) (Cf.a c))))))) 7), .row 73 33 n (updRow (rowW a) (Int.toNat (Int.tmod (w64' (List.getD ps (Int.toNat i) 0)) (Cf.a c))) 0 (List.map dv (encW { wk0 with line := 20 }))), .cells 73 (encW { wk0 with line := 20 }), .rowi 22 .u64 (Mm.ws (SR.m (stepS (m) (a (Int.toNat (Int.tmod (w64' (List.getD ps (Int.toNat i) 0)) (Cf.a c)))))))]) (br (decide (0 ≤ Cf.e c) && fits (Int.toNat (Cf.e c)) 8) (it [2, 7, 8, 10, 12, 17, 19, 20] 13 (sxI it E9 A9 L9_10 5) (SS.mk [(2, .d (DV.ints .u8 ps)), (7, .ptr 0 0), (8, .ptr 8 0), (10, .own 9), (12, I i), (17, .d (DV.ints .i64 (Option.getD (listV (c) (Mm.ws (SR.m (stepS (m) (a (Int.toNat (Int.tmod (w64' (List.getD ps (Int.toNat i) 0)) (Cf.a c))))))) true) []))), (19, .own 12), (20, I 0)] [.cells 24 (encC c), .dead, .dead, .dead, .dead, .dead, .dead, .rowi 22 .u64 (Mm.ws (SR.m (stepS (m) (a (Int.toNat (Int.tmod (w64' (List.getD ps (Int.toNat i) 0)) (Cf.a c))))))), .cells 51 (memC (Mm.c (SR.m (stepS (m) (a (Int.toNat (Int.tmod (w64' (List.getD ps (Int.toNat i) 0)) (Cf.a c))))))) (Mm.s (SR.m (stepS (m) (a (Int.toNat (Int.tmod (w64' (List.getD ps (Int.toNat i) 0)) (Cf.a c))))))) 7), .row 73 33 n (updRow (rowW a) (Int.toNat (Int.tmod (w64' (List.getD ps (Int.toNat i) 0)) (Cf.a c))) 0 (List.map dv (encW { wk0 with line := 20 }))), .cells 73 (encW { wk0 with line := 20 }), .rowi 22 .u64 (Mm.ws (SR.m (stepS (m) (a (Int.toNat (Int.tmod (w64' (List.getD ps (Int.toNat i) 0)) (Cf.a c))))))), .rowi 3 .i64 (List.replicate (Int.toNat (Cf.e c)) 0)]) (Z9_10 it (kitV [2, 7, 8, 10, 12] 10 IT (Z9_21 it K)))) none)) none) none) none) (br (inB (Int.tmod (w64' (List.getD ps (Int.toNat i) 0)) (Cf.a c)) n) (br (fits (List.length (Mm.ws (SR.m (stepS (m) (a (Int.toNat (Int.tmod (w64' (List.getD ps (Int.toNat i) 0)) (Cf.a c)))))))) 8) (br (u64B (Mm.ws (SR.m (stepS (m) (a (Int.toNat (Int.tmod (w64' (List.getD ps (Int.toNat i) 0)) (Cf.a c)))))))) (br (!Option.isSome (listV (c) (Mm.ws (SR.m (stepS (m) (a (Int.toNat (Int.tmod (w64' (List.getD ps (Int.toNat i) 0)) (Cf.a c))))))) true)) (K (B false) [.cells 24 (encC c), .dead, .dead, .dead, .dead, .dead, .dead, .rowi 22 .u64 (Mm.ws (SR.m (stepS (m) (a (Int.toNat (Int.tmod (w64' (List.getD ps (Int.toNat i) 0)) (Cf.a c))))))), .cells 51 (memC (Mm.c (SR.m (stepS (m) (a (Int.toNat (Int.tmod (w64' (List.getD ps (Int.toNat i) 0)) (Cf.a c))))))) (Mm.s (SR.m (stepS (m) (a (Int.toNat (Int.tmod (w64' (List.getD ps (Int.toNat i) 0)) (Cf.a c))))))) 7), .row 73 33 n (updRow (rowW a) (Int.toNat (Int.tmod (w64' (List.getD ps (Int.toNat i) 0)) (Cf.a c))) 0 (List.map dv (encW (SR.x (stepS (m) (a (Int.toNat (Int.tmod (w64' (List.getD ps (Int.toNat i) 0)) (Cf.a c))))))))), .cells 73 (encW (SR.x (stepS (m) (a (Int.toNat (Int.tmod (w64' (List.getD ps (Int.toNat i) 0)) (Cf.a c))))))), .rowi 22 .u64 (Mm.ws (SR.m (stepS (m) (a (Int.toNat (Int.tmod (w64' (List.getD ps (Int.toNat i) 0)) (Cf.a c)))))))]) (br (decide (0 ≤ Cf.e c) && fits (Int.toNat (Cf.e c)) 8) (it [2, 7, 8, 10, 12, 17, 19, 20] 13 (sxI it E9 A9 L9_10 5) (SS.mk [(2, .d (DV.ints .u8 ps)), (7, .ptr 0 0), (8, .ptr 8 0), (10, .own 9), (12, I i), (17, .d (DV.ints .i64 (Option.getD (listV (c) (Mm.ws (SR.m (stepS (m) (a (Int.toNat (Int.tmod (w64' (List.getD ps (Int.toNat i) 0)) (Cf.a c))))))) true) []))), (19, .own 12), (20, I 0)] [.cells 24 (encC c), .dead, .dead, .dead, .dead, .dead, .dead, .rowi 22 .u64 (Mm.ws (SR.m (stepS (m) (a (Int.toNat (Int.tmod (w64' (List.getD ps (Int.toNat i) 0)) (Cf.a c))))))), .cells 51 (memC (Mm.c (SR.m (stepS (m) (a (Int.toNat (Int.tmod (w64' (List.getD ps (Int.toNat i) 0)) (Cf.a c))))))) (Mm.s (SR.m (stepS (m) (a (Int.toNat (Int.tmod (w64' (List.getD ps (Int.toNat i) 0)) (Cf.a c))))))) 7), .row 73 33 n (updRow (rowW a) (Int.toNat (Int.tmod (w64' (List.getD ps (Int.toNat i) 0)) (Cf.a c))) 0 (List.map dv (encW (SR.x (stepS (m) (a (Int.toNat (Int.tmod (w64' (List.getD ps (Int.toNat i) 0)) (Cf.a c))))))))), .cells 73 (encW (SR.x (stepS (m) (a (Int.toNat (Int.tmod (w64' (List.getD ps (Int.toNat i) 0)) (Cf.a c))))))), .rowi 22 .u64 (Mm.ws (SR.m (stepS (m) (a (Int.toNat (Int.tmod (w64' (List.getD ps (Int.toNat i) 0)) (Cf.a c))))))), .rowi 3 .i64 (List.replicate (Int.toNat (Cf.e c)) 0)]) (Z9_10 it (kitV [2, 7, 8, 10, 12] 10 IT (Z9_21 it K)))) none)) none) none) none))) none) (br (!SR.way (stepS (m) (a (Int.toNat (Int.tmod (w64' (List.getD ps (Int.toNat i) 0)) (Cf.a c))))) == 0) (br (inB (Int.tmod (w64' (List.getD ps (Int.toNat i) 0)) (Cf.a c)) n) (br (fits (List.length (Mm.ws (SR.m (stepS (m) (a (Int.toNat (Int.tmod (w64' (List.getD ps (Int.toNat i) 0)) (Cf.a c)))))))) 8) (br (u64B (Mm.ws (SR.m (stepS (m) (a (Int.toNat (Int.tmod (w64' (List.getD ps (Int.toNat i) 0)) (Cf.a c)))))))) (br (!Option.isSome (listV (c) (Mm.ws (SR.m (stepS (m) (a (Int.toNat (Int.tmod (w64' (List.getD ps (Int.toNat i) 0)) (Cf.a c))))))) true)) (K (B false) [.cells 24 (encC c), .dead, .dead, .dead, .dead, .dead, .dead, .rowi 22 .u64 (Mm.ws (SR.m (stepS (m) (a (Int.toNat (Int.tmod (w64' (List.getD ps (Int.toNat i) 0)) (Cf.a c))))))), .cells 51 (memC (Mm.c (SR.m (stepS (m) (a (Int.toNat (Int.tmod (w64' (List.getD ps (Int.toNat i) 0)) (Cf.a c))))))) (Mm.s (SR.m (stepS (m) (a (Int.toNat (Int.tmod (w64' (List.getD ps (Int.toNat i) 0)) (Cf.a c))))))) 7), .row 73 33 n (updRow (rowW a) (Int.toNat (Int.tmod (w64' (List.getD ps (Int.toNat i) 0)) (Cf.a c))) 0 (List.map dv (encW { wk0 with line := 20 }))), .cells 73 (encW { wk0 with line := 20 }), .rowi 22 .u64 (Mm.ws (SR.m (stepS (m) (a (Int.toNat (Int.tmod (w64' (List.getD ps (Int.toNat i) 0)) (Cf.a c)))))))]) (br (decide (0 ≤ Cf.e c) && fits (Int.toNat (Cf.e c)) 8) (it [2, 7, 8, 10, 12, 17, 19, 20] 13 (sxI it E9 A9 L9_10 5) (SS.mk [(2, .d (DV.ints .u8 ps)), (7, .ptr 0 0), (8, .ptr 8 0), (10, .own 9), (12, I i), (17, .d (DV.ints .i64 (Option.getD (listV (c) (Mm.ws (SR.m (stepS (m) (a (Int.toNat (Int.tmod (w64' (List.getD ps (Int.toNat i) 0)) (Cf.a c))))))) true) []))), (19, .own 12), (20, I 0)] [.cells 24 (encC c), .dead, .dead, .dead, .dead, .dead, .dead, .rowi 22 .u64 (Mm.ws (SR.m (stepS (m) (a (Int.toNat (Int.tmod (w64' (List.getD ps (Int.toNat i) 0)) (Cf.a c))))))), .cells 51 (memC (Mm.c (SR.m (stepS (m) (a (Int.toNat (Int.tmod (w64' (List.getD ps (Int.toNat i) 0)) (Cf.a c))))))) (Mm.s (SR.m (stepS (m) (a (Int.toNat (Int.tmod (w64' (List.getD ps (Int.toNat i) 0)) (Cf.a c))))))) 7), .row 73 33 n (updRow (rowW a) (Int.toNat (Int.tmod (w64' (List.getD ps (Int.toNat i) 0)) (Cf.a c))) 0 (List.map dv (encW { wk0 with line := 20 }))), .cells 73 (encW { wk0 with line := 20 }), .rowi 22 .u64 (Mm.ws (SR.m (stepS (m) (a (Int.toNat (Int.tmod (w64' (List.getD ps (Int.toNat i) 0)) (Cf.a c))))))), .rowi 3 .i64 (List.replicate (Int.toNat (Cf.e c)) 0)]) (Z9_10 it (kitV [2, 7, 8, 10, 12] 10 IT (Z9_21 it K)))) none)) none) none) none) (br (inB (Int.tmod (w64' (List.getD ps (Int.toNat i) 0)) (Cf.a c)) n) (br (fits (List.length (Mm.ws (SR.m (stepS (m) (a (Int.toNat (Int.tmod (w64' (List.getD ps (Int.toNat i) 0)) (Cf.a c)))))))) 8) (br (u64B (Mm.ws (SR.m (stepS (m) (a (Int.toNat (Int.tmod (w64' (List.getD ps (Int.toNat i) 0)) (Cf.a c)))))))) (br (!Option.isSome (listV (c) (Mm.ws (SR.m (stepS (m) (a (Int.toNat (Int.tmod (w64' (List.getD ps (Int.toNat i) 0)) (Cf.a c))))))) true)) (K (B false) [.cells 24 (encC c), .dead, .dead, .dead, .dead, .dead, .dead, .rowi 22 .u64 (Mm.ws (SR.m (stepS (m) (a (Int.toNat (Int.tmod (w64' (List.getD ps (Int.toNat i) 0)) (Cf.a c))))))), .cells 51 (memC (Mm.c (SR.m (stepS (m) (a (Int.toNat (Int.tmod (w64' (List.getD ps (Int.toNat i) 0)) (Cf.a c))))))) (Mm.s (SR.m (stepS (m) (a (Int.toNat (Int.tmod (w64' (List.getD ps (Int.toNat i) 0)) (Cf.a c))))))) 7), .row 73 33 n (updRow (rowW a) (Int.toNat (Int.tmod (w64' (List.getD ps (Int.toNat i) 0)) (Cf.a c))) 0 (List.map dv (encW (SR.x (stepS (m) (a (Int.toNat (Int.tmod (w64' (List.getD ps (Int.toNat i) 0)) (Cf.a c))))))))), .cells 73 (encW (SR.x (stepS (m) (a (Int.toNat (Int.tmod (w64' (List.getD ps (Int.toNat i) 0)) (Cf.a c))))))), .rowi 22 .u64 (Mm.ws (SR.m (stepS (m) (a (Int.toNat (Int.tmod (w64' (List.getD ps (Int.toNat i) 0)) (Cf.a c)))))))]) (br (decide (0 ≤ Cf.e c) && fits (Int.toNat (Cf.e c)) 8) (it [2, 7, 8, 10, 12, 17, 19, 20] 13 (sxI it E9 A9 L9_10 5) (SS.mk [(2, .d (DV.ints .u8 ps)), (7, .ptr 0 0), (8, .ptr 8 0), (10, .own 9), (12, I i), (17, .d (DV.ints .i64 (Option.getD (listV (c) (Mm.ws (SR.m (stepS (m) (a (Int.toNat (Int.tmod (w64' (List.getD ps (Int.toNat i) 0)) (Cf.a c))))))) true) []))), (19, .own 12), (20, I 0)] [.cells 24 (encC c), .dead, .dead, .dead, .dead, .dead, .dead, .rowi 22 .u64 (Mm.ws (SR.m (stepS (m) (a (Int.toNat (Int.tmod (w64' (List.getD ps (Int.toNat i) 0)) (Cf.a c))))))), .cells 51 (memC (Mm.c (SR.m (stepS (m) (a (Int.toNat (Int.tmod (w64' (List.getD ps (Int.toNat i) 0)) (Cf.a c))))))) (Mm.s (SR.m (stepS (m) (a (Int.toNat (Int.tmod (w64' (List.getD ps (Int.toNat i) 0)) (Cf.a c))))))) 7), .row 73 33 n (updRow (rowW a) (Int.toNat (Int.tmod (w64' (List.getD ps (Int.toNat i) 0)) (Cf.a c))) 0 (List.map dv (encW (SR.x (stepS (m) (a (Int.toNat (Int.tmod (w64' (List.getD ps (Int.toNat i) 0)) (Cf.a c))))))))), .cells 73 (encW (SR.x (stepS (m) (a (Int.toNat (Int.tmod (w64' (List.getD ps (Int.toNat i) 0)) (Cf.a c))))))), .rowi 22 .u64 (Mm.ws (SR.m (stepS (m) (a (Int.toNat (Int.tmod (w64' (List.getD ps (Int.toNat i) 0)) (Cf.a c))))))), .rowi 3 .i64 (List.replicate (Int.toNat (Cf.e c)) 0)]) (Z9_10 it (kitV [2, 7, 8, 10, 12] 10 IT (Z9_21 it K)))) none)) none) none) none)))) none) none)) none) (K (B true) [.cells 24 (encC c), .dead, .dead, .dead, .dead, .dead, .dead, .rowi 22 .u64 (Mm.ws m), .cells 51 (memC (Mm.c m) (Mm.s m) 7), .row 73 33 n (rowW a)]) := by kernel_rfl
theorem p9 {Ω : Type} (it : Itr Ω) (IT : SS → Option Ω) (K : SE → SS → Option Ω) (c : Cf) (m : Mm) (ps L hv : List Int) (n : Nat) (a : Nat → Wk) (y : Wk) (i k : Int) :
    sxI it E9 A9 L9_10 5 ⟨[(2, .d (.ints .u8 ps)), (7, .ptr 0 0), (8, .ptr 8 0), (10, .own 9), (12, I i), (17, .d (.ints .i64 L)), (19, .own 12), (20, I k)], [.cells 24 (encC c), .dead, .dead, .dead, .dead, .dead, .dead, .rowi 22 .u64 m.ws, .cells 51 (memC m.c m.s 7), .row 73 33 n (rowW a), .cells 73 (encW y), .rowi 22 .u64 m.ws, .rowi 3 .i64 hv]⟩ (kitV [2, 7, 8, 10, 12, 17, 19, 20] 13 IT (Z9_10 it K)) =
    br (decide (k < (↑ (List.length L) : Int))) (br (inB k (List.length L)) (br (inB (List.getD L (Int.toNat k) 0) (List.length hv)) (br (inB (List.getD L (Int.toNat k) 0) (List.length hv)) (IT (SS.mk [(2, .d (DV.ints .u8 ps)), (7, .ptr 0 0), (8, .ptr 8 0), (10, .own 9), (12, I i), (17, .d (DV.ints .i64 L)), (19, .own 12), (20, I (w64' (k + 1)))] [.cells 24 (encC c), .dead, .dead, .dead, .dead, .dead, .dead, .rowi 22 .u64 (Mm.ws m), .cells 51 (memC (Mm.c m) (Mm.s m) 7), .row 73 33 n (rowW a), .cells 73 (encW y), .rowi 22 .u64 (Mm.ws m), .rowi 3 .i64 (List.set hv (Int.toNat (List.getD L (Int.toNat k) 0)) (w64' (List.getD hv (Int.toNat (List.getD L (Int.toNat k) 0)) 0 + 1)))])) none) none) none) (it [2, 7, 8, 10, 12, 19, 21] 13 (sxI it E9 A9 L9_8 7) (SS.mk [(2, .d (DV.ints .u8 ps)), (7, .ptr 0 0), (8, .ptr 8 0), (10, .own 9), (12, I i), (19, .own 12), (21, I 0)] [.cells 24 (encC c), .dead, .dead, .dead, .dead, .dead, .dead, .rowi 22 .u64 (Mm.ws m), .cells 51 (memC (Mm.c m) (Mm.s m) 7), .row 73 33 n (rowW a), .cells 73 (encW y), .rowi 22 .u64 (Mm.ws m), .rowi 3 .i64 hv]) (Z9_8 it K)) := by kernel_rfl
theorem q9 {Ω : Type} (it : Itr Ω) (IT : SS → Option Ω) (K : SE → SS → Option Ω) (c : Cf) (m : Mm) (ps L hv : List Int) (n : Nat) (a : Nat → Wk) (y : Wk) (i k : Int) :
    sxI it E9 A9 L9_8 7 ⟨[(2, .d (.ints .u8 ps)), (7, .ptr 0 0), (8, .ptr 8 0), (10, .own 9), (12, I i), (19, .own 12), (21, I k)], [.cells 24 (encC c), .dead, .dead, .dead, .dead, .dead, .dead, .rowi 22 .u64 m.ws, .cells 51 (memC m.c m.s 7), .row 73 33 n (rowW a), .cells 73 (encW y), .rowi 22 .u64 m.ws, .rowi 3 .i64 hv]⟩ (kitV [2, 7, 8, 10, 12, 19, 21] 13 IT (Z9_8 it K)) =
    br (decide (k < (↑n : Int))) (br (inB k n) (br (decide (Wk.I (a (Int.toNat k)) > 0)) (br (decide (Wk.I (a (Int.toNat k)) ≤ Cf.e c)) (br (inB (w64' (Wk.I (a (Int.toNat k)) - 1)) (List.length hv)) (br (inB (w64' (Wk.I (a (Int.toNat k)) - 1)) (List.length hv)) (IT (SS.mk [(2, .d (DV.ints .u8 ps)), (7, .ptr 0 0), (8, .ptr 8 0), (10, .own 9), (12, I i), (19, .own 12), (21, I (w64' (k + 1)))] [.cells 24 (encC c), .dead, .dead, .dead, .dead, .dead, .dead, .rowi 22 .u64 (Mm.ws m), .cells 51 (memC (Mm.c m) (Mm.s m) 7), .row 73 33 n (rowW a), .cells 73 (encW y), .rowi 22 .u64 (Mm.ws m), .rowi 3 .i64 (List.set hv (Int.toNat (w64' (Wk.I (a (Int.toNat k)) - 1))) (w64' (List.getD hv (Int.toNat (w64' (Wk.I (a (Int.toNat k)) - 1))) 0 + 1)))])) none) none) (br (!Wk.I (a (Int.toNat k)) == 0) (K .ret (SS.mk [(2, .d (DV.ints .u8 ps)), (6, B false), (7, .ptr 0 0), (8, .ptr 8 0), (10, .own 9), (12, I i), (19, .own 12), (21, I k), (22, I (Wk.I (a (Int.toNat k))))] [.cells 24 (encC c), .dead, .dead, .dead, .dead, .dead, .dead, .rowi 22 .u64 (Mm.ws m), .cells 51 (memC (Mm.c m) (Mm.s m) 7), .row 73 33 n (rowW a), .cells 73 (encW y), .rowi 22 .u64 (Mm.ws m), .rowi 3 .i64 hv])) (IT (SS.mk [(2, .d (DV.ints .u8 ps)), (7, .ptr 0 0), (8, .ptr 8 0), (10, .own 9), (12, I i), (19, .own 12), (21, I (w64' (k + 1)))] [.cells 24 (encC c), .dead, .dead, .dead, .dead, .dead, .dead, .rowi 22 .u64 (Mm.ws m), .cells 51 (memC (Mm.c m) (Mm.s m) 7), .row 73 33 n (rowW a), .cells 73 (encW y), .rowi 22 .u64 (Mm.ws m), .rowi 3 .i64 hv])))) (br (!Wk.I (a (Int.toNat k)) == 0) (K .ret (SS.mk [(2, .d (DV.ints .u8 ps)), (6, B false), (7, .ptr 0 0), (8, .ptr 8 0), (10, .own 9), (12, I i), (19, .own 12), (21, I k), (22, I (Wk.I (a (Int.toNat k))))] [.cells 24 (encC c), .dead, .dead, .dead, .dead, .dead, .dead, .rowi 22 .u64 (Mm.ws m), .cells 51 (memC (Mm.c m) (Mm.s m) 7), .row 73 33 n (rowW a), .cells 73 (encW y), .rowi 22 .u64 (Mm.ws m), .rowi 3 .i64 hv])) (IT (SS.mk [(2, .d (DV.ints .u8 ps)), (7, .ptr 0 0), (8, .ptr 8 0), (10, .own 9), (12, I i), (19, .own 12), (21, I (w64' (k + 1)))] [.cells 24 (encC c), .dead, .dead, .dead, .dead, .dead, .dead, .rowi 22 .u64 (Mm.ws m), .cells 51 (memC (Mm.c m) (Mm.s m) 7), .row 73 33 n (rowW a), .cells 73 (encW y), .rowi 22 .u64 (Mm.ws m), .rowi 3 .i64 hv])))) none) (it [2, 7, 8, 10, 12, 19, 23] 13 (sxI it E9 A9 L9_3 9) (SS.mk [(2, .d (DV.ints .u8 ps)), (7, .ptr 0 0), (8, .ptr 8 0), (10, .own 9), (12, I i), (19, .own 12), (23, I 0)] [.cells 24 (encC c), .dead, .dead, .dead, .dead, .dead, .dead, .rowi 22 .u64 (Mm.ws m), .cells 51 (memC (Mm.c m) (Mm.s m) 7), .row 73 33 n (rowW a), .cells 73 (encW y), .rowi 22 .u64 (Mm.ws m), .rowi 3 .i64 hv]) (Z9_3 it K)) := by kernel_rfl
theorem s9 {Ω : Type} (it : Itr Ω) (IT : SS → Option Ω) (K : SE → SS → Option Ω) (c : Cf) (m : Mm) (ps L hv : List Int) (n : Nat) (a : Nat → Wk) (y : Wk) (i k : Int) :
    sxI it E9 A9 L9_3 9 ⟨[(2, .d (.ints .u8 ps)), (7, .ptr 0 0), (8, .ptr 8 0), (10, .own 9), (12, I i), (19, .own 12), (23, I k)], [.cells 24 (encC c), .dead, .dead, .dead, .dead, .dead, .dead, .rowi 22 .u64 m.ws, .cells 51 (memC m.c m.s 7), .row 73 33 n (rowW a), .cells 73 (encW y), .rowi 22 .u64 m.ws, .rowi 3 .i64 hv]⟩ (kitV [2, 7, 8, 10, 12, 19, 23] 13 IT (Z9_3 it K)) =
    br (decide (k < Cf.e c)) (br (inB k (List.length hv)) (br (!List.getD hv (Int.toNat k) 0 == 1) (K .ret (SS.mk [(2, .d (DV.ints .u8 ps)), (6, B false), (7, .ptr 0 0), (8, .ptr 8 0), (10, .own 9), (12, I i), (19, .own 12), (23, I k)] [.cells 24 (encC c), .dead, .dead, .dead, .dead, .dead, .dead, .rowi 22 .u64 (Mm.ws m), .cells 51 (memC (Mm.c m) (Mm.s m) 7), .row 73 33 n (rowW a), .cells 73 (encW y), .rowi 22 .u64 (Mm.ws m), .rowi 3 .i64 hv])) (IT (SS.mk [(2, .d (DV.ints .u8 ps)), (7, .ptr 0 0), (8, .ptr 8 0), (10, .own 9), (12, I i), (19, .own 12), (23, I (w64' (k + 1)))] [.cells 24 (encC c), .dead, .dead, .dead, .dead, .dead, .dead, .rowi 22 .u64 (Mm.ws m), .cells 51 (memC (Mm.c m) (Mm.s m) 7), .row 73 33 n (rowW a), .cells 73 (encW y), .rowi 22 .u64 (Mm.ws m), .rowi 3 .i64 hv]))) none) (K .norm (SS.mk [(2, .d (DV.ints .u8 ps)), (7, .ptr 0 0), (8, .ptr 8 0), (10, .own 9), (12, I (w64' (i + 1))), (19, .own 12), (23, I k)] [.cells 24 (encC c), .dead, .dead, .dead, .dead, .dead, .dead, .rowi 22 .u64 (Mm.ws m), .cells 51 (memC (Mm.c m) (Mm.s m) 7), .row 73 33 n (rowW a), .cells 73 (encW y), .rowi 22 .u64 (Mm.ws m), .rowi 3 .i64 hv])) := by kernel_rfl

abbrev H9 (c : Cf) (n : Nat) (m : Mm) (a : Nat → Wk) : SH := [.cells 24 (encC c), .dead, .dead, .dead, .dead, .dead, .dead, .rowi 22 .u64 m.ws, .cells 51 (memC m.c m.s 7), .row 73 33 n (rowW a)]
abbrev J9 (c : Cf) (n : Nat) (m : Mm) (a : Nat → Wk) (y : Wk) (hv : List Int) : SH := [.cells 24 (encC c), .dead, .dead, .dead, .dead, .dead, .dead, .rowi 22 .u64 m.ws, .cells 51 (memC m.c m.s 7), .row 73 33 n (rowW a), .cells 73 (encW y), .rowi 22 .u64 m.ws, .rowi 3 .i64 hv]
abbrev TI9 (ps : List Int) (i : Int) (h : SH) : SS := ⟨[(2, .d (.ints .u8 ps)), (7, .ptr 0 0), (8, .ptr 8 0), (10, .own 9), (11, I i)], h⟩
abbrev TO9 (ps : List Int) (i : Int) (h : SH) : SS := ⟨[(2, .d (.ints .u8 ps)), (7, .ptr 0 0), (8, .ptr 8 0), (10, .own 9), (12, I i)], h⟩
abbrev TP9 (ps L : List Int) (i k : Int) (h : SH) : SS := ⟨[(2, .d (.ints .u8 ps)), (7, .ptr 0 0), (8, .ptr 8 0), (10, .own 9), (12, I i), (17, .d (.ints .i64 L)), (19, .own 12), (20, I k)], h⟩
abbrev TQ9 (ps : List Int) (i k : Int) (h : SH) : SS := ⟨[(2, .d (.ints .u8 ps)), (7, .ptr 0 0), (8, .ptr 8 0), (10, .own 9), (12, I i), (19, .own 12), (21, I k)], h⟩
abbrev TS9 (ps : List Int) (i k : Int) (h : SH) : SS := ⟨[(2, .d (.ints .u8 ps)), (7, .ptr 0 0), (8, .ptr 8 0), (10, .own 9), (12, I i), (19, .own 12), (23, I k)], h⟩

section
open Classical
variable {c : Cf} {n E : Nat} {m : Mm} {ps L : List Int} {a : Nat → Wk} {y : Wk} {i : Int} {K : SE → SS → Option (SV × SH)}

theorem ls9 {IT : SS → Option (SV × SH)} (hE : c.e = E) (hE' : E ≤ 1000) (i0 : 0 ≤ i) (i1 : i ≤ 100000) {hv : List Int} (h : CI E hv (fun _ => True)) : ∀ (r k N : Nat), k + r = E → r < N →
    iter [2, 7, 8, 10, 12, 19, 23] 13 (sxI itB E9 A9 L9_3 9) N (TS9 ps i k (J9 c n m a y hv)) (Z9_3 itB (kitV [2, 7, 8, 10, 12] 10 IT (Z9_21 itB KS))) = IT (TO9 ps (i + 1) (H9 c n m a))
  | 0, k, N, hk, hN => by
    obtain ⟨N, rfl⟩ : ∃ q, N = q + 1 := ⟨N - 1, by omega⟩
    rw [iter_succ, s9 (L := []), decide_eq_false (by omega), br_f, w64_id (by omega) (by omega)]
    first | rfl | kernel_rfl
  | r + 1, k, N, hk, hN => by
    obtain ⟨N, rfl⟩ : ∃ q, N = q + 1 := ⟨N - 1, by omega⟩
    have ih := ls9 (IT := IT) hE hE' i0 i1 h r (k + 1) N (by omega) (by omega)
    rw [show ((k + 1 : Nat) : Int) = (k : Int) + 1 by push_cast; rfl] at ih
    have hv1 : hv.getD k 0 = 1 := by rw [h.val k (by omega)]; exact one_pos trivial
    rw [iter_succ, s9 (L := []), decide_eq_true (by omega), br_t, inB_of' (by omega) (by rw [h.len]; omega), br_t, Int.toNat_natCast, hv1, bang_f rfl, br_f, w64_id (by omega) (by omega)]
    exact ih

theorem lq9 {IT : SS → Option (SV × SH)} (hE : c.e = E) (hE' : E ≤ 1000) (hn : n ≤ 1000) (i0 : 0 ≤ i) (i1 : i ≤ 100000) {z : Int} (hI : SI n E m a L z) : ∀ (r k N : Nat) (hv : List Int), k + r = n → r < N → CI E hv (fun q => (q : Int) ∈ L ∨ ∃ w, w < k ∧ (a w).I = q + 1) →
    iter [2, 7, 8, 10, 12, 19, 21] 13 (sxI itB E9 A9 L9_8 7) N (TQ9 ps i k (J9 c n m a y hv)) (Z9_8 itB (kitV [2, 7, 8, 10, 12] 10 IT (Z9_21 itB KS))) = IT (TO9 ps (i + 1) (H9 c n m a))
  | 0, k, N, hv, hk, hN, h => by
    obtain ⟨N, rfl⟩ : ∃ q, N = q + 1 := ⟨N - 1, by omega⟩
    rw [iter_succ, q9 (L := []), decide_eq_false (by omega), br_f, itB_def]
    refine ls9 hE hE' i0 i1 ⟨h.len, fun q hq => ?_⟩ E 0 big (by omega) (by unfold big; omega)
    rw [h.val q hq]
    refine (one_pos ?_).trans (one_pos trivial).symm
    show (q : Int) ∈ L ∨ ∃ w, w < k ∧ (a w).I = q + 1
    rcases hI.all q (by omega) (by omega) with h1 | ⟨w, h1, h2⟩
    · exact .inl h1
    · exact .inr ⟨w, by omega, h2⟩
  | r + 1, k, N, hv, hk, hN, h => by
    obtain ⟨N, rfl⟩ : ∃ q, N = q + 1 := ⟨N - 1, by omega⟩
    have hw := hI.wk k (by omega)
    rw [iter_succ, q9 (L := []), decide_eq_true (by omega), br_t, inB_of' (by omega) (by omega), br_t, Int.toNat_natCast]
    by_cases h0 : (a k).I = 0
    · rw [h0, decide_eq_false (by omega), br_f, bang_f rfl, br_f, w64_id (by omega) (by omega)]
      have ih := lq9 (IT := IT) hE hE' hn i0 i1 hI r (k + 1) N hv (by omega) (by omega) ⟨h.len, fun q hq => by
        rw [h.val q hq]
        refine one_iff ?_
        have e : ((q : Int) ∈ L ∨ ∃ w, w < k ∧ (a w).I = q + 1) ↔ ((q : Int) ∈ L ∨ ∃ w, w < k + 1 ∧ (a w).I = q + 1) := by
          constructor
          · rintro (h1 | ⟨w, h1, h2⟩)
            · exact .inl h1
            · exact .inr ⟨w, by omega, h2⟩
          · rintro (h1 | ⟨w, h1, h2⟩)
            · exact .inl h1
            · by_cases hwk : w = k
              · subst hwk; omega
              · exact .inr ⟨w, by omega, h2⟩
        exact e⟩
      rw [show ((k + 1 : Nat) : Int) = (k : Int) + 1 by push_cast; rfl] at ih
      exact ih
    · have hl : 23 ≤ (a k).line := by
        rcases (by omega : (a k).line < 23 ∨ 23 ≤ (a k).line) with q | q
        · exact absurd (hw.noI (by omega)) h0
        · exact q
      obtain ⟨p1, p2, p3⟩ := hw.hasI hl
      have hwi : w64' ((a k).I - 1) = (a k).I - 1 := w64_id (by omega) (by omega)
      rw [decide_eq_true (by omega), br_t, decide_eq_true (by omega), br_t, hwi, inB_of' (by omega) (by rw [h.len]; omega), br_t, br_t, w64_id (x := (k : Int) + 1) (by omega) (by omega)]
      have ih := lq9 (IT := IT) hE hE' hn i0 i1 hI r (k + 1) N (hv.set ((a k).I - 1).toNat (w64' (hv.getD ((a k).I - 1).toNat 0 + 1))) (by omega) (by omega) (h.bump (fun q => (q : Int) ∈ L ∨ ∃ w, w < k + 1 ∧ (a w).I = q + 1) (by omega) (by
        rintro (h1 | ⟨w, h1, h2⟩)
        · exact p3 (by rw [Int.toNat_of_nonneg (by omega)] at h1; exact h1)
        · rw [Int.toNat_of_nonneg (by omega)] at h2
          exact hI.dis w k (by omega) (by omega) (by omega) (by omega) (by omega)) (fun q => by
        constructor
        · rintro (h1 | ⟨w, h1, h2⟩)
          · exact .inl (.inl h1)
          · by_cases hwk : w = k
            · subst hwk; exact .inr (by omega)
            · exact .inl (.inr ⟨w, by omega, h2⟩)
        · rintro ((h1 | ⟨w, h1, h2⟩) | h1)
          · exact .inl h1
          · exact .inr ⟨w, by omega, h2⟩
          · exact .inr ⟨k, by omega, by omega⟩))
      rw [show ((k + 1 : Nat) : Int) = (k : Int) + 1 by push_cast; rfl] at ih
      exact ih

theorem lp9 {IT : SS → Option (SV × SH)} (hE : c.e = E) (hE' : E ≤ 1000) (hn : n ≤ 1000) (i0 : 0 ≤ i) (i1 : i ≤ 100000) {z : Int} (hI : SI n E m a L z) : ∀ (r : List Int) (k N : Nat) (hv : List Int), L.drop k = r → k + r.length = L.length → r.length < N → CI E hv (fun q => (q : Int) ∈ L.take k) →
    iter [2, 7, 8, 10, 12, 17, 19, 20] 13 (sxI itB E9 A9 L9_10 5) N (TP9 ps L i k (J9 c n m a y hv)) (Z9_10 itB (kitV [2, 7, 8, 10, 12] 10 IT (Z9_21 itB KS))) = IT (TO9 ps (i + 1) (H9 c n m a))
  | [], k, N, hv, hd, hk, hN, h => by
    obtain ⟨N, rfl⟩ : ∃ q, N = q + 1 := ⟨N - 1, by omega⟩
    simp only [List.length_nil, Nat.add_zero] at hk
    rw [iter_succ, p9, decide_eq_false (by omega), br_f, itB_def]
    refine lq9 hE hE' hn i0 i1 hI n 0 big hv (by omega) (by unfold big; omega) ⟨h.len, fun q hq => ?_⟩
    rw [h.val q hq]
    have : L.take k = L := List.take_of_length_le (by omega)
    rw [this]
    exact one_iff ⟨fun hp => .inl hp, fun hp => hp.elim id fun ⟨w, h1, _⟩ => by omega⟩
  | x :: r, k, N, hv, hd, hk, hN, h => by
    obtain ⟨N, rfl⟩ : ∃ q, N = q + 1 := ⟨N - 1, by omega⟩
    simp only [List.length_cons] at hk hN
    have hkl : k < L.length := by omega
    have hLl := nodup_le hI.nd hI.rg
    have hx : L.getD k 0 = x := by
      have := congrArg (fun l => l.getD 0 0) hd
      simpa [List.getD_eq_getElem?_getD, List.getElem?_drop] using this
    have hxe : L[k]? = some x := by
      rw [List.getD_eq_getElem?_getD, List.getElem?_eq_getElem hkl] at hx
      rw [List.getElem?_eq_getElem hkl]; simpa using hx
    have hr : L.drop (k + 1) = r := by
      have := congrArg (List.drop 1) hd
      simpa [List.drop_drop, Nat.add_comm] using this
    have hm : x ∈ L := List.mem_of_getElem? hxe
    have hrg := hI.rg x hm
    have htk : L.take (k + 1) = L.take k ++ [x] := by
      rw [List.take_succ, hxe]; rfl
    have hnd : x ∉ L.take k := fun hc => by
      have h1 := hI.nd
      rw [← List.take_append_drop k L, hd, List.nodup_append] at h1
      exact h1.2.2 x hc x (by simp) rfl
    rw [iter_succ, p9, decide_eq_true (by omega), br_t, inB_of' (by omega) (by omega), br_t, Int.toNat_natCast, hx, inB_of' (by omega) (by rw [h.len]; omega), br_t, br_t, w64_id (x := (k : Int) + 1) (by omega) (by omega)]
    have ih := lp9 (IT := IT) hE hE' hn i0 i1 hI r (k + 1) N (hv.set x.toNat (w64' (hv.getD x.toNat 0 + 1))) hr (by omega) (by omega) (h.bump (fun q => (q : Int) ∈ L.take (k + 1)) (by omega) (by show ¬ ((x.toNat : Nat) : Int) ∈ L.take k; rw [Int.toNat_of_nonneg hrg.1]; exact hnd) (fun q => by
      show (q : Int) ∈ L.take (k + 1) ↔ (q : Int) ∈ L.take k ∨ q = x.toNat
      rw [htk, List.mem_append, List.mem_singleton]
      constructor
      · rintro (h1 | h1)
        · exact .inl h1
        · exact .inr (by omega)
      · rintro (h1 | h1)
        · exact .inl h1
        · exact .inr (by omega)))
    rw [show ((k + 1 : Nat) : Int) = (k : Int) + 1 by push_cast; rfl] at ih
    exact ih

/-- What the round keeps. -/
structure I9 (c : Cf) (n E : Nat) (m : Mm) (a : Nat → Wk) (z : Int) : Prop where
  e : ∃ L, SI n E m a L z
  mw : MW m
  c : m.c = c
  w : ∀ k, k < n → okW (a k) = true

theorem list9 {z : Int} (h : SI n E m a L z) (hm : MW m) : listV m.c m.ws true = some L := by
  refine listV_of hm.chk hm.sz ?_ h.nd fun i hi => by have := h.rg i hi; exact ⟨this.1, by show i < m.c.e; rw [h.e]; exact this.2⟩
  rw [top_ld hm true]
  refine h.ch.congr fun i hi => ?_
  have := h.rg i hi
  exact nxt_ld hm (en := true) this.1 (by show i < m.c.e; rw [h.e]; exact this.2)

theorem out9 {IT : SS → Option (SV × SH)} {z : Int} (hI : I9 c n E m a z) (hE : c.e = E) (hE' : E ≤ 16) (hn : n ≤ 1000) (i0 : 0 ≤ i) (i1 : i ≤ 100000) {f1 : Bool} (hf1 : f1 = true) {y : Wk} {H0 : SH} :
    br (fits m.ws.length 8) (br (u64B m.ws) (br (!Option.isSome (listV c m.ws true)) (KS (B false) H0) (br (decide (0 ≤ c.e) && fits c.e.toNat 8) (itB [2, 7, 8, 10, 12, 17, 19, 20] 13 (sxI itB E9 A9 L9_10 5) (TP9 ps ((listV c m.ws true).getD []) i 0 (J9 c n m a y (List.replicate c.e.toNat 0))) (Z9_10 itB (kitV [2, 7, 8, 10, 12] 10 IT (Z9_21 itB KS)))) none)) none) none = IT (TO9 ps (i + 1) (H9 c n m a)) := by
  obtain ⟨⟨L, hS⟩, hm, hc, hw⟩ := hI
  subst hc
  have hl := list9 hS hm
  have h1 := szC_le hm.chk
  have h2 := hm.sz
  rw [fits_of (by omega), br_t, hm.u, br_t, hl, Option.isSome_some, Bool.not_true, br_f, decide_eq_true (by omega), fits_of (by omega), Bool.and_self, br_t, itB_def, Option.getD_some]
  refine lp9 hE (by omega) hn i0 i1 hS L 0 big _ rfl (by simp) ?_ ⟨by simp; omega, fun q hq => ?_⟩
  · have := (listV_some hl).2.2.2.2.2
    unfold big; omega
  · rw [List.getD_eq_getElem?_getD, List.getElem?_replicate, if_pos (by omega)]
    exact (one_neg (by simp)).symm
end

theorem okW_q {q : Int} : okW { wk0 with line := q } = true := by kernel_rfl
theorem okW_one {q k : Int} : okW { wk0 with line := q, I := k } = true := by kernel_rfl
theorem round9 {c : Cf} {n E : Nat} {m : Mm} {ps : List Int} {a : Nat → Wk} {i : Int} (hn : c.a = n) (hn0 : 0 < n) (hn8 : n ≤ 8) (hE : c.e = E) (hE' : E ≤ 16) (hp : ∀ x, x ∈ ps → 0 ≤ x ∧ x ≤ 255) (hi0 : 0 ≤ i) (hi : i < ps.length) (hi1 : i ≤ 1000) (h : I9 c n E m a i) :
    ∃ m' a', I9 c n E m' a' (i + 1) ∧ ∀ IT : SS → Option (SV × SH), sxI itB E9 A9 L9_21 2 (TO9 ps i (H9 c n m a)) (kitV [2, 7, 8, 10, 12] 10 IT (Z9_21 itB KS)) = IT (TO9 ps (i + 1) (H9 c n m' a')) := by
  have hin : inB i ps.length = true := inB_of' hi0 hi
  have hP : 0 ≤ ps.getD i.toNat 0 ∧ ps.getD i.toNat 0 ≤ 255 := by
    rw [List.getD_eq_getElem?_getD]
    cases hx : ps[i.toNat]? with
    | none => simp
    | some v => exact hp v (List.mem_of_getElem? hx)
  have hPw : w64' (ps.getD i.toNat 0) = ps.getD i.toNat 0 := w64_id (by omega) (by omega)
  have hc0 : (Cf.a c == 0) = false := by rw [hn]; simp; omega
  obtain ⟨w, hwI⟩ : ∃ w : Nat, Int.tmod (w64' (ps.getD i.toNat 0)) (Cf.a c) = w := ⟨_, (Int.toNat_of_nonneg (by rw [hPw]; exact Int.tmod_nonneg _ hP.1)).symm⟩
  have hw : w < n := by
    have := Int.tmod_lt_of_pos (w64' (ps.getD i.toNat 0)) (b := Cf.a c) (by omega)
    omega
  have hinW : inB (w : Int) n = true := inB_of' (by omega) (by omega)
  obtain ⟨⟨L, hS⟩, hm, hc, hok⟩ := h
  obtain ⟨q1, L', q2⟩ := pickS (wz := wk0) hS (by omega) (by omega) hw rfl
  obtain ⟨p1, p2, _, p4, p5⟩ := presS hm.ok (hok w hw)
  have hI' : ∀ y, y = sY wk0 (stepS m (a w)) (a w) → okW y = true → I9 c n E (stepS m (a w)).m (upd a w y) (i + 1) := fun y hy oy => by
    subst hy
    refine ⟨⟨L', q2⟩, hm.of p5 p4 p1, by rw [p5]; exact hc, fun k hk => ?_⟩
    by_cases e : k = w
    · subst e; rw [upd_same]; exact oy
    · rw [upd_ne e]; exact hok k hk
  have hgo : ∀ (y : Wk) (IT : SS → Option (SV × SH)), I9 c n E (stepS m (a w)).m (upd a w y) (i + 1) → ∀ (y0 : Wk) (H0 : SH), _ := fun y IT hI y0 H0 => out9 (ps := ps) (y := y0) (IT := IT) (H0 := H0) hI hE hE' (by omega) hi0 (by omega) rfl
  cases hy : (SR.way (stepS m (a w)) == 1) with
  | true =>
    have hy' : SR.way (stepS m (a w)) = 1 := by simpa using hy
    cases hl : (Wk.line (a w) == 22) with
    | true =>
      have hl' : (a w).line = 22 := by simpa using hl
      have e : ({ wk0 with line := 23, I := IntKind.wrap .i64 (Wk.H (SR.x (stepS m (a w)))) } : Wk) = sY wk0 (stepS m (a w)) (a w) := by
        unfold sY; rw [if_pos ⟨hy', hl'⟩]
      have hI2 := hI' _ e okW_one
      refine ⟨_, _, hI2, fun IT => ?_⟩
      rw [o9, decide_eq_true hi, hin, hc0, hwI, hinW, Int.toNat_natCast, hm.ok, hok w hw, q1, hy, hl]
      simp only [br_t, br_f, Bool.and_self, Bool.not_true, rowW_upd]
      exact hgo _ IT hI2 _ _
    | false =>
      have hl' : ¬ (a w).line = 22 := by simpa using hl
      have e : ({ wk0 with line := 20 } : Wk) = sY wk0 (stepS m (a w)) (a w) := by
        unfold sY; rw [if_neg (fun q => hl' q.2), if_pos (by omega)]
      have hI2 := hI' _ e okW_q
      refine ⟨_, _, hI2, fun IT => ?_⟩
      rw [o9, decide_eq_true hi, hin, hc0, hwI, hinW, Int.toNat_natCast, hm.ok, hok w hw, q1, hy, hl, show (!SR.way (stepS m (a w)) == 0) = true by simp; omega]
      simp only [br_t, br_f, Bool.and_self, Bool.not_true, rowW_upd]
      exact hgo _ IT hI2 _ _
  | false =>
    have hy' : ¬ SR.way (stepS m (a w)) = 1 := by simpa using hy
    cases hz : (SR.way (stepS m (a w)) == 0) with
    | true =>
      have hz' : SR.way (stepS m (a w)) = 0 := by simpa using hz
      have e : (stepS m (a w)).x = sY wk0 (stepS m (a w)) (a w) := by
        unfold sY; rw [if_neg (fun q => hy' q.1), if_neg (by omega)]
      have hI2 := hI' _ e p2
      refine ⟨_, _, hI2, fun IT => ?_⟩
      rw [o9, decide_eq_true hi, hin, hc0, hwI, hinW, Int.toNat_natCast, hm.ok, hok w hw, q1, hy, hz]
      simp only [br_t, br_f, Bool.and_self, Bool.not_true, rowW_upd]
      exact hgo _ IT hI2 _ _
    | false =>
      have hz' : ¬ SR.way (stepS m (a w)) = 0 := by simpa using hz
      have e : ({ wk0 with line := 20 } : Wk) = sY wk0 (stepS m (a w)) (a w) := by
        unfold sY; rw [if_neg (fun q => hy' q.1), if_pos hz']
      have hI2 := hI' _ e okW_q
      refine ⟨_, _, hI2, fun IT => ?_⟩
      rw [o9, decide_eq_true hi, hin, hc0, hwI, hinW, Int.toNat_natCast, hm.ok, hok w hw, q1, hy, hz]
      simp only [br_t, br_f, Bool.and_self, Bool.not_true, Bool.not_false, rowW_upd]
      exact hgo _ IT hI2 _ _

theorem loop9 {c : Cf} {n E : Nat} {ps : List Int} (hn : c.a = n) (hn0 : 0 < n) (hn8 : n ≤ 8) (hE : c.e = E) (hE' : E ≤ 16) (hp : ∀ x, x ∈ ps → 0 ≤ x ∧ x ≤ 255) (hl : ps.length ≤ 600) : ∀ (r i N : Nat) (m : Mm) (a : Nat → Wk), i + r = ps.length → r < N → I9 c n E m a (i : Int) →
    Tru (iter [2, 7, 8, 10, 12] 10 (sxI itB E9 A9 L9_21 2) N (TO9 ps (i : Int) (H9 c n m a)) (Z9_21 itB KS))
  | 0, i, N, m, a, hr, hN, h => by
    obtain ⟨N, rfl⟩ : ∃ q, N = q + 1 := ⟨N - 1, by omega⟩
    rw [iter_succ, o9, decide_eq_false (by omega), br_f]
    exact tru_ret
  | r + 1, i, N, m, a, hr, hN, h => by
    obtain ⟨N, rfl⟩ : ∃ q, N = q + 1 := ⟨N - 1, by omega⟩
    obtain ⟨m', a', h1, h2⟩ := round9 (c := c) hn hn0 hn8 hE hE' hp (i := (i : Int)) (by omega) (by omega) (by omega) h
    rw [iter_succ, h2]
    have := loop9 (c := c) hn hn0 hn8 hE hE' hp hl r (i + 1) N m' a' (by omega) (by omega) (by rw [show ((i + 1 : Nat) : Int) = (i : Int) + 1 by push_cast; rfl]; exact h1)
    rw [show ((i + 1 : Nat) : Int) = (i : Int) + 1 by push_cast; rfl] at this
    exact this

theorem init9 {c : Cf} {n E : Nat} {ps : List Int} (hc : chkC c = 0) (hn : c.a = n) (hn0 : 0 < n) (hn8 : n ≤ 8) (hE : c.e = E) (hE' : E ≤ 16) (hp : ∀ x, x ∈ ps → 0 ≤ x ∧ x ≤ 255) (hl : ps.length ≤ 600) : ∀ (r k N : Nat) (a : Nat → Wk), k + r = n → r < N → (∀ j, j < k → a j = { wk0 with line := 20 }) →
    Tru (iter [2, 7, 8, 10, 11] 10 (sxI itB E9 A9 L9_23 0) N (TI9 ps k (H9 c n ⟨c, ac0, flC c⟩ a)) (Z9_23 itB KS))
  | 0, k, N, a, hr, hN, ha => by
    obtain ⟨N, rfl⟩ : ∃ q, N = q + 1 := ⟨N - 1, by omega⟩
    rw [iter_succ, i9, decide_eq_false (by omega), br_f, itB_def]
    have := loop9 (c := c) hn hn0 hn8 hE hE' hp hl ps.length 0 big ⟨c, ac0, flC c⟩ a (by omega) (by unfold big; omega) ⟨⟨_, start9 hc hn hE (fun k hk => ha k (by omega))⟩, flC_MW hc, rfl, fun k hk => by rw [ha k (by omega)]; exact okW_q⟩
    exact this
  | r + 1, k, N, a, hr, hN, ha => by
    obtain ⟨N, rfl⟩ : ∃ q, N = q + 1 := ⟨N - 1, by omega⟩
    have ih := init9 (ps := ps) hc hn hn0 hn8 hE hE' hp hl r (k + 1) N (upd a k { wk0 with line := 20 }) (by omega) (by omega) (fun j hj => by
      by_cases e : j = k
      · subst e; exact upd_same
      · rw [upd_ne e]; exact ha j (by omega))
    rw [show ((k + 1 : Nat) : Int) = (k : Int) + 1 by push_cast; rfl] at ih
    rw [iter_succ, i9, decide_eq_true (by omega), br_t, inB_of' (by omega) (by omega), br_t, w64_id (by omega) (by omega), Int.toNat_natCast]
    rw [rowW_upd]
    exact ih

theorem chk9 {n E : Nat} (h0 : 0 < n) (h8 : n ≤ 8) (e0 : 0 < E) (e16 : E ≤ 16) : chkC ⟨n, 1, 1, 1, E, 0, 1, 1⟩ = 0 := by
  have h1 : n = 1 ∨ n = 2 ∨ n = 3 ∨ n = 4 ∨ n = 5 ∨ n = 6 ∨ n = 7 ∨ n = 8 := by omega
  have h2 : E = 1 ∨ E = 2 ∨ E = 3 ∨ E = 4 ∨ E = 5 ∨ E = 6 ∨ E = 7 ∨ E = 8 ∨ E = 9 ∨ E = 10 ∨ E = 11 ∨ E = 12 ∨ E = 13 ∨ E = 14 ∨ E = 15 ∨ E = 16 := by omega
  rcases h1 with h | h | h | h | h | h | h | h <;> subst h <;> rcases h2 with h | h | h | h | h | h | h | h | h | h | h | h | h | h | h | h <;> subst h <;> rfl
theorem lead9 {w b : Int} (hb : b = 8 ∨ b = 16) (h : 0 ≤ w ∧ w ≤ 255) : ∃ n : Nat, 0 < n ∧ n ≤ b ∧ w64' (1 + Int.tmod (w64' w) b) = (n : Int) := by
  have h1 : w64' w = w := w64_id (by omega) (by omega)
  have h2 := Int.tmod_nonneg b h.1
  have h3 := Int.tmod_lt_of_pos w (b := b) (by omega)
  refine ⟨(1 + Int.tmod w b).toNat, by omega, by omega, ?_⟩
  rw [h1, w64_id (by omega) (by omega)]
  omega

theorem main9 {w e : Int} {ps : List Int} (hw : 0 ≤ w ∧ w ≤ 255) (he : 0 ≤ e ∧ e ≤ 255) (hp : ∀ x, x ∈ ps → 0 ≤ x ∧ x ≤ 255) : Tru (sxFn E9 A9 C9 [.d (.v (.int .u8 w)), .d (.v (.int .u8 e)), .d (.ints .u8 ps)] [] KS) := by
  obtain ⟨n, n0, n8, hn⟩ := lead9 (.inl rfl) hw
  obtain ⟨E, e0, e16, hE⟩ := lead9 (.inr rfl) he
  have hn' : IntKind.wrap .i64 (1 + Int.tmod (w64' w) 8) = n := hn
  have hc := chk9 (n := n) (E := E) n0 (by omega) e0 (by omega)
  rw [← sxFnI_eq, n9]
  rw [hn, hE, hn', hc]
  refine Tru.br (fun _ => tru_ret) fun hl => ?_
  have hl' : ps.length ≤ 600 := by have := of_decide_eq_false hl; omega
  rw [bang_f rfl, br_f, decide_eq_true (by omega), Int.toNat_natCast, fits_of (by omega), Bool.and_self, br_t, itB_def]
  exact init9 (c := ⟨n, 1, 1, 1, E, 0, 1, 1⟩) (n := n) (E := E) hc rfl n0 (by omega) rfl (by omega) hp hl' n 0 big (fun _ => wk0) (by omega) (by unfold big; omega) (fun j hj => by omega)
end Go.Sx.Pr

/- A worker's state as an argument of a law. -/
namespace Go.Sx.Pr
open Go Go.Sx Go.Sx.Md Go.Proofs Go.ChangeShapes Go.WideShapes Go.ChangeAt Go.RowKit
set_option maxRecDepth 100000

section
variable {H : Type} {enc : TypeId × Value → H} {w : World}
end
end Go.Sx.Pr

/- A list of bytes as an argument of a law. -/
namespace Go.Sx.Pr
open Go Go.Sx Go.Proofs Go.ChangeShapes Go.WideShapes Go.ChangeAt Go.RowKit
set_option maxRecDepth 100000
theorem u8_wf {x : Int} (h : (Lit.int .u8 x).wf = true) : 0 ≤ x ∧ x ≤ 255 := by
  simp only [Lit.wf, Bool.and_eq_true, IntKind.min, IntKind.max, IntKind.signed, IntKind.bits] at h
  simpa using h
section
variable {H : Type} {enc : TypeId × Value → H} {w : World}
theorem bytes_arg {v : Value} {d : DataW H} {p : List MemPlace} {r : Reach} {base : Nat} (hv : Value.okWide Try.prog w r base 89 v) (h : DataW.Trod enc Try.prog w 0 (fun _ => true) true 89 v d p) :
    ∃ ws : List Int, (∀ x, x ∈ ws → 0 ≤ x ∧ x ≤ 255) ∧ SRep (cx0 w) w (.d (.ints .u8 ws)) v := by
  obtain ⟨n, L, hW, hR⟩ := arg_rep (kids_rows laid rowed) slicesFull (t := 89) (tlt (by omega)) (m := 2) (fun n => by simp only [suppT, Try.underlying89, Try.underlying5]) h
  rw [show n + 2 = (n + 1) + 1 from rfl] at hW
  simp only [Wt, Try.underlying89, Try.underlying5] at hW
  obtain ⟨ws, rfl, _, hws⟩ := hW
  refine ⟨ws, fun x hx => u8_wf (hws x hx), ?_⟩
  simp only [SRep]
  exact cell_rep hR fun c e => by
    subst e
    simp only [Value.okWide, Try.underlying89] at hv
    exact cell_not_agg hv ⟨_, Try.underlying89, .inr (.inr (.inr ⟨_, rfl⟩))⟩
end
end Go.Sx.Pr
