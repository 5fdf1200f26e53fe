/- Contract: the document's initial words. -/
import Derived.Test.YtaejdljgfmclpaaGreatM4
import Derived.Test.YtaejdljgfmclpaaGreatRows
import Derived.KernelRfl
set_option linter.all false
set_option linter.unusedVariables false
set_option linter.unusedSimpArgs false
set_option linter.unnecessarySimpa false
namespace Go.Sx.Pr
open Go Go.Sx Go.Proofs
set_option maxRecDepth 100000

theorem sxI_seq {Ω : Type} {it : Itr Ω} {env : Env Ω} {A : Ann} {a b : CC} {c : Nat} {s : SS} {k : SE → SS → Option Ω} : sxI it env A (.seq a b) c s k = sxI it env A a c s (kseq it env A b c k) := by first | exact _root_.id (Eq.refl _)
theorem sxI_block {Ω : Type} {it : Itr Ω} {env : Env Ω} {A : Ann} {a : CC} {id c : Nat} {s : SS} {k : SE → SS → Option Ω} : sxI it env A (.block id a) c s k = sxI it env A a id s (kblk id k) := by first | exact _root_.id (Eq.refl _)
theorem kseq_norm {Ω : Type} {it : Itr Ω} {env : Env Ω} {A : Ann} {b : CC} {c : Nat} {s : SS} {k : SE → SS → Option Ω} : kseq it env A b c k .norm s = sxI it env A b c s k := by first | exact _root_.id (Eq.refl _)
theorem kseq_exit {Ω : Type} {it : Itr Ω} {env : Env Ω} {A : Ann} {b : CC} {c id : Nat} {s : SS} {k : SE → SS → Option Ω} : kseq it env A b c k (.exit id) s = k (.exit id) s := by first | exact _root_.id (Eq.refl _)
abbrev H35 (n : Nat) (sp : Nat → Nat → Int) (out : List Int) (a b c d e f g l : Int) : SH := [CFG a b c d e f g l, .dead, .dead, .dead, .row 94 3 n (fun i j => .v (.int .i64 (sp i j))), .dead, .rowi 22 .u64 out]
abbrev T35 (i : Int) (r : List (Nat × SV)) : List (Nat × SV) := (1, .ptr 0 0) :: (3, .own 4) :: (4, .own 6) :: (5, I i) :: r
abbrev S35z (n : Nat) (sp : Nat → Nat → Int) (i : Int) (a b c d e f g l : Int) : SS := ⟨[(1, .ptr 0 0), (3, .own 4), (4, .d (.v (.slice none 0 0))), (5, I i)], [CFG a b c d e f g l, .dead, .dead, .dead, .row 94 3 n (fun i j => .v (.int .i64 (sp i j)))]⟩
theorem m35 {Ω : Type} (it : Itr Ω) (K : SV → SH → Option Ω) (a b c d e f g l : Int) :
    sxFnI it E35 A35 C35 [cfgS a b c d e f g l] [] K =
    br (!chk a b c d e f g l == 0) (K (.d (DV.v (Value.slice none 0 0))) [.cells 24 [I a, I b, I c, I d, I e, I f, I g, U l]]) (br (chk a b c d e f g l == 0) (it [1, 3, 4, 5] 5 (sxI it E35 A35 L35_10 0) (SS.mk [(1, .ptr 0 0), (3, .own 4), (4, .d (DV.v (Value.slice none 0 0))), (5, I 0)] [.cells 24 [I a, I b, I c, I d, I e, I f, I g, U l], .dead, .dead, .dead, .row 94 3 (sizeN (Int.toNat a) (Int.toNat b) (Int.toNat c) (Int.toNat d) (Int.toNat e)) fun i j => DV.v (Value.int .i64 (spot (Int.toNat a) (Int.toNat b) (Int.toNat d) (Int.toNat e) i j))]) (Z35_10 it K)) none) := by kernel_rfl
theorem m35_0 {Ω : Type} (it : Itr Ω) (IT : SS → Option Ω) (K : SV → SH → Option Ω) (n : Nat) (sp : Nat → Nat → Int) (a b c d e f g l : Int) :
    sxI it E35 A35 L35_10 0 (S35z n sp 0 a b c d e f g l) (kitV [1, 3, 4, 5] 5 IT (Z35_10 it K)) =
    br (decide (0 < (↑n : Int))) (br (inB 0 n) (br (sp 0 0 == 0) (br (inB 0 n) (br (sp 0 1 == 0) (br (inB 0 n) (br (sp 0 0 == 0) (br (inB 0 n) (br (sp 0 1 == 2) (br (inB 0 n) (br (sp 0 0 == 3) (br (inB 0 n) (br (sp 0 0 == 4) (br (inB 0 n) (br (decide (sp (Int.toNat 0) 1 < IntKind.wrap .i64 (e - 1))) (br (inB 0 n) (IT (SS.mk [(1, .ptr 0 0), (3, .own 4), (4, .own 6), (5, I 1)] [.cells 24 [I a, I b, I c, I d, I e, I f, I g, U l], .dead, .dead, .dead, .row 94 3 n fun i j => DV.v (Value.int .i64 (sp i j)), .dead, .rowi 22 .u64 [IntKind.wrap .u64 (IntKind.wrap .u64 (sp 0 1) + 2)]])) none) (IT (SS.mk [(1, .ptr 0 0), (3, .own 4), (4, .own 6), (5, I 1)] [.cells 24 [I a, I b, I c, I d, I e, I f, I g, U l], .dead, .dead, .dead, .row 94 3 n fun i j => DV.v (Value.int .i64 (sp i j)), .dead, .rowi 22 .u64 [1048576]]))) none) (IT (SS.mk [(1, .ptr 0 0), (3, .own 4), (4, .own 6), (5, I 1)] [.cells 24 [I a, I b, I c, I d, I e, I f, I g, U l], .dead, .dead, .dead, .row 94 3 n fun i j => DV.v (Value.int .i64 (sp i j)), .dead, .rowi 22 .u64 [1048576]]))) none) (br (inB 0 n) (br (sp 0 0 == 4) (br (inB 0 n) (br (decide (sp (Int.toNat 0) 1 < IntKind.wrap .i64 (e - 1))) (br (inB 0 n) (IT (SS.mk [(1, .ptr 0 0), (3, .own 4), (4, .own 6), (5, I 1)] [.cells 24 [I a, I b, I c, I d, I e, I f, I g, U l], .dead, .dead, .dead, .row 94 3 n fun i j => DV.v (Value.int .i64 (sp i j)), .dead, .rowi 22 .u64 [IntKind.wrap .u64 (IntKind.wrap .u64 (sp 0 1) + 2)]])) none) (IT (SS.mk [(1, .ptr 0 0), (3, .own 4), (4, .own 6), (5, I 1)] [.cells 24 [I a, I b, I c, I d, I e, I f, I g, U l], .dead, .dead, .dead, .row 94 3 n fun i j => DV.v (Value.int .i64 (sp i j)), .dead, .rowi 22 .u64 [1]]))) none) (IT (SS.mk [(1, .ptr 0 0), (3, .own 4), (4, .own 6), (5, I 1)] [.cells 24 [I a, I b, I c, I d, I e, I f, I g, U l], .dead, .dead, .dead, .row 94 3 n fun i j => DV.v (Value.int .i64 (sp i j)), .dead, .rowi 22 .u64 [1]]))) none)) none) (br (inB 0 n) (br (sp 0 0 == 3) (br (inB 0 n) (br (sp 0 0 == 4) (br (inB 0 n) (br (decide (sp (Int.toNat 0) 1 < IntKind.wrap .i64 (e - 1))) (br (inB 0 n) (IT (SS.mk [(1, .ptr 0 0), (3, .own 4), (4, .own 6), (5, I 1)] [.cells 24 [I a, I b, I c, I d, I e, I f, I g, U l], .dead, .dead, .dead, .row 94 3 n fun i j => DV.v (Value.int .i64 (sp i j)), .dead, .rowi 22 .u64 [IntKind.wrap .u64 (IntKind.wrap .u64 (sp 0 1) + 2)]])) none) (IT (SS.mk [(1, .ptr 0 0), (3, .own 4), (4, .own 6), (5, I 1)] [.cells 24 [I a, I b, I c, I d, I e, I f, I g, U l], .dead, .dead, .dead, .row 94 3 n fun i j => DV.v (Value.int .i64 (sp i j)), .dead, .rowi 22 .u64 [1048576]]))) none) (IT (SS.mk [(1, .ptr 0 0), (3, .own 4), (4, .own 6), (5, I 1)] [.cells 24 [I a, I b, I c, I d, I e, I f, I g, U l], .dead, .dead, .dead, .row 94 3 n fun i j => DV.v (Value.int .i64 (sp i j)), .dead, .rowi 22 .u64 [1048576]]))) none) (br (inB 0 n) (br (sp 0 0 == 4) (br (inB 0 n) (br (decide (sp (Int.toNat 0) 1 < IntKind.wrap .i64 (e - 1))) (br (inB 0 n) (IT (SS.mk [(1, .ptr 0 0), (3, .own 4), (4, .own 6), (5, I 1)] [.cells 24 [I a, I b, I c, I d, I e, I f, I g, U l], .dead, .dead, .dead, .row 94 3 n fun i j => DV.v (Value.int .i64 (sp i j)), .dead, .rowi 22 .u64 [IntKind.wrap .u64 (IntKind.wrap .u64 (sp 0 1) + 2)]])) none) (IT (SS.mk [(1, .ptr 0 0), (3, .own 4), (4, .own 6), (5, I 1)] [.cells 24 [I a, I b, I c, I d, I e, I f, I g, U l], .dead, .dead, .dead, .row 94 3 n fun i j => DV.v (Value.int .i64 (sp i j)), .dead, .rowi 22 .u64 [2]]))) none) (IT (SS.mk [(1, .ptr 0 0), (3, .own 4), (4, .own 6), (5, I 1)] [.cells 24 [I a, I b, I c, I d, I e, I f, I g, U l], .dead, .dead, .dead, .row 94 3 n fun i j => DV.v (Value.int .i64 (sp i j)), .dead, .rowi 22 .u64 [2]]))) none)) none)) none) (br (inB 0 n) (br (sp 0 0 == 3) (br (inB 0 n) (br (sp 0 0 == 4) (br (inB 0 n) (br (decide (sp (Int.toNat 0) 1 < IntKind.wrap .i64 (e - 1))) (br (inB 0 n) (IT (SS.mk [(1, .ptr 0 0), (3, .own 4), (4, .own 6), (5, I 1)] [.cells 24 [I a, I b, I c, I d, I e, I f, I g, U l], .dead, .dead, .dead, .row 94 3 n fun i j => DV.v (Value.int .i64 (sp i j)), .dead, .rowi 22 .u64 [IntKind.wrap .u64 (IntKind.wrap .u64 (sp 0 1) + 2)]])) none) (IT (SS.mk [(1, .ptr 0 0), (3, .own 4), (4, .own 6), (5, I 1)] [.cells 24 [I a, I b, I c, I d, I e, I f, I g, U l], .dead, .dead, .dead, .row 94 3 n fun i j => DV.v (Value.int .i64 (sp i j)), .dead, .rowi 22 .u64 [1048576]]))) none) (IT (SS.mk [(1, .ptr 0 0), (3, .own 4), (4, .own 6), (5, I 1)] [.cells 24 [I a, I b, I c, I d, I e, I f, I g, U l], .dead, .dead, .dead, .row 94 3 n fun i j => DV.v (Value.int .i64 (sp i j)), .dead, .rowi 22 .u64 [1048576]]))) none) (br (inB 0 n) (br (sp 0 0 == 4) (br (inB 0 n) (br (decide (sp (Int.toNat 0) 1 < IntKind.wrap .i64 (e - 1))) (br (inB 0 n) (IT (SS.mk [(1, .ptr 0 0), (3, .own 4), (4, .own 6), (5, I 1)] [.cells 24 [I a, I b, I c, I d, I e, I f, I g, U l], .dead, .dead, .dead, .row 94 3 n fun i j => DV.v (Value.int .i64 (sp i j)), .dead, .rowi 22 .u64 [IntKind.wrap .u64 (IntKind.wrap .u64 (sp 0 1) + 2)]])) none) (IT (SS.mk [(1, .ptr 0 0), (3, .own 4), (4, .own 6), (5, I 1)] [.cells 24 [I a, I b, I c, I d, I e, I f, I g, U l], .dead, .dead, .dead, .row 94 3 n fun i j => DV.v (Value.int .i64 (sp i j)), .dead, .rowi 22 .u64 [2]]))) none) (IT (SS.mk [(1, .ptr 0 0), (3, .own 4), (4, .own 6), (5, I 1)] [.cells 24 [I a, I b, I c, I d, I e, I f, I g, U l], .dead, .dead, .dead, .row 94 3 n fun i j => DV.v (Value.int .i64 (sp i j)), .dead, .rowi 22 .u64 [2]]))) none)) none)) none) (br (inB 0 n) (br (sp 0 0 == 0) (br (inB 0 n) (br (sp 0 1 == 2) (br (inB 0 n) (br (sp 0 0 == 3) (br (inB 0 n) (br (sp 0 0 == 4) (br (inB 0 n) (br (decide (sp (Int.toNat 0) 1 < IntKind.wrap .i64 (e - 1))) (br (inB 0 n) (IT (SS.mk [(1, .ptr 0 0), (3, .own 4), (4, .own 6), (5, I 1)] [.cells 24 [I a, I b, I c, I d, I e, I f, I g, U l], .dead, .dead, .dead, .row 94 3 n fun i j => DV.v (Value.int .i64 (sp i j)), .dead, .rowi 22 .u64 [IntKind.wrap .u64 (IntKind.wrap .u64 (sp 0 1) + 2)]])) none) (IT (SS.mk [(1, .ptr 0 0), (3, .own 4), (4, .own 6), (5, I 1)] [.cells 24 [I a, I b, I c, I d, I e, I f, I g, U l], .dead, .dead, .dead, .row 94 3 n fun i j => DV.v (Value.int .i64 (sp i j)), .dead, .rowi 22 .u64 [1048576]]))) none) (IT (SS.mk [(1, .ptr 0 0), (3, .own 4), (4, .own 6), (5, I 1)] [.cells 24 [I a, I b, I c, I d, I e, I f, I g, U l], .dead, .dead, .dead, .row 94 3 n fun i j => DV.v (Value.int .i64 (sp i j)), .dead, .rowi 22 .u64 [1048576]]))) none) (br (inB 0 n) (br (sp 0 0 == 4) (br (inB 0 n) (br (decide (sp (Int.toNat 0) 1 < IntKind.wrap .i64 (e - 1))) (br (inB 0 n) (IT (SS.mk [(1, .ptr 0 0), (3, .own 4), (4, .own 6), (5, I 1)] [.cells 24 [I a, I b, I c, I d, I e, I f, I g, U l], .dead, .dead, .dead, .row 94 3 n fun i j => DV.v (Value.int .i64 (sp i j)), .dead, .rowi 22 .u64 [IntKind.wrap .u64 (IntKind.wrap .u64 (sp 0 1) + 2)]])) none) (IT (SS.mk [(1, .ptr 0 0), (3, .own 4), (4, .own 6), (5, I 1)] [.cells 24 [I a, I b, I c, I d, I e, I f, I g, U l], .dead, .dead, .dead, .row 94 3 n fun i j => DV.v (Value.int .i64 (sp i j)), .dead, .rowi 22 .u64 [1]]))) none) (IT (SS.mk [(1, .ptr 0 0), (3, .own 4), (4, .own 6), (5, I 1)] [.cells 24 [I a, I b, I c, I d, I e, I f, I g, U l], .dead, .dead, .dead, .row 94 3 n fun i j => DV.v (Value.int .i64 (sp i j)), .dead, .rowi 22 .u64 [1]]))) none)) none) (br (inB 0 n) (br (sp 0 0 == 3) (br (inB 0 n) (br (sp 0 0 == 4) (br (inB 0 n) (br (decide (sp (Int.toNat 0) 1 < IntKind.wrap .i64 (e - 1))) (br (inB 0 n) (IT (SS.mk [(1, .ptr 0 0), (3, .own 4), (4, .own 6), (5, I 1)] [.cells 24 [I a, I b, I c, I d, I e, I f, I g, U l], .dead, .dead, .dead, .row 94 3 n fun i j => DV.v (Value.int .i64 (sp i j)), .dead, .rowi 22 .u64 [IntKind.wrap .u64 (IntKind.wrap .u64 (sp 0 1) + 2)]])) none) (IT (SS.mk [(1, .ptr 0 0), (3, .own 4), (4, .own 6), (5, I 1)] [.cells 24 [I a, I b, I c, I d, I e, I f, I g, U l], .dead, .dead, .dead, .row 94 3 n fun i j => DV.v (Value.int .i64 (sp i j)), .dead, .rowi 22 .u64 [1048576]]))) none) (IT (SS.mk [(1, .ptr 0 0), (3, .own 4), (4, .own 6), (5, I 1)] [.cells 24 [I a, I b, I c, I d, I e, I f, I g, U l], .dead, .dead, .dead, .row 94 3 n fun i j => DV.v (Value.int .i64 (sp i j)), .dead, .rowi 22 .u64 [1048576]]))) none) (br (inB 0 n) (br (sp 0 0 == 4) (br (inB 0 n) (br (decide (sp (Int.toNat 0) 1 < IntKind.wrap .i64 (e - 1))) (br (inB 0 n) (IT (SS.mk [(1, .ptr 0 0), (3, .own 4), (4, .own 6), (5, I 1)] [.cells 24 [I a, I b, I c, I d, I e, I f, I g, U l], .dead, .dead, .dead, .row 94 3 n fun i j => DV.v (Value.int .i64 (sp i j)), .dead, .rowi 22 .u64 [IntKind.wrap .u64 (IntKind.wrap .u64 (sp 0 1) + 2)]])) none) (IT (SS.mk [(1, .ptr 0 0), (3, .own 4), (4, .own 6), (5, I 1)] [.cells 24 [I a, I b, I c, I d, I e, I f, I g, U l], .dead, .dead, .dead, .row 94 3 n fun i j => DV.v (Value.int .i64 (sp i j)), .dead, .rowi 22 .u64 [0]]))) none) (IT (SS.mk [(1, .ptr 0 0), (3, .own 4), (4, .own 6), (5, I 1)] [.cells 24 [I a, I b, I c, I d, I e, I f, I g, U l], .dead, .dead, .dead, .row 94 3 n fun i j => DV.v (Value.int .i64 (sp i j)), .dead, .rowi 22 .u64 [0]]))) none)) none)) none) (br (inB 0 n) (br (sp 0 0 == 3) (br (inB 0 n) (br (sp 0 0 == 4) (br (inB 0 n) (br (decide (sp (Int.toNat 0) 1 < IntKind.wrap .i64 (e - 1))) (br (inB 0 n) (IT (SS.mk [(1, .ptr 0 0), (3, .own 4), (4, .own 6), (5, I 1)] [.cells 24 [I a, I b, I c, I d, I e, I f, I g, U l], .dead, .dead, .dead, .row 94 3 n fun i j => DV.v (Value.int .i64 (sp i j)), .dead, .rowi 22 .u64 [IntKind.wrap .u64 (IntKind.wrap .u64 (sp 0 1) + 2)]])) none) (IT (SS.mk [(1, .ptr 0 0), (3, .own 4), (4, .own 6), (5, I 1)] [.cells 24 [I a, I b, I c, I d, I e, I f, I g, U l], .dead, .dead, .dead, .row 94 3 n fun i j => DV.v (Value.int .i64 (sp i j)), .dead, .rowi 22 .u64 [1048576]]))) none) (IT (SS.mk [(1, .ptr 0 0), (3, .own 4), (4, .own 6), (5, I 1)] [.cells 24 [I a, I b, I c, I d, I e, I f, I g, U l], .dead, .dead, .dead, .row 94 3 n fun i j => DV.v (Value.int .i64 (sp i j)), .dead, .rowi 22 .u64 [1048576]]))) none) (br (inB 0 n) (br (sp 0 0 == 4) (br (inB 0 n) (br (decide (sp (Int.toNat 0) 1 < IntKind.wrap .i64 (e - 1))) (br (inB 0 n) (IT (SS.mk [(1, .ptr 0 0), (3, .own 4), (4, .own 6), (5, I 1)] [.cells 24 [I a, I b, I c, I d, I e, I f, I g, U l], .dead, .dead, .dead, .row 94 3 n fun i j => DV.v (Value.int .i64 (sp i j)), .dead, .rowi 22 .u64 [IntKind.wrap .u64 (IntKind.wrap .u64 (sp 0 1) + 2)]])) none) (IT (SS.mk [(1, .ptr 0 0), (3, .own 4), (4, .own 6), (5, I 1)] [.cells 24 [I a, I b, I c, I d, I e, I f, I g, U l], .dead, .dead, .dead, .row 94 3 n fun i j => DV.v (Value.int .i64 (sp i j)), .dead, .rowi 22 .u64 [0]]))) none) (IT (SS.mk [(1, .ptr 0 0), (3, .own 4), (4, .own 6), (5, I 1)] [.cells 24 [I a, I b, I c, I d, I e, I f, I g, U l], .dead, .dead, .dead, .row 94 3 n fun i j => DV.v (Value.int .i64 (sp i j)), .dead, .rowi 22 .u64 [0]]))) none)) none)) none)) none) (br (inB 0 n) (br (sp 0 0 == 0) (br (inB 0 n) (br (sp 0 1 == 2) (br (inB 0 n) (br (sp 0 0 == 3) (br (inB 0 n) (br (sp 0 0 == 4) (br (inB 0 n) (br (decide (sp (Int.toNat 0) 1 < IntKind.wrap .i64 (e - 1))) (br (inB 0 n) (IT (SS.mk [(1, .ptr 0 0), (3, .own 4), (4, .own 6), (5, I 1)] [.cells 24 [I a, I b, I c, I d, I e, I f, I g, U l], .dead, .dead, .dead, .row 94 3 n fun i j => DV.v (Value.int .i64 (sp i j)), .dead, .rowi 22 .u64 [IntKind.wrap .u64 (IntKind.wrap .u64 (sp 0 1) + 2)]])) none) (IT (SS.mk [(1, .ptr 0 0), (3, .own 4), (4, .own 6), (5, I 1)] [.cells 24 [I a, I b, I c, I d, I e, I f, I g, U l], .dead, .dead, .dead, .row 94 3 n fun i j => DV.v (Value.int .i64 (sp i j)), .dead, .rowi 22 .u64 [1048576]]))) none) (IT (SS.mk [(1, .ptr 0 0), (3, .own 4), (4, .own 6), (5, I 1)] [.cells 24 [I a, I b, I c, I d, I e, I f, I g, U l], .dead, .dead, .dead, .row 94 3 n fun i j => DV.v (Value.int .i64 (sp i j)), .dead, .rowi 22 .u64 [1048576]]))) none) (br (inB 0 n) (br (sp 0 0 == 4) (br (inB 0 n) (br (decide (sp (Int.toNat 0) 1 < IntKind.wrap .i64 (e - 1))) (br (inB 0 n) (IT (SS.mk [(1, .ptr 0 0), (3, .own 4), (4, .own 6), (5, I 1)] [.cells 24 [I a, I b, I c, I d, I e, I f, I g, U l], .dead, .dead, .dead, .row 94 3 n fun i j => DV.v (Value.int .i64 (sp i j)), .dead, .rowi 22 .u64 [IntKind.wrap .u64 (IntKind.wrap .u64 (sp 0 1) + 2)]])) none) (IT (SS.mk [(1, .ptr 0 0), (3, .own 4), (4, .own 6), (5, I 1)] [.cells 24 [I a, I b, I c, I d, I e, I f, I g, U l], .dead, .dead, .dead, .row 94 3 n fun i j => DV.v (Value.int .i64 (sp i j)), .dead, .rowi 22 .u64 [1]]))) none) (IT (SS.mk [(1, .ptr 0 0), (3, .own 4), (4, .own 6), (5, I 1)] [.cells 24 [I a, I b, I c, I d, I e, I f, I g, U l], .dead, .dead, .dead, .row 94 3 n fun i j => DV.v (Value.int .i64 (sp i j)), .dead, .rowi 22 .u64 [1]]))) none)) none) (br (inB 0 n) (br (sp 0 0 == 3) (br (inB 0 n) (br (sp 0 0 == 4) (br (inB 0 n) (br (decide (sp (Int.toNat 0) 1 < IntKind.wrap .i64 (e - 1))) (br (inB 0 n) (IT (SS.mk [(1, .ptr 0 0), (3, .own 4), (4, .own 6), (5, I 1)] [.cells 24 [I a, I b, I c, I d, I e, I f, I g, U l], .dead, .dead, .dead, .row 94 3 n fun i j => DV.v (Value.int .i64 (sp i j)), .dead, .rowi 22 .u64 [IntKind.wrap .u64 (IntKind.wrap .u64 (sp 0 1) + 2)]])) none) (IT (SS.mk [(1, .ptr 0 0), (3, .own 4), (4, .own 6), (5, I 1)] [.cells 24 [I a, I b, I c, I d, I e, I f, I g, U l], .dead, .dead, .dead, .row 94 3 n fun i j => DV.v (Value.int .i64 (sp i j)), .dead, .rowi 22 .u64 [1048576]]))) none) (IT (SS.mk [(1, .ptr 0 0), (3, .own 4), (4, .own 6), (5, I 1)] [.cells 24 [I a, I b, I c, I d, I e, I f, I g, U l], .dead, .dead, .dead, .row 94 3 n fun i j => DV.v (Value.int .i64 (sp i j)), .dead, .rowi 22 .u64 [1048576]]))) none) (br (inB 0 n) (br (sp 0 0 == 4) (br (inB 0 n) (br (decide (sp (Int.toNat 0) 1 < IntKind.wrap .i64 (e - 1))) (br (inB 0 n) (IT (SS.mk [(1, .ptr 0 0), (3, .own 4), (4, .own 6), (5, I 1)] [.cells 24 [I a, I b, I c, I d, I e, I f, I g, U l], .dead, .dead, .dead, .row 94 3 n fun i j => DV.v (Value.int .i64 (sp i j)), .dead, .rowi 22 .u64 [IntKind.wrap .u64 (IntKind.wrap .u64 (sp 0 1) + 2)]])) none) (IT (SS.mk [(1, .ptr 0 0), (3, .own 4), (4, .own 6), (5, I 1)] [.cells 24 [I a, I b, I c, I d, I e, I f, I g, U l], .dead, .dead, .dead, .row 94 3 n fun i j => DV.v (Value.int .i64 (sp i j)), .dead, .rowi 22 .u64 [0]]))) none) (IT (SS.mk [(1, .ptr 0 0), (3, .own 4), (4, .own 6), (5, I 1)] [.cells 24 [I a, I b, I c, I d, I e, I f, I g, U l], .dead, .dead, .dead, .row 94 3 n fun i j => DV.v (Value.int .i64 (sp i j)), .dead, .rowi 22 .u64 [0]]))) none)) none)) none) (br (inB 0 n) (br (sp 0 0 == 3) (br (inB 0 n) (br (sp 0 0 == 4) (br (inB 0 n) (br (decide (sp (Int.toNat 0) 1 < IntKind.wrap .i64 (e - 1))) (br (inB 0 n) (IT (SS.mk [(1, .ptr 0 0), (3, .own 4), (4, .own 6), (5, I 1)] [.cells 24 [I a, I b, I c, I d, I e, I f, I g, U l], .dead, .dead, .dead, .row 94 3 n fun i j => DV.v (Value.int .i64 (sp i j)), .dead, .rowi 22 .u64 [IntKind.wrap .u64 (IntKind.wrap .u64 (sp 0 1) + 2)]])) none) (IT (SS.mk [(1, .ptr 0 0), (3, .own 4), (4, .own 6), (5, I 1)] [.cells 24 [I a, I b, I c, I d, I e, I f, I g, U l], .dead, .dead, .dead, .row 94 3 n fun i j => DV.v (Value.int .i64 (sp i j)), .dead, .rowi 22 .u64 [1048576]]))) none) (IT (SS.mk [(1, .ptr 0 0), (3, .own 4), (4, .own 6), (5, I 1)] [.cells 24 [I a, I b, I c, I d, I e, I f, I g, U l], .dead, .dead, .dead, .row 94 3 n fun i j => DV.v (Value.int .i64 (sp i j)), .dead, .rowi 22 .u64 [1048576]]))) none) (br (inB 0 n) (br (sp 0 0 == 4) (br (inB 0 n) (br (decide (sp (Int.toNat 0) 1 < IntKind.wrap .i64 (e - 1))) (br (inB 0 n) (IT (SS.mk [(1, .ptr 0 0), (3, .own 4), (4, .own 6), (5, I 1)] [.cells 24 [I a, I b, I c, I d, I e, I f, I g, U l], .dead, .dead, .dead, .row 94 3 n fun i j => DV.v (Value.int .i64 (sp i j)), .dead, .rowi 22 .u64 [IntKind.wrap .u64 (IntKind.wrap .u64 (sp 0 1) + 2)]])) none) (IT (SS.mk [(1, .ptr 0 0), (3, .own 4), (4, .own 6), (5, I 1)] [.cells 24 [I a, I b, I c, I d, I e, I f, I g, U l], .dead, .dead, .dead, .row 94 3 n fun i j => DV.v (Value.int .i64 (sp i j)), .dead, .rowi 22 .u64 [0]]))) none) (IT (SS.mk [(1, .ptr 0 0), (3, .own 4), (4, .own 6), (5, I 1)] [.cells 24 [I a, I b, I c, I d, I e, I f, I g, U l], .dead, .dead, .dead, .row 94 3 n fun i j => DV.v (Value.int .i64 (sp i j)), .dead, .rowi 22 .u64 [0]]))) none)) none)) none)) none) (K (.d (DV.v (Value.slice none 0 0))) [.cells 24 [I a, I b, I c, I d, I e, I f, I g, U l], .dead, .dead, .dead, .row 94 3 n fun i j => DV.v (Value.int .i64 (sp i j))]) := by kernel_rfl
theorem f9 {Ω : Type} (it : Itr Ω) (K : SE → SS → Option Ω) (n : Nat) (sp : Nat → Nat → Int) (out : List Int) (i : Int) (a b c d e f g l : Int) :
    sxI it E35 A35 K35_9 0 ⟨T35 i [], H35 n sp out a b c d e f g l⟩ K =
    br (decide (i < (↑n : Int))) (K .norm (SS.mk [(1, .ptr 0 0), (3, .own 4), (4, .own 6), (5, I i)] [.cells 24 [I a, I b, I c, I d, I e, I f, I g, U l], .dead, .dead, .dead, .row 94 3 n fun i j => DV.v (Value.int .i64 (sp i j)), .dead, .rowi 22 .u64 out])) (K (.exit 0) (SS.mk [(1, .ptr 0 0), (3, .own 4), (4, .own 6), (5, I i)] [.cells 24 [I a, I b, I c, I d, I e, I f, I g, U l], .dead, .dead, .dead, .row 94 3 n fun i j => DV.v (Value.int .i64 (sp i j)), .dead, .rowi 22 .u64 out])) := by kernel_rfl
theorem f8 {Ω : Type} (it : Itr Ω) (K : SE → SS → Option Ω) (n : Nat) (sp : Nat → Nat → Int) (out : List Int) (i : Int) (a b c d e f g l : Int) :
    sxI it E35 A35 K35_8 1 ⟨T35 i [], H35 n sp out a b c d e f g l⟩ K =
    K .norm (SS.mk [(1, .ptr 0 0), (3, .own 4), (4, .own 6), (5, I i), (6, U 0)] [.cells 24 [I a, I b, I c, I d, I e, I f, I g, U l], .dead, .dead, .dead, .row 94 3 n fun i j => DV.v (Value.int .i64 (sp i j)), .dead, .rowi 22 .u64 out]) := by kernel_rfl
theorem f7 {Ω : Type} (it : Itr Ω) (K : SE → SS → Option Ω) (n : Nat) (sp : Nat → Nat → Int) (out : List Int) (i w : Int) (a b c d e f g l : Int) :
    sxI it E35 A35 K35_7 1 ⟨T35 i [(6, U w)], H35 n sp out a b c d e f g l⟩ K =
    br (inB i n) (br (sp (Int.toNat i) 0 == 0) (br (inB i n) (br (sp (Int.toNat i) 1 == 0) (K .norm (SS.mk [(1, .ptr 0 0), (3, .own 4), (4, .own 6), (5, I i), (6, U 2)] [.cells 24 [I a, I b, I c, I d, I e, I f, I g, U l], .dead, .dead, .dead, .row 94 3 n fun i j => DV.v (Value.int .i64 (sp i j)), .dead, .rowi 22 .u64 out])) (K .norm (SS.mk [(1, .ptr 0 0), (3, .own 4), (4, .own 6), (5, I i), (6, U w)] [.cells 24 [I a, I b, I c, I d, I e, I f, I g, U l], .dead, .dead, .dead, .row 94 3 n fun i j => DV.v (Value.int .i64 (sp i j)), .dead, .rowi 22 .u64 out]))) none) (K .norm (SS.mk [(1, .ptr 0 0), (3, .own 4), (4, .own 6), (5, I i), (6, U w)] [.cells 24 [I a, I b, I c, I d, I e, I f, I g, U l], .dead, .dead, .dead, .row 94 3 n fun i j => DV.v (Value.int .i64 (sp i j)), .dead, .rowi 22 .u64 out]))) none := by kernel_rfl
theorem f6 {Ω : Type} (it : Itr Ω) (K : SE → SS → Option Ω) (n : Nat) (sp : Nat → Nat → Int) (out : List Int) (i w : Int) (a b c d e f g l : Int) :
    sxI it E35 A35 K35_6 1 ⟨T35 i [(6, U w)], H35 n sp out a b c d e f g l⟩ K =
    br (inB i n) (br (sp (Int.toNat i) 0 == 0) (br (inB i n) (br (sp (Int.toNat i) 1 == 2) (K .norm (SS.mk [(1, .ptr 0 0), (3, .own 4), (4, .own 6), (5, I i), (6, U 1)] [.cells 24 [I a, I b, I c, I d, I e, I f, I g, U l], .dead, .dead, .dead, .row 94 3 n fun i j => DV.v (Value.int .i64 (sp i j)), .dead, .rowi 22 .u64 out])) (K .norm (SS.mk [(1, .ptr 0 0), (3, .own 4), (4, .own 6), (5, I i), (6, U w)] [.cells 24 [I a, I b, I c, I d, I e, I f, I g, U l], .dead, .dead, .dead, .row 94 3 n fun i j => DV.v (Value.int .i64 (sp i j)), .dead, .rowi 22 .u64 out]))) none) (K .norm (SS.mk [(1, .ptr 0 0), (3, .own 4), (4, .own 6), (5, I i), (6, U w)] [.cells 24 [I a, I b, I c, I d, I e, I f, I g, U l], .dead, .dead, .dead, .row 94 3 n fun i j => DV.v (Value.int .i64 (sp i j)), .dead, .rowi 22 .u64 out]))) none := by kernel_rfl
theorem f5 {Ω : Type} (it : Itr Ω) (K : SE → SS → Option Ω) (n : Nat) (sp : Nat → Nat → Int) (out : List Int) (i w : Int) (a b c d e f g l : Int) :
    sxI it E35 A35 K35_5 1 ⟨T35 i [(6, U w)], H35 n sp out a b c d e f g l⟩ K =
    br (inB i n) (br (sp (Int.toNat i) 0 == 3) (K .norm (SS.mk [(1, .ptr 0 0), (3, .own 4), (4, .own 6), (5, I i), (6, U 1048576)] [.cells 24 [I a, I b, I c, I d, I e, I f, I g, U l], .dead, .dead, .dead, .row 94 3 n fun i j => DV.v (Value.int .i64 (sp i j)), .dead, .rowi 22 .u64 out])) (K .norm (SS.mk [(1, .ptr 0 0), (3, .own 4), (4, .own 6), (5, I i), (6, U w)] [.cells 24 [I a, I b, I c, I d, I e, I f, I g, U l], .dead, .dead, .dead, .row 94 3 n fun i j => DV.v (Value.int .i64 (sp i j)), .dead, .rowi 22 .u64 out]))) none := by kernel_rfl
theorem f4 {Ω : Type} (it : Itr Ω) (K : SE → SS → Option Ω) (n : Nat) (sp : Nat → Nat → Int) (out : List Int) (i w : Int) (a b c d e f g l : Int) :
    sxI it E35 A35 K35_4 1 ⟨T35 i [(6, U w)], H35 n sp out a b c d e f g l⟩ K =
    br (inB i n) (br (sp (Int.toNat i) 0 == 4) (br (inB i n) (br (decide (sp (Int.toNat i) 1 < IntKind.wrap .i64 (e - 1))) (br (inB i n) (K .norm (SS.mk [(1, .ptr 0 0), (3, .own 4), (4, .own 6), (5, I i), (6, U (IntKind.wrap .u64 (IntKind.wrap .u64 (sp (Int.toNat i) 1) + 2)))] [.cells 24 [I a, I b, I c, I d, I e, I f, I g, U l], .dead, .dead, .dead, .row 94 3 n fun i j => DV.v (Value.int .i64 (sp i j)), .dead, .rowi 22 .u64 out])) none) (K .norm (SS.mk [(1, .ptr 0 0), (3, .own 4), (4, .own 6), (5, I i), (6, U w)] [.cells 24 [I a, I b, I c, I d, I e, I f, I g, U l], .dead, .dead, .dead, .row 94 3 n fun i j => DV.v (Value.int .i64 (sp i j)), .dead, .rowi 22 .u64 out]))) none) (K .norm (SS.mk [(1, .ptr 0 0), (3, .own 4), (4, .own 6), (5, I i), (6, U w)] [.cells 24 [I a, I b, I c, I d, I e, I f, I g, U l], .dead, .dead, .dead, .row 94 3 n fun i j => DV.v (Value.int .i64 (sp i j)), .dead, .rowi 22 .u64 out]))) none := by kernel_rfl
theorem f3 {Ω : Type} (it : Itr Ω) (IT : SS → Option Ω) (K : SE → SS → Option Ω) (n : Nat) (sp : Nat → Nat → Int) (out : List Int) (i w : Int) (a b c d e f g l : Int) :
    sxI it E35 A35 K35_3 1 ⟨T35 i [(6, U w)], H35 n sp out a b c d e f g l⟩ (kblk 1 (kseq it E35 A35 K35_2 0 (kitV [1, 3, 4, 5] 5 IT K))) =
    br (fits (List.length out + 1) 8) (IT (SS.mk [(1, .ptr 0 0), (3, .own 4), (4, .own 6), (5, I (IntKind.wrap .i64 (i + 1)))] [.cells 24 [I a, I b, I c, I d, I e, I f, I g, U l], .dead, .dead, .dead, .row 94 3 n fun i j => DV.v (Value.int .i64 (sp i j)), .dead, .rowi 22 .u64 (out ++ [w])])) none := by kernel_rfl
theorem fE {Ω : Type} (it : Itr Ω) (K : SV → SH → Option Ω) (n : Nat) (sp : Nat → Nat → Int) (out : List Int) (i : Int) (a b c d e f g l : Int) :
    Z35_10 it K (.exit 0) ⟨T35 i [], H35 n sp out a b c d e f g l⟩ =
    K (.own 6) [.cells 24 [I a, I b, I c, I d, I e, I f, I g, U l], .dead, .dead, .dead, .row 94 3 n fun i j => DV.v (Value.int .i64 (sp i j)), .dead, .rowi 22 .u64 out] := by kernel_rfl

section
variable {Ω : Type} (it : Itr Ω) (K : SE → SS → Option Ω) (n : Nat) (sp : Nat → Nat → Int) (out : List Int) (i w : Int) (a b c d e f g l : Int)
abbrev S35w (n : Nat) (sp : Nat → Nat → Int) (out : List Int) (i w : Int) (a b c d e f g l : Int) : SS := ⟨T35 i [(6, U w)], H35 n sp out a b c d e f g l⟩

theorem f7' (hb : inB i n = true) : sxI it E35 A35 K35_7 1 (S35w n sp out i w a b c d e f g l) K = K .norm (S35w n sp out i (bif (sp i.toNat 0 == 0) && (sp i.toNat 1 == 0) then 2 else w) a b c d e f g l) := by
  rw [f7]
  simp only [hb, br_t]
  cases (sp i.toNat 0 == 0) <;> cases (sp i.toNat 1 == 0) <;> simp only [br_t, br_f, Bool.and_true, Bool.and_false, cond_true, cond_false] <;> rfl
theorem f6' (hb : inB i n = true) : sxI it E35 A35 K35_6 1 (S35w n sp out i w a b c d e f g l) K = K .norm (S35w n sp out i (bif (sp i.toNat 0 == 0) && (sp i.toNat 1 == 2) then 1 else w) a b c d e f g l) := by
  rw [f6]
  simp only [hb, br_t]
  cases (sp i.toNat 0 == 0) <;> cases (sp i.toNat 1 == 2) <;> simp only [br_t, br_f, Bool.and_true, Bool.and_false, cond_true, cond_false] <;> rfl
theorem f5' (hb : inB i n = true) : sxI it E35 A35 K35_5 1 (S35w n sp out i w a b c d e f g l) K = K .norm (S35w n sp out i (bif (sp i.toNat 0 == 3) then 1048576 else w) a b c d e f g l) := by
  rw [f5]
  simp only [hb, br_t]
  cases (sp i.toNat 0 == 3) <;> simp only [br_t, br_f, cond_true, cond_false] <;> rfl
theorem f4' (hb : inB i n = true) : sxI it E35 A35 K35_4 1 (S35w n sp out i w a b c d e f g l) K = K .norm (S35w n sp out i (bif (sp i.toNat 0 == 4) && decide (sp i.toNat 1 < IntKind.wrap .i64 (e - 1)) then IntKind.wrap .u64 (IntKind.wrap .u64 (sp i.toNat 1) + 2) else w) a b c d e f g l) := by
  rw [f4]
  simp only [hb, br_t]
  cases (sp i.toNat 0 == 4) <;> cases decide (sp i.toNat 1 < IntKind.wrap .i64 (e - 1)) <;> simp only [br_t, br_f, Bool.and_true, Bool.and_false, cond_true, cond_false] <;> rfl

/-- The word that goes with a place. -/
def wsel (s0 s1 e : Int) : Int :=
  bif (s0 == 4) && decide (s1 < IntKind.wrap .i64 (e - 1)) then IntKind.wrap .u64 (IntKind.wrap .u64 s1 + 2) else
  bif s0 == 3 then 1048576 else bif (s0 == 0) && (s1 == 2) then 1 else bif (s0 == 0) && (s1 == 0) then 2 else 0

theorem round35 (IT : SS → Option Ω) (KK : SV → SH → Option Ω) (hi : decide (i < (n : Int)) = true) (hb : inB i n = true) (hf : fits (out.length + 1) 8 = true) : sxI it E35 A35 L35_10 0 ⟨T35 i [], H35 n sp out a b c d e f g l⟩ (kitV [1, 3, 4, 5] 5 IT (Z35_10 it KK)) =
    IT ⟨T35 (IntKind.wrap .i64 (i + 1)) [], H35 n sp (out ++ [wsel (sp i.toNat 0) (sp i.toNat 1) e]) a b c d e f g l⟩ := by
  rw [show L35_10 = CC.seq K35_9 (.seq (.block 1 (.seq K35_8 (.seq K35_7 (.seq K35_6 (.seq K35_5 (.seq K35_4 K35_3)))))) K35_2) from rfl]
  rw [sxI_seq, f9, hi, br_t, kseq_norm, sxI_seq, sxI_block, sxI_seq, f8, kseq_norm, sxI_seq, f7' _ _ _ _ _ _ _ _ _ _ _ _ _ _ _ hb, kseq_norm, sxI_seq, f6' _ _ _ _ _ _ _ _ _ _ _ _ _ _ _ hb, kseq_norm, sxI_seq, f5' _ _ _ _ _ _ _ _ _ _ _ _ _ _ _ hb, kseq_norm, sxI_seq, f4' _ _ _ _ _ _ _ _ _ _ _ _ _ _ _ hb, kseq_norm, f3, hf, br_t]
  rfl
end

theorem wsel_fpart {A Bn D E i : Nat} (hE : 1 ≤ E) (hE2 : E ≤ 32) : wsel (spot A Bn D E i 0) (spot A Bn D E i 1) E = fpart (3 + A + Bn) E E i := by
  have hw : IntKind.wrap .i64 ((E : Int) - 1) = (E : Int) - 1 := by rw [w64] <;> omega
  unfold wsel
  rw [hw]
  unfold spot spotL fpart
  by_cases h1 : i < 3
  · rw [if_pos h1]
    match i, h1 with
    | 0, _ => simp
    | 1, _ => simp; omega
    | 2, _ => simp
  · rw [if_neg h1, if_neg (show ¬ i = 0 by omega), if_neg (show ¬ i = 2 by omega)]
    by_cases h2 : i < 3 + A
    · rw [if_pos h2, if_neg (show ¬ (3 + A + Bn ≤ i ∧ i < 3 + A + Bn + 2 * E) by omega)]; simp
    · rw [if_neg h2]
      by_cases h3 : i < 3 + A + Bn
      · rw [if_pos h3, if_neg (show ¬ (3 + A + Bn ≤ i ∧ i < 3 + A + Bn + 2 * E) by omega)]; simp
      · rw [if_neg h3]
        by_cases h4 : i < 3 + A + Bn + 2 * E
        · rw [if_pos h4, if_pos (show 3 + A + Bn ≤ i ∧ i < 3 + A + Bn + 2 * E from ⟨by omega, h4⟩)]
          rcases Nat.mod_two_eq_zero_or_one (i - (3 + A + Bn)) with h5 | h5
          · rw [h5]; simp
          · rw [h5]
            simp only [List.getD_cons_zero, List.getD_cons_succ]
            by_cases h6 : (i - (3 + A + Bn)) / 2 + 1 < E
            · have e1 : decide ((((i - (3 + A + Bn)) / 2 : Nat) : Int) < (E : Int) - 1) = true := by simp; omega
              have e2 : IntKind.wrap .u64 (((i - (3 + A + Bn)) / 2 : Nat) : Int) = (((i - (3 + A + Bn)) / 2 : Nat) : Int) := by rw [IntKind.wrap_u64]; omega
              have e3 : IntKind.wrap .u64 ((((i - (3 + A + Bn)) / 2 : Nat) : Int) + 2) = (((i - (3 + A + Bn)) / 2 + 2 : Nat) : Int) := by rw [IntKind.wrap_u64]; omega
              rw [e1, e2, e3, if_pos h6]; simp
            · have e1 : decide ((((i - (3 + A + Bn)) / 2 : Nat) : Int) < (E : Int) - 1) = false := by simp; omega
              rw [e1, if_neg h6]; simp
        · rw [if_neg h4, if_neg (show ¬ (3 + A + Bn ≤ i ∧ i < 3 + A + Bn + 2 * E) by omega)]
          by_cases h5 : (i - (3 + A + Bn + 2 * E)) % (1 + D) = 0
          · rw [if_pos h5]; simp
          · rw [if_neg h5]; simp

theorem v35 {a b c d e f g l : Int} (h : chk a b c d e f g l = 0) : ∃ H, sxFn E35 A35 C35 [cfgS a b c d e f g l] [] KS = some (.own 6, H) ∧ trim 0 (.own 6) [] H =
    [.dead, .dead, .dead, .dead, .dead, .dead, .rowi 22 .u64 (fl (sizeN a.toNat b.toNat c.toNat d.toNat e.toNat) (3 + a.toNat + b.toNat) e.toNat e.toNat)] := by
  have hc' : (chk a b c d e f g l == 0) = true := by simp [h]
  obtain ⟨⟨a1, a2⟩, ⟨b1, b2⟩, ⟨c1, c2⟩, ⟨g1, g2⟩, ⟨e1, e2⟩, _⟩ := chk_zero h
  obtain ⟨A, rfl⟩ := Int.eq_ofNat_of_zero_le (show 0 ≤ a by omega)
  obtain ⟨Bn, rfl⟩ := Int.eq_ofNat_of_zero_le (show 0 ≤ b by omega)
  obtain ⟨Cn, rfl⟩ := Int.eq_ofNat_of_zero_le (show 0 ≤ c by omega)
  obtain ⟨Dn, rfl⟩ := Int.eq_ofNat_of_zero_le (show 0 ≤ d by omega)
  obtain ⟨En, rfl⟩ := Int.eq_ofNat_of_zero_le (show 0 ≤ e by omega)
  have hBC : Bn * Cn ≤ 8 * 16 := Nat.mul_le_mul (by omega) (by omega)
  have hP : (1 + Dn) * (Bn * Cn) ≤ 5 * 128 := Nat.mul_le_mul (by omega) (by omega)
  have hn1 : 3 ≤ sizeN A Bn Cn Dn En := by unfold sizeN; omega
  have hn2 : sizeN A Bn Cn Dn En ≤ 1000 := by unfold sizeN; omega
  simp only [Int.toNat_natCast]
  generalize hN : sizeN A Bn Cn Dn En = N at *
  refine ⟨H35 N (spot A Bn Dn En) (fl N (3 + A + Bn) En En) A Bn Cn Dn En f g l, ?_, by kernel_rfl⟩
  rw [← sxFnI_eq, m35, hc']
  simp only [Bool.not_true, br_f, br_t, Int.toNat_natCast, hN]
  obtain ⟨M, hM, h2⟩ := itB_first (f := sxI itB E35 A35 L35_10 0) (lv := [1, 3, 4, 5]) (n0 := 5) (k := Z35_10 itB KS) (s := S35z N (spot A Bn Dn En) 0 A Bn Cn Dn En f g l)
  rw [h2, m35_0]
  have s0 : spot A Bn Dn En 0 0 = 0 := rfl
  have s1 : spot A Bn Dn En 0 1 = 0 := rfl
  have s1' : spot A Bn Dn En (Int.toNat 0) 1 = 0 := rfl
  have hb : inB 0 N = true := by simp [inB]; omega
  have q1 : decide (0 < (N : Int)) = true := by simp; omega
  simp only [s0, s1, s1', hb, q1, br_t]
  have z0 : ((0 : Int) == 0) = true := rfl
  have z2 : ((0 : Int) == 2) = false := rfl
  have z3 : ((0 : Int) == 3) = false := rfl
  have z4 : ((0 : Int) == 4) = false := rfl
  simp only [z0, z2, z3, z4, br_t, br_f]
  obtain ⟨n, hn⟩ := loop_n (f := sxI itB E35 A35 L35_10 0) (lv := [1, 3, 4, 5]) (n0 := 5) (k := Z35_10 itB KS) (fun i => ⟨T35 ((i + 1 : Nat) : Int) [], H35 N (spot A Bn Dn En) (fl (i + 1) (3 + A + Bn) En En) A Bn Cn Dn En f g l⟩) M (N - 1) (by omega) (fun i hi I => by
    rw [round35 _ _ _ _ _ _ _ _ _ _ _ _ _ _ _ (by simp; omega) (by simp [inB]; omega) (by rw [fl_length]; exact fits_of (by omega)), w64 (by omega) (by omega), Int.toNat_natCast, wsel_fpart (by omega) (by omega)]
    have : fl (i + 1) (3 + A + Bn) En En ++ [fpart (3 + A + Bn) En En (i + 1)] = fl (i + 1 + 1) (3 + A + Bn) En En := by simp [fl, List.range_succ]
    rw [this]
    rfl)
  refine Eq.trans hn ?_
  rw [show N - 1 + 1 = N by omega]
  rw [show L35_10 = CC.seq K35_9 (.seq (.block 1 (.seq K35_8 (.seq K35_7 (.seq K35_6 (.seq K35_5 (.seq K35_4 K35_3)))))) K35_2) from rfl]
  rw [sxI_seq, f9, decide_eq_false (by omega), br_f, kseq_exit]
  exact fE itB KS N (spot A Bn Dn En) (fl N (3 + A + Bn) En En) N A Bn Cn Dn En f g l

def FFirst2 : List (List Int) → List (Bool × SV × SH)
  | [[a, b, c, d, e, f, g, l]] => [(!(chk a b c d e f g l == 0), .d (.v (.slice none 0 0)), []), (true, .own 6, [.dead, .dead, .dead, .dead, .dead, .dead, .rowi 22 .u64 (fl (sizeN a.toNat b.toNat c.toNat d.toNat e.toNat) (3 + a.toNat + b.toNat) e.toNat e.toNat)])]
  | _ => []

theorem v35' {a b c d e f g l : Int} (h : ¬ chk a b c d e f g l = 0) : ∃ H, sxFn E35 A35 C35 [cfgS a b c d e f g l] [] KS = some (.d (.v (.slice none 0 0)), H) := by
  have hc' : (chk a b c d e f g l == 0) = false := by simp [h]
  rw [← sxFnI_eq, m35, hc']
  simp only [Bool.not_false, br_t]
  exact ⟨_, rfl⟩

def S35 {Ω : Type} : Spec Ω := conSpecL [.g cfgK] FFirst2
theorem g35 : Good1 Tryz.prog 20 S35 := conGoodL Tryz.func20 (by kernel_rfl) c35 e35 mix (A := A35) fun L r hr hl hF => by
  obtain ⟨x, rfl, hx⟩ := lenAs_one hl
  obtain ⟨a, b, c, d, e, f, g, i, rfl⟩ := eight hx
  simp only [FFirst2, firstAlt] at hF
  by_cases h : chk a b c d e f g i = 0
  · have hc' : (chk a b c d e f g i == 0) = true := by simp [h]
    rw [hc'] at hF
    simp only [Bool.not_true, cond_false, cond_true, Option.some.injEq, Prod.mk.injEq] at hF
    obtain ⟨rfl, rfl⟩ := hF
    obtain ⟨H, h1, h2⟩ := v35 h
    exact ⟨trivial, ⟨trivial, trivial, trivial, trivial, trivial, trivial, trivial, trivial⟩, _, H, RowEq.refl _, h2, h1⟩
  · have hc' : (chk a b c d e f g i == 0) = false := by simp [h]
    rw [hc'] at hF
    simp only [Bool.not_false, cond_true, Option.some.injEq, Prod.mk.injEq] at hF
    obtain ⟨rfl, rfl⟩ := hF
    obtain ⟨H, hH⟩ := v35' h
    exact ⟨trivial, trivial, _, H, RowEq.refl _, trim_none rfl _, hH⟩
end Go.Sx.Pr

namespace Go.Sx.Pr
open Go Go.Sx Go.Proofs
set_option maxRecDepth 100000
end Go.Sx.Pr

/- Contract: the document's address of a word. -/
namespace Go.Sx.Pr
open Go Go.Sx Go.Proofs
set_option maxRecDepth 100000

/-- Where a place first stands among m from i on. -/
def srch (sp : Nat → Nat → Int) (k x y : Int) : Nat → Nat → Int
  | 0, _ => -1
  | m + 1, i => bif (sp i 0 == k) && ((sp i 1 == x) && (sp i 2 == y)) then (i : Int) else srch sp k x y m (i + 1)

/-- The address of a word. -/
def atV (a b c d e f g l k x y : Int) : Int :=
  bif chk a b c d e f g l == 0 then srch (spot a.toNat b.toNat d.toNat e.toNat) k x y (sizeN a.toNat b.toNat c.toNat d.toNat e.toNat) 0 else -1

theorem size_le {a b c d e f g l : Int} (h : chk a b c d e f g l = 0) : sizeN a.toNat b.toNat c.toNat d.toNat e.toNat ≤ 1000 := by
  obtain ⟨⟨a1, a2⟩, ⟨b1, b2⟩, ⟨c1, c2⟩, ⟨g1, g2⟩, ⟨e1, e2⟩, _⟩ := chk_zero h
  have hBC : b.toNat * c.toNat ≤ 8 * 16 := Nat.mul_le_mul (by omega) (by omega)
  have hP : (1 + d.toNat) * (b.toNat * c.toNat) ≤ 5 * 128 := Nat.mul_le_mul (by omega) (by omega)
  unfold sizeN; omega

/-! ### what the search comes to -/
theorem srch_hit {sp : Nat → Nat → Int} {k x y : Int} {t : Nat} (ht : sp t 0 = k ∧ sp t 1 = x ∧ sp t 2 = y) : ∀ (m i : Nat), i ≤ t → t < i + m → (∀ j, i ≤ j → j < t → ¬ (sp j 0 = k ∧ sp j 1 = x ∧ sp j 2 = y)) → srch sp k x y m i = (t : Int)
  | 0, i, h1, h2, _ => by omega
  | m + 1, i, h1, h2, h3 => by
    simp only [srch]
    rcases Nat.eq_or_lt_of_le h1 with h | h
    · subst h
      have : ((sp i 0 == k) && ((sp i 1 == x) && (sp i 2 == y))) = true := by simp [ht]
      rw [this, cond_true]
    · have hn := h3 i (Nat.le_refl _) h
      have : ((sp i 0 == k) && ((sp i 1 == x) && (sp i 2 == y))) = false := by
        rw [Bool.eq_false_iff]
        intro h4
        simp only [Bool.and_eq_true, beq_iff_eq] at h4
        exact hn h4
      rw [this, cond_false]
      exact srch_hit ht m (i + 1) h (by omega) fun j h5 h6 => h3 j (by omega) h6

theorem srch_miss {sp : Nat → Nat → Int} {k x y : Int} : ∀ (m i : Nat), (∀ j, i ≤ j → j < i + m → ¬ (sp j 0 = k ∧ sp j 1 = x ∧ sp j 2 = y)) → srch sp k x y m i = -1
  | 0, i, _ => rfl
  | m + 1, i, h3 => by
    simp only [srch]
    have hn := h3 i (Nat.le_refl _) (by omega)
    have : ((sp i 0 == k) && ((sp i 1 == x) && (sp i 2 == y))) = false := by
      rw [Bool.eq_false_iff]
      intro h4
      simp only [Bool.and_eq_true, beq_iff_eq] at h4
      exact hn h4
    rw [this, cond_false]
    exact srch_miss m (i + 1) fun j h5 h6 => h3 j (by omega) (by omega)
end Go.Sx.Pr

/- The document's addresses, closed forms. -/
namespace Go.Sx.Pr
open Go Go.Sx Go.Proofs
set_option maxRecDepth 100000

theorem spot_cases (A Bn D E j : Nat) :
    (j < 3 ∧ spot A Bn D E j 0 = 0 ∧ spot A Bn D E j 1 = (j : Int) ∧ spot A Bn D E j 2 = 0) ∨
    (3 ≤ j ∧ j < 3 + A ∧ spot A Bn D E j 0 = 1 ∧ spot A Bn D E j 1 = ((j - 3 : Nat) : Int) ∧ spot A Bn D E j 2 = 0) ∨
    (3 + A ≤ j ∧ j < 3 + A + Bn ∧ spot A Bn D E j 0 = 2 ∧ spot A Bn D E j 1 = ((j - (3 + A) : Nat) : Int) ∧ spot A Bn D E j 2 = 0) ∨
    (3 + A + Bn ≤ j ∧ j < 3 + A + Bn + 2 * E ∧ (j - (3 + A + Bn)) % 2 = 0 ∧ spot A Bn D E j 0 = 3 ∧ spot A Bn D E j 1 = (((j - (3 + A + Bn)) / 2 : Nat) : Int) ∧ spot A Bn D E j 2 = 0) ∨
    (3 + A + Bn ≤ j ∧ j < 3 + A + Bn + 2 * E ∧ (j - (3 + A + Bn)) % 2 = 1 ∧ spot A Bn D E j 0 = 4 ∧ spot A Bn D E j 1 = (((j - (3 + A + Bn)) / 2 : Nat) : Int) ∧ spot A Bn D E j 2 = 0) ∨
    (3 + A + Bn + 2 * E ≤ j ∧ (j - (3 + A + Bn + 2 * E)) % (1 + D) = 0 ∧ spot A Bn D E j 0 = 5 ∧ spot A Bn D E j 1 = (((j - (3 + A + Bn + 2 * E)) / (1 + D) : Nat) : Int) ∧ spot A Bn D E j 2 = 0) ∨
    (3 + A + Bn + 2 * E ≤ j ∧ (j - (3 + A + Bn + 2 * E)) % (1 + D) ≠ 0 ∧ spot A Bn D E j 0 = 6 ∧ spot A Bn D E j 1 = (((j - (3 + A + Bn + 2 * E)) / (1 + D) : Nat) : Int) ∧ spot A Bn D E j 2 = (((j - (3 + A + Bn + 2 * E)) % (1 + D) - 1 : Nat) : Int)) := by
  unfold spot spotL
  by_cases h1 : j < 3
  · rw [if_pos h1]; exact .inl ⟨h1, rfl, rfl, rfl⟩
  · rw [if_neg h1]
    by_cases h2 : j < 3 + A
    · rw [if_pos h2]; exact .inr (.inl ⟨by omega, h2, rfl, rfl, rfl⟩)
    · rw [if_neg h2]
      by_cases h3 : j < 3 + A + Bn
      · rw [if_pos h3]; exact .inr (.inr (.inl ⟨by omega, h3, rfl, rfl, rfl⟩))
      · rw [if_neg h3]
        by_cases h4 : j < 3 + A + Bn + 2 * E
        · rw [if_pos h4]
          rcases Nat.mod_two_eq_zero_or_one (j - (3 + A + Bn)) with h5 | h5
          · rw [h5, if_pos rfl]; exact .inr (.inr (.inr (.inl ⟨by omega, h4, rfl, rfl, rfl, rfl⟩)))
          · rw [h5, if_neg (by omega)]; exact .inr (.inr (.inr (.inr (.inl ⟨by omega, h4, rfl, rfl, rfl, rfl⟩))))
        · rw [if_neg h4]
          by_cases h5 : (j - (3 + A + Bn + 2 * E)) % (1 + D) = 0
          · rw [if_pos h5]; exact .inr (.inr (.inr (.inr (.inr (.inl ⟨by omega, h5, rfl, rfl, rfl⟩)))))
          · rw [if_neg h5]; exact .inr (.inr (.inr (.inr (.inr (.inr ⟨by omega, h5, rfl, rfl, rfl⟩)))))

/-- One place, one address. -/
theorem spot_inj {A Bn D E j t : Nat} (h0 : spot A Bn D E j 0 = spot A Bn D E t 0) (h1 : spot A Bn D E j 1 = spot A Bn D E t 1) (h2 : spot A Bn D E j 2 = spot A Bn D E t 2) : j = t := by
  rcases spot_cases A Bn D E j with ⟨a1, a2, a3, a4⟩ | ⟨a0, a1, a2, a3, a4⟩ | ⟨a0, a1, a2, a3, a4⟩ | ⟨a0, a1, a5, a2, a3, a4⟩ | ⟨a0, a1, a5, a2, a3, a4⟩ | ⟨a0, a5, a2, a3, a4⟩ | ⟨a0, a5, a2, a3, a4⟩ <;>
  rcases spot_cases A Bn D E t with ⟨b1, b2, b3, b4⟩ | ⟨b0, b1, b2, b3, b4⟩ | ⟨b0, b1, b2, b3, b4⟩ | ⟨b0, b1, b5, b2, b3, b4⟩ | ⟨b0, b1, b5, b2, b3, b4⟩ | ⟨b0, b5, b2, b3, b4⟩ | ⟨b0, b5, b2, b3, b4⟩ <;>
  rw [a2, b2] at h0 <;> (try (exfalso; omega)) <;> rw [a3, b3] at h1 <;> rw [a4, b4] at h2
  · omega
  · omega
  · omega
  · omega
  · omega
  · have e1 := Nat.div_add_mod (j - (3 + A + Bn + 2 * E)) (1 + D)
    have e2 := Nat.div_add_mod (t - (3 + A + Bn + 2 * E)) (1 + D)
    have e3 : (j - (3 + A + Bn + 2 * E)) / (1 + D) = (t - (3 + A + Bn + 2 * E)) / (1 + D) := by omega
    rw [e3, a5] at e1
    rw [b5] at e2
    omega
  · have e1 := Nat.div_add_mod (j - (3 + A + Bn + 2 * E)) (1 + D)
    have e2 := Nat.div_add_mod (t - (3 + A + Bn + 2 * E)) (1 + D)
    have e3 : (j - (3 + A + Bn + 2 * E)) / (1 + D) = (t - (3 + A + Bn + 2 * E)) / (1 + D) := by omega
    have e4 : (j - (3 + A + Bn + 2 * E)) % (1 + D) = (t - (3 + A + Bn + 2 * E)) % (1 + D) := by omega
    rw [e3, e4] at e1
    omega

section
variable {a b c d e f g l : Int} (hc : chk a b c d e f g l = 0)
 include hc

theorem at_hit {k x y : Int} {t : Nat} (ht : t < sizeN a.toNat b.toNat c.toNat d.toNat e.toNat) (h0 : spot a.toNat b.toNat d.toNat e.toNat t 0 = k) (h1 : spot a.toNat b.toNat d.toNat e.toNat t 1 = x) (h2 : spot a.toNat b.toNat d.toNat e.toNat t 2 = y) :
    atV a b c d e f g l k x y = (t : Int) := by
  unfold atV
  rw [show (chk a b c d e f g l == 0) = true by simp [hc], cond_true]
  exact srch_hit ⟨h0, h1, h2⟩ _ 0 (by omega) (by omega) fun j _ hj hs => by
    have := spot_inj (hs.1.trans h0.symm) (hs.2.1.trans h1.symm) (hs.2.2.trans h2.symm)
    omega

theorem at_miss {k x y : Int} (h : ∀ j, j < sizeN a.toNat b.toNat c.toNat d.toNat e.toNat → ¬ (spot a.toNat b.toNat d.toNat e.toNat j 0 = k ∧ spot a.toNat b.toNat d.toNat e.toNat j 1 = x ∧ spot a.toNat b.toNat d.toNat e.toNat j 2 = y)) :
    atV a b c d e f g l k x y = -1 := by
  unfold atV
  rw [show (chk a b c d e f g l == 0) = true by simp [hc], cond_true]
  exact srch_miss _ 0 fun j _ hj => h j (by omega)

/-- The announcement of worker i. -/
theorem at1 (i : Int) : atV a b c d e f g l 1 i 0 = if 0 ≤ i ∧ i < a then 3 + i else -1 := by
  obtain ⟨⟨a1, a2⟩, _⟩ := chk_zero hc
  split
  · rename_i h
    rw [at_hit hc (t := (3 + i).toNat) (by unfold sizeN; omega)]
    · omega
    all_goals rcases spot_cases a.toNat b.toNat d.toNat e.toNat (3 + i).toNat with h1 | h1 | h1 | h1 | h1 | h1 | h1 <;> omega
  · rename_i h
    refine at_miss hc fun j _ hs => ?_
    rcases spot_cases a.toNat b.toNat d.toNat e.toNat j with h1 | h1 | h1 | h1 | h1 | h1 | h1 <;> omega

/-- The word of slab i. -/
theorem at2 (i : Int) : atV a b c d e f g l 2 i 0 = if 0 ≤ i ∧ i < b then 3 + a + i else -1 := by
  obtain ⟨⟨a1, a2⟩, ⟨b1, b2⟩, _⟩ := chk_zero hc
  split
  · rename_i h
    rw [at_hit hc (t := (3 + a + i).toNat) (by unfold sizeN; omega)]
    · omega
    all_goals rcases spot_cases a.toNat b.toNat d.toNat e.toNat (3 + a + i).toNat with h1 | h1 | h1 | h1 | h1 | h1 | h1 <;> omega
  · rename_i h
    refine at_miss hc fun j _ hs => ?_
    rcases spot_cases a.toNat b.toNat d.toNat e.toNat j with h1 | h1 | h1 | h1 | h1 | h1 | h1 <;> omega

/-- The word of entry i, and its link. -/
theorem at3 (i : Int) : atV a b c d e f g l 3 i 0 = if 0 ≤ i ∧ i < e then 3 + a + b + 2 * i else -1 := by
  obtain ⟨⟨a1, a2⟩, ⟨b1, b2⟩, _, _, ⟨e1, e2⟩, _⟩ := chk_zero hc
  split
  · rename_i h
    rw [at_hit hc (t := (3 + a + b + 2 * i).toNat) (by unfold sizeN; omega)]
    · omega
    all_goals rcases spot_cases a.toNat b.toNat d.toNat e.toNat (3 + a + b + 2 * i).toNat with h1 | h1 | h1 | h1 | h1 | h1 | h1 <;> omega
  · rename_i h
    refine at_miss hc fun j _ hs => ?_
    rcases spot_cases a.toNat b.toNat d.toNat e.toNat j with h1 | h1 | h1 | h1 | h1 | h1 | h1 <;> omega
theorem at4 (i : Int) : atV a b c d e f g l 4 i 0 = if 0 ≤ i ∧ i < e then 3 + a + b + 2 * i + 1 else -1 := by
  obtain ⟨⟨a1, a2⟩, ⟨b1, b2⟩, _, _, ⟨e1, e2⟩, _⟩ := chk_zero hc
  split
  · rename_i h
    rw [at_hit hc (t := (3 + a + b + 2 * i + 1).toNat) (by unfold sizeN; omega)]
    · omega
    all_goals rcases spot_cases a.toNat b.toNat d.toNat e.toNat (3 + a + b + 2 * i + 1).toNat with h1 | h1 | h1 | h1 | h1 | h1 | h1 <;> omega
  · rename_i h
    refine at_miss hc fun j _ hs => ?_
    rcases spot_cases a.toNat b.toNat d.toNat e.toNat j with h1 | h1 | h1 | h1 | h1 | h1 | h1 <;> omega
end
end Go.Sx.Pr

/- The document's addresses of blocks' links and words, closed forms. -/
namespace Go.Sx.Pr
open Go Go.Sx Go.Proofs
set_option maxRecDepth 100000

section
variable {a b c d e f g l : Int} (hc : chk a b c d e f g l = 0)
 include hc

/-- The link of block i. -/
theorem at5 (i : Int) : atV a b c d e f g l 5 i 0 = if 0 ≤ i ∧ i < b * c then 3 + a + b + 2 * e + (1 + d) * i else -1 := by
  obtain ⟨⟨a1, a2⟩, ⟨b1, b2⟩, ⟨c1, c2⟩, ⟨d1, d2⟩, ⟨e1, e2⟩, _⟩ := chk_zero hc
  obtain ⟨A, rfl⟩ := Int.eq_ofNat_of_zero_le (show 0 ≤ a by omega)
  obtain ⟨Bn, rfl⟩ := Int.eq_ofNat_of_zero_le (show 0 ≤ b by omega)
  obtain ⟨Cn, rfl⟩ := Int.eq_ofNat_of_zero_le (show 0 ≤ c by omega)
  obtain ⟨D, rfl⟩ := Int.eq_ofNat_of_zero_le (show 0 ≤ d by omega)
  obtain ⟨E, rfl⟩ := Int.eq_ofNat_of_zero_le (show 0 ≤ e by omega)
  split
  · rename_i h
    obtain ⟨n, rfl⟩ := Int.eq_ofNat_of_zero_le h.1
    have hn : n < Bn * Cn := by have := h.2; rw [← Int.natCast_mul] at this; omega
    have hmul : (1 + D) * (n + 1) ≤ (1 + D) * (Bn * Cn) := Nat.mul_le_mul_left _ hn
    rw [Nat.mul_succ] at hmul
    have hm : (3 + A + Bn + 2 * E + (1 + D) * n - (3 + A + Bn + 2 * E)) = (1 + D) * n := by omega
    have hd : ((1 + D) * n) / (1 + D) = n := Nat.mul_div_cancel_left _ (by omega)
    have hr : ((1 + D) * n) % (1 + D) = 0 := Nat.mul_mod_right _ _
    have hs := spot_cases A Bn D E (3 + A + Bn + 2 * E + (1 + D) * n)
    rw [hm, hd, hr] at hs
    have key : spot A Bn D E (3 + A + Bn + 2 * E + (1 + D) * n) 0 = 5 ∧ spot A Bn D E (3 + A + Bn + 2 * E + (1 + D) * n) 1 = (n : Int) ∧ spot A Bn D E (3 + A + Bn + 2 * E + (1 + D) * n) 2 = 0 := by
      rcases hs with h1 | h1 | h1 | h1 | h1 | h1 | h1
      · omega
      · omega
      · omega
      · omega
      · omega
      · exact ⟨h1.2.2.1, h1.2.2.2.1, h1.2.2.2.2⟩
      · exact absurd rfl h1.2.1
    rw [at_hit hc (t := 3 + A + Bn + 2 * E + (1 + D) * n) (by simp only [Int.toNat_natCast]; unfold sizeN; omega) key.1 key.2.1 key.2.2]
    push_cast
    rfl
  · rename_i h
    refine at_miss hc fun j hj hs => h ?_
    simp only [Int.toNat_natCast] at hj hs
    unfold sizeN at hj
    rcases spot_cases A Bn D E j with h1 | h1 | h1 | h1 | h1 | h1 | h1
    · omega
    · omega
    · omega
    · omega
    · omega
    · have h2 : (j - (3 + A + Bn + 2 * E)) / (1 + D) < Bn * Cn := Nat.div_lt_of_lt_mul (by omega)
      rw [← Int.natCast_mul]
      generalize (j - (3 + A + Bn + 2 * E)) / (1 + D) = Q at h1 h2
      generalize Bn * Cn = R at *
      omega
    · omega

end
end Go.Sx.Pr

namespace Go.Sx.Pr
open Go Go.Sx Go.Proofs
set_option maxRecDepth 100000
/-- (coatcheck/plan.Plan).Announce -/
def C88 : CF := ⟨2, [(4, none)],
 .seq (.reg false [⟨some 2, .box 87 8 (.t 0), none, 0⟩,
   ⟨some 4, .mv (.c (.d (.v (.int .i64 0)))), none, 0⟩])
 (.seq (.reg false [⟨some 5, .ld 8 true (.t 2), none, 0⟩,
   ⟨some 6, .mv (.t 1), none, 0⟩,
   ⟨some 7, .fa 0 (.t 2), none, 0⟩,
   ⟨some 8, .fa 0 (.t 7), none, 0⟩,
   ⟨some 9, .ld 1 false (.t 8), none, 0⟩,
   ⟨some 10, .call (.c (.fn (.func 106) [] [])) [.t 5, .c (.d (.v (.int .i64 3))), .t 6, .t 9, .c (.d (.v (.int .i64 1)))], none, 0⟩,
   ⟨some 4, .mv (.t 10), none, 0⟩])
 (.ret))⟩
theorem c88 : coF Tryz.prog Tryz.f119 = some C88 := by kernel_rfl
def A88 : Ann := { keep := [0, 1, 2, 4], live := [] }
def E88 {Ω : Type} : Env Ω := econs 106 S122 (enil)
theorem e88 : GoodE Tryz.prog E88 := GoodE.cons g122 (GoodE.nil)
/-- (coatcheck/plan.Plan).Slab -/
def C95 : CF := ⟨2, [(4, none)],
 .seq (.reg false [⟨some 2, .box 87 8 (.t 0), none, 0⟩,
   ⟨some 4, .mv (.c (.d (.v (.int .i64 0)))), none, 0⟩])
 (.seq (.reg true [⟨some 5, .ld 8 true (.t 2), none, 0⟩,
   ⟨some 6, .ld 8 true (.t 2), none, 0⟩,
   ⟨some 7, .call (.c (.fn (.func 147) [] [])) [.t 6], none, 2⟩,
   ⟨some 8, .mv (.t 1), none, 0⟩,
   ⟨some 9, .fa 0 (.t 2), none, 0⟩,
   ⟨some 10, .fa 1 (.t 9), none, 16⟩,
   ⟨some 11, .ld 1 false (.t 10), none, 48⟩,
   ⟨some 12, .call (.c (.fn (.func 106) [] [])) [.t 5, .t 7, .t 8, .t 11, .c (.d (.v (.int .i64 1)))], none, 127⟩,
   ⟨some 4, .mv (.t 12), none, 255⟩])
 (.ret))⟩
theorem c95 : coF Tryz.prog Tryz.f126 = some C95 := by kernel_rfl
def A95 : Ann := { keep := [0, 1, 2, 4], live := [] }
def E95 {Ω : Type} : Env Ω := econs 106 S122 (econs 147 S125 (enil))
theorem e95 : GoodE Tryz.prog E95 := GoodE.cons g122 (GoodE.cons g125 (GoodE.nil))
/-- (coatcheck/plan.Plan).BlockLink -/
def C117 : CF := ⟨2, [(4, none)],
 .seq (.reg false [⟨some 2, .box 87 8 (.t 0), none, 0⟩,
   ⟨some 4, .mv (.c (.d (.v (.int .i64 0)))), none, 0⟩])
 (.seq (.reg true [⟨some 5, .ld 8 true (.t 2), none, 0⟩,
   ⟨some 6, .ld 8 true (.t 2), none, 0⟩,
   ⟨some 7, .call (.c (.fn (.func 104) [] [])) [.t 6], none, 2⟩,
   ⟨some 8, .mv (.t 1), none, 0⟩,
   ⟨some 9, .ld 8 true (.t 2), none, 0⟩,
   ⟨some 10, .call (.c (.fn (.func 105) [] [])) [.t 9], none, 22⟩,
   ⟨some 11, .fa 0 (.t 2), none, 0⟩,
   ⟨some 12, .fa 3 (.t 11), none, 64⟩,
   ⟨some 13, .ld 1 false (.t 12), none, 192⟩,
   ⟨some 14, .bin .add (.c (.d (.v (.int .i64 1)))) (.t 13), none, 448⟩,
   ⟨some 15, .call (.c (.fn (.func 106) [] [])) [.t 5, .t 7, .t 8, .t 10, .t 14], none, 1023⟩,
   ⟨some 4, .mv (.t 15), none, 2047⟩])
 (.ret))⟩
theorem c117 : coF Tryz.prog Tryz.f113 = some C117 := by kernel_rfl
def A117 : Ann := { keep := [0, 1, 2, 4], live := [] }
def E117 {Ω : Type} : Env Ω := econs 104 S107 (econs 105 S108 (econs 106 S122 (enil)))
theorem e117 : GoodE Tryz.prog E117 := GoodE.cons g107 (GoodE.cons g108 (GoodE.cons g122 (GoodE.nil)))
end Go.Sx.Pr
