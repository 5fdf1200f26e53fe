/- Contract: the document's initial words. -/
import Derived.Test.YtpnnnklahanecaaM4
namespace Go.Sx.Pr
open Go Go.Sx Go.Proofs
set_option maxRecDepth 100000
set_option linter.unusedVariables false

theorem sxI_seq {Ω : Type} {it : Itr Ω} {env : Env Ω} {A : Ann} {a b : CC} {c : Nat} {s : SS} {k : SE → SS → Option Ω} : sxI it env A (.seq a b) c s k = sxI it env A a c s (kseq it env A b c k) := by first | exact _root_.id (Eq.refl _)
theorem sxI_block {Ω : Type} {it : Itr Ω} {env : Env Ω} {A : Ann} {a : CC} {id c : Nat} {s : SS} {k : SE → SS → Option Ω} : sxI it env A (.block id a) c s k = sxI it env A a id s (kblk id k) := by first | exact _root_.id (Eq.refl _)
theorem kseq_norm {Ω : Type} {it : Itr Ω} {env : Env Ω} {A : Ann} {b : CC} {c : Nat} {s : SS} {k : SE → SS → Option Ω} : kseq it env A b c k .norm s = sxI it env A b c s k := by first | exact _root_.id (Eq.refl _)
theorem kseq_ret {Ω : Type} {it : Itr Ω} {env : Env Ω} {A : Ann} {b : CC} {c : Nat} {s : SS} {k : SE → SS → Option Ω} : kseq it env A b c k .ret s = k .ret s := by first | exact _root_.id (Eq.refl _)
theorem kseq_exit {Ω : Type} {it : Itr Ω} {env : Env Ω} {A : Ann} {b : CC} {c id : Nat} {s : SS} {k : SE → SS → Option Ω} : kseq it env A b c k (.exit id) s = k (.exit id) s := by first | exact _root_.id (Eq.refl _)
theorem kblk_norm {Ω : Type} {id : Nat} {s : SS} {k : SE → SS → Option Ω} : kblk id k .norm s = k .norm s := by first | exact _root_.id (Eq.refl _)
theorem kblk_ret {Ω : Type} {id : Nat} {s : SS} {k : SE → SS → Option Ω} : kblk id k .ret s = k .ret s := by first | exact _root_.id (Eq.refl _)

abbrev H35 (n : Nat) (sp : Nat → Nat → Int) (out : List Int) (a b c d e f g l : Int) : SH := [CFG a b c d e f g l, .dead, .dead, .dead, .row 105 3 n (fun i j => .v (.int .i64 (sp i j))), .dead, .rowi 22 .u64 out]
abbrev T35 (i : Int) (r : List (Nat × SV)) : List (Nat × SV) := (1, .ptr 0 0) :: (3, .own 4) :: (4, .own 6) :: (5, I i) :: r
abbrev S35z (n : Nat) (sp : Nat → Nat → Int) (i : Int) (a b c d e f g l : Int) : SS := ⟨[(1, .ptr 0 0), (3, .own 4), (4, .d (.v (.slice none 0 0))), (5, I i)], [CFG a b c d e f g l, .dead, .dead, .dead, .row 105 3 n (fun i j => .v (.int .i64 (sp i j)))]⟩
theorem m35 {Ω : Type} (it : Itr Ω) (K : SV → SH → Option Ω) (a b c d e f g l : Int) :
    sxFnI it E35 A35 C35 [cfgS a b c d e f g l] [] K =
    br (!chk a b c d e f g l == 0) (K (.d (DV.v (Value.slice none 0 0))) [.cells 24 [I a, I b, I c, I d, I e, I f, I g, U l]]) (br (chk a b c d e f g l == 0) (it [1, 3, 4, 5] 5 (sxI it E35 A35 L35_10 0) (SS.mk [(1, .ptr 0 0), (3, .own 4), (4, .d (DV.v (Value.slice none 0 0))), (5, I 0)] [.cells 24 [I a, I b, I c, I d, I e, I f, I g, U l], .dead, .dead, .dead, .row 105 3 (sizeN (Int.toNat a) (Int.toNat b) (Int.toNat c) (Int.toNat d) (Int.toNat e)) fun i j => DV.v (Value.int .i64 (spot (Int.toNat a) (Int.toNat b) (Int.toNat d) (Int.toNat e) i j))]) (Z35_10 it K)) none) := by kernel_rfl
theorem m35_0 {Ω : Type} (it : Itr Ω) (IT : SS → Option Ω) (K : SV → SH → Option Ω) (n : Nat) (sp : Nat → Nat → Int) (a b c d e f g l : Int) :
    sxI it E35 A35 L35_10 0 (S35z n sp 0 a b c d e f g l) (kitV [1, 3, 4, 5] 5 IT (Z35_10 it K)) =
    br (decide (0 < (↑n : Int))) (br (inB 0 n) (br (sp 0 0 == 0) (br (inB 0 n) (br (sp 0 1 == 0) (br (inB 0 n) (br (sp 0 0 == 0) (br (inB 0 n) (br (sp 0 1 == 2) (br (inB 0 n) (br (sp 0 0 == 3) (br (inB 0 n) (br (sp 0 0 == 4) (br (inB 0 n) (br (decide (sp (Int.toNat 0) 1 < IntKind.wrap .i64 (e - 1))) (br (inB 0 n) (IT (SS.mk [(1, .ptr 0 0), (3, .own 4), (4, .own 6), (5, I 1)] [.cells 24 [I a, I b, I c, I d, I e, I f, I g, U l], .dead, .dead, .dead, .row 105 3 n fun i j => DV.v (Value.int .i64 (sp i j)), .dead, .rowi 22 .u64 [IntKind.wrap .u64 (IntKind.wrap .u64 (sp 0 1) + 2)]])) none) (IT (SS.mk [(1, .ptr 0 0), (3, .own 4), (4, .own 6), (5, I 1)] [.cells 24 [I a, I b, I c, I d, I e, I f, I g, U l], .dead, .dead, .dead, .row 105 3 n fun i j => DV.v (Value.int .i64 (sp i j)), .dead, .rowi 22 .u64 [1048576]]))) none) (IT (SS.mk [(1, .ptr 0 0), (3, .own 4), (4, .own 6), (5, I 1)] [.cells 24 [I a, I b, I c, I d, I e, I f, I g, U l], .dead, .dead, .dead, .row 105 3 n fun i j => DV.v (Value.int .i64 (sp i j)), .dead, .rowi 22 .u64 [1048576]]))) none) (br (inB 0 n) (br (sp 0 0 == 4) (br (inB 0 n) (br (decide (sp (Int.toNat 0) 1 < IntKind.wrap .i64 (e - 1))) (br (inB 0 n) (IT (SS.mk [(1, .ptr 0 0), (3, .own 4), (4, .own 6), (5, I 1)] [.cells 24 [I a, I b, I c, I d, I e, I f, I g, U l], .dead, .dead, .dead, .row 105 3 n fun i j => DV.v (Value.int .i64 (sp i j)), .dead, .rowi 22 .u64 [IntKind.wrap .u64 (IntKind.wrap .u64 (sp 0 1) + 2)]])) none) (IT (SS.mk [(1, .ptr 0 0), (3, .own 4), (4, .own 6), (5, I 1)] [.cells 24 [I a, I b, I c, I d, I e, I f, I g, U l], .dead, .dead, .dead, .row 105 3 n fun i j => DV.v (Value.int .i64 (sp i j)), .dead, .rowi 22 .u64 [1]]))) none) (IT (SS.mk [(1, .ptr 0 0), (3, .own 4), (4, .own 6), (5, I 1)] [.cells 24 [I a, I b, I c, I d, I e, I f, I g, U l], .dead, .dead, .dead, .row 105 3 n fun i j => DV.v (Value.int .i64 (sp i j)), .dead, .rowi 22 .u64 [1]]))) none)) none) (br (inB 0 n) (br (sp 0 0 == 3) (br (inB 0 n) (br (sp 0 0 == 4) (br (inB 0 n) (br (decide (sp (Int.toNat 0) 1 < IntKind.wrap .i64 (e - 1))) (br (inB 0 n) (IT (SS.mk [(1, .ptr 0 0), (3, .own 4), (4, .own 6), (5, I 1)] [.cells 24 [I a, I b, I c, I d, I e, I f, I g, U l], .dead, .dead, .dead, .row 105 3 n fun i j => DV.v (Value.int .i64 (sp i j)), .dead, .rowi 22 .u64 [IntKind.wrap .u64 (IntKind.wrap .u64 (sp 0 1) + 2)]])) none) (IT (SS.mk [(1, .ptr 0 0), (3, .own 4), (4, .own 6), (5, I 1)] [.cells 24 [I a, I b, I c, I d, I e, I f, I g, U l], .dead, .dead, .dead, .row 105 3 n fun i j => DV.v (Value.int .i64 (sp i j)), .dead, .rowi 22 .u64 [1048576]]))) none) (IT (SS.mk [(1, .ptr 0 0), (3, .own 4), (4, .own 6), (5, I 1)] [.cells 24 [I a, I b, I c, I d, I e, I f, I g, U l], .dead, .dead, .dead, .row 105 3 n fun i j => DV.v (Value.int .i64 (sp i j)), .dead, .rowi 22 .u64 [1048576]]))) none) (br (inB 0 n) (br (sp 0 0 == 4) (br (inB 0 n) (br (decide (sp (Int.toNat 0) 1 < IntKind.wrap .i64 (e - 1))) (br (inB 0 n) (IT (SS.mk [(1, .ptr 0 0), (3, .own 4), (4, .own 6), (5, I 1)] [.cells 24 [I a, I b, I c, I d, I e, I f, I g, U l], .dead, .dead, .dead, .row 105 3 n fun i j => DV.v (Value.int .i64 (sp i j)), .dead, .rowi 22 .u64 [IntKind.wrap .u64 (IntKind.wrap .u64 (sp 0 1) + 2)]])) none) (IT (SS.mk [(1, .ptr 0 0), (3, .own 4), (4, .own 6), (5, I 1)] [.cells 24 [I a, I b, I c, I d, I e, I f, I g, U l], .dead, .dead, .dead, .row 105 3 n fun i j => DV.v (Value.int .i64 (sp i j)), .dead, .rowi 22 .u64 [2]]))) none) (IT (SS.mk [(1, .ptr 0 0), (3, .own 4), (4, .own 6), (5, I 1)] [.cells 24 [I a, I b, I c, I d, I e, I f, I g, U l], .dead, .dead, .dead, .row 105 3 n fun i j => DV.v (Value.int .i64 (sp i j)), .dead, .rowi 22 .u64 [2]]))) none)) none)) none) (br (inB 0 n) (br (sp 0 0 == 3) (br (inB 0 n) (br (sp 0 0 == 4) (br (inB 0 n) (br (decide (sp (Int.toNat 0) 1 < IntKind.wrap .i64 (e - 1))) (br (inB 0 n) (IT (SS.mk [(1, .ptr 0 0), (3, .own 4), (4, .own 6), (5, I 1)] [.cells 24 [I a, I b, I c, I d, I e, I f, I g, U l], .dead, .dead, .dead, .row 105 3 n fun i j => DV.v (Value.int .i64 (sp i j)), .dead, .rowi 22 .u64 [IntKind.wrap .u64 (IntKind.wrap .u64 (sp 0 1) + 2)]])) none) (IT (SS.mk [(1, .ptr 0 0), (3, .own 4), (4, .own 6), (5, I 1)] [.cells 24 [I a, I b, I c, I d, I e, I f, I g, U l], .dead, .dead, .dead, .row 105 3 n fun i j => DV.v (Value.int .i64 (sp i j)), .dead, .rowi 22 .u64 [1048576]]))) none) (IT (SS.mk [(1, .ptr 0 0), (3, .own 4), (4, .own 6), (5, I 1)] [.cells 24 [I a, I b, I c, I d, I e, I f, I g, U l], .dead, .dead, .dead, .row 105 3 n fun i j => DV.v (Value.int .i64 (sp i j)), .dead, .rowi 22 .u64 [1048576]]))) none) (br (inB 0 n) (br (sp 0 0 == 4) (br (inB 0 n) (br (decide (sp (Int.toNat 0) 1 < IntKind.wrap .i64 (e - 1))) (br (inB 0 n) (IT (SS.mk [(1, .ptr 0 0), (3, .own 4), (4, .own 6), (5, I 1)] [.cells 24 [I a, I b, I c, I d, I e, I f, I g, U l], .dead, .dead, .dead, .row 105 3 n fun i j => DV.v (Value.int .i64 (sp i j)), .dead, .rowi 22 .u64 [IntKind.wrap .u64 (IntKind.wrap .u64 (sp 0 1) + 2)]])) none) (IT (SS.mk [(1, .ptr 0 0), (3, .own 4), (4, .own 6), (5, I 1)] [.cells 24 [I a, I b, I c, I d, I e, I f, I g, U l], .dead, .dead, .dead, .row 105 3 n fun i j => DV.v (Value.int .i64 (sp i j)), .dead, .rowi 22 .u64 [2]]))) none) (IT (SS.mk [(1, .ptr 0 0), (3, .own 4), (4, .own 6), (5, I 1)] [.cells 24 [I a, I b, I c, I d, I e, I f, I g, U l], .dead, .dead, .dead, .row 105 3 n fun i j => DV.v (Value.int .i64 (sp i j)), .dead, .rowi 22 .u64 [2]]))) none)) none)) none) (br (inB 0 n) (br (sp 0 0 == 0) (br (inB 0 n) (br (sp 0 1 == 2) (br (inB 0 n) (br (sp 0 0 == 3) (br (inB 0 n) (br (sp 0 0 == 4) (br (inB 0 n) (br (decide (sp (Int.toNat 0) 1 < IntKind.wrap .i64 (e - 1))) (br (inB 0 n) (IT (SS.mk [(1, .ptr 0 0), (3, .own 4), (4, .own 6), (5, I 1)] [.cells 24 [I a, I b, I c, I d, I e, I f, I g, U l], .dead, .dead, .dead, .row 105 3 n fun i j => DV.v (Value.int .i64 (sp i j)), .dead, .rowi 22 .u64 [IntKind.wrap .u64 (IntKind.wrap .u64 (sp 0 1) + 2)]])) none) (IT (SS.mk [(1, .ptr 0 0), (3, .own 4), (4, .own 6), (5, I 1)] [.cells 24 [I a, I b, I c, I d, I e, I f, I g, U l], .dead, .dead, .dead, .row 105 3 n fun i j => DV.v (Value.int .i64 (sp i j)), .dead, .rowi 22 .u64 [1048576]]))) none) (IT (SS.mk [(1, .ptr 0 0), (3, .own 4), (4, .own 6), (5, I 1)] [.cells 24 [I a, I b, I c, I d, I e, I f, I g, U l], .dead, .dead, .dead, .row 105 3 n fun i j => DV.v (Value.int .i64 (sp i j)), .dead, .rowi 22 .u64 [1048576]]))) none) (br (inB 0 n) (br (sp 0 0 == 4) (br (inB 0 n) (br (decide (sp (Int.toNat 0) 1 < IntKind.wrap .i64 (e - 1))) (br (inB 0 n) (IT (SS.mk [(1, .ptr 0 0), (3, .own 4), (4, .own 6), (5, I 1)] [.cells 24 [I a, I b, I c, I d, I e, I f, I g, U l], .dead, .dead, .dead, .row 105 3 n fun i j => DV.v (Value.int .i64 (sp i j)), .dead, .rowi 22 .u64 [IntKind.wrap .u64 (IntKind.wrap .u64 (sp 0 1) + 2)]])) none) (IT (SS.mk [(1, .ptr 0 0), (3, .own 4), (4, .own 6), (5, I 1)] [.cells 24 [I a, I b, I c, I d, I e, I f, I g, U l], .dead, .dead, .dead, .row 105 3 n fun i j => DV.v (Value.int .i64 (sp i j)), .dead, .rowi 22 .u64 [1]]))) none) (IT (SS.mk [(1, .ptr 0 0), (3, .own 4), (4, .own 6), (5, I 1)] [.cells 24 [I a, I b, I c, I d, I e, I f, I g, U l], .dead, .dead, .dead, .row 105 3 n fun i j => DV.v (Value.int .i64 (sp i j)), .dead, .rowi 22 .u64 [1]]))) none)) none) (br (inB 0 n) (br (sp 0 0 == 3) (br (inB 0 n) (br (sp 0 0 == 4) (br (inB 0 n) (br (decide (sp (Int.toNat 0) 1 < IntKind.wrap .i64 (e - 1))) (br (inB 0 n) (IT (SS.mk [(1, .ptr 0 0), (3, .own 4), (4, .own 6), (5, I 1)] [.cells 24 [I a, I b, I c, I d, I e, I f, I g, U l], .dead, .dead, .dead, .row 105 3 n fun i j => DV.v (Value.int .i64 (sp i j)), .dead, .rowi 22 .u64 [IntKind.wrap .u64 (IntKind.wrap .u64 (sp 0 1) + 2)]])) none) (IT (SS.mk [(1, .ptr 0 0), (3, .own 4), (4, .own 6), (5, I 1)] [.cells 24 [I a, I b, I c, I d, I e, I f, I g, U l], .dead, .dead, .dead, .row 105 3 n fun i j => DV.v (Value.int .i64 (sp i j)), .dead, .rowi 22 .u64 [1048576]]))) none) (IT (SS.mk [(1, .ptr 0 0), (3, .own 4), (4, .own 6), (5, I 1)] [.cells 24 [I a, I b, I c, I d, I e, I f, I g, U l], .dead, .dead, .dead, .row 105 3 n fun i j => DV.v (Value.int .i64 (sp i j)), .dead, .rowi 22 .u64 [1048576]]))) none) (br (inB 0 n) (br (sp 0 0 == 4) (br (inB 0 n) (br (decide (sp (Int.toNat 0) 1 < IntKind.wrap .i64 (e - 1))) (br (inB 0 n) (IT (SS.mk [(1, .ptr 0 0), (3, .own 4), (4, .own 6), (5, I 1)] [.cells 24 [I a, I b, I c, I d, I e, I f, I g, U l], .dead, .dead, .dead, .row 105 3 n fun i j => DV.v (Value.int .i64 (sp i j)), .dead, .rowi 22 .u64 [IntKind.wrap .u64 (IntKind.wrap .u64 (sp 0 1) + 2)]])) none) (IT (SS.mk [(1, .ptr 0 0), (3, .own 4), (4, .own 6), (5, I 1)] [.cells 24 [I a, I b, I c, I d, I e, I f, I g, U l], .dead, .dead, .dead, .row 105 3 n fun i j => DV.v (Value.int .i64 (sp i j)), .dead, .rowi 22 .u64 [0]]))) none) (IT (SS.mk [(1, .ptr 0 0), (3, .own 4), (4, .own 6), (5, I 1)] [.cells 24 [I a, I b, I c, I d, I e, I f, I g, U l], .dead, .dead, .dead, .row 105 3 n fun i j => DV.v (Value.int .i64 (sp i j)), .dead, .rowi 22 .u64 [0]]))) none)) none)) none) (br (inB 0 n) (br (sp 0 0 == 3) (br (inB 0 n) (br (sp 0 0 == 4) (br (inB 0 n) (br (decide (sp (Int.toNat 0) 1 < IntKind.wrap .i64 (e - 1))) (br (inB 0 n) (IT (SS.mk [(1, .ptr 0 0), (3, .own 4), (4, .own 6), (5, I 1)] [.cells 24 [I a, I b, I c, I d, I e, I f, I g, U l], .dead, .dead, .dead, .row 105 3 n fun i j => DV.v (Value.int .i64 (sp i j)), .dead, .rowi 22 .u64 [IntKind.wrap .u64 (IntKind.wrap .u64 (sp 0 1) + 2)]])) none) (IT (SS.mk [(1, .ptr 0 0), (3, .own 4), (4, .own 6), (5, I 1)] [.cells 24 [I a, I b, I c, I d, I e, I f, I g, U l], .dead, .dead, .dead, .row 105 3 n fun i j => DV.v (Value.int .i64 (sp i j)), .dead, .rowi 22 .u64 [1048576]]))) none) (IT (SS.mk [(1, .ptr 0 0), (3, .own 4), (4, .own 6), (5, I 1)] [.cells 24 [I a, I b, I c, I d, I e, I f, I g, U l], .dead, .dead, .dead, .row 105 3 n fun i j => DV.v (Value.int .i64 (sp i j)), .dead, .rowi 22 .u64 [1048576]]))) none) (br (inB 0 n) (br (sp 0 0 == 4) (br (inB 0 n) (br (decide (sp (Int.toNat 0) 1 < IntKind.wrap .i64 (e - 1))) (br (inB 0 n) (IT (SS.mk [(1, .ptr 0 0), (3, .own 4), (4, .own 6), (5, I 1)] [.cells 24 [I a, I b, I c, I d, I e, I f, I g, U l], .dead, .dead, .dead, .row 105 3 n fun i j => DV.v (Value.int .i64 (sp i j)), .dead, .rowi 22 .u64 [IntKind.wrap .u64 (IntKind.wrap .u64 (sp 0 1) + 2)]])) none) (IT (SS.mk [(1, .ptr 0 0), (3, .own 4), (4, .own 6), (5, I 1)] [.cells 24 [I a, I b, I c, I d, I e, I f, I g, U l], .dead, .dead, .dead, .row 105 3 n fun i j => DV.v (Value.int .i64 (sp i j)), .dead, .rowi 22 .u64 [0]]))) none) (IT (SS.mk [(1, .ptr 0 0), (3, .own 4), (4, .own 6), (5, I 1)] [.cells 24 [I a, I b, I c, I d, I e, I f, I g, U l], .dead, .dead, .dead, .row 105 3 n fun i j => DV.v (Value.int .i64 (sp i j)), .dead, .rowi 22 .u64 [0]]))) none)) none)) none)) none) (br (inB 0 n) (br (sp 0 0 == 0) (br (inB 0 n) (br (sp 0 1 == 2) (br (inB 0 n) (br (sp 0 0 == 3) (br (inB 0 n) (br (sp 0 0 == 4) (br (inB 0 n) (br (decide (sp (Int.toNat 0) 1 < IntKind.wrap .i64 (e - 1))) (br (inB 0 n) (IT (SS.mk [(1, .ptr 0 0), (3, .own 4), (4, .own 6), (5, I 1)] [.cells 24 [I a, I b, I c, I d, I e, I f, I g, U l], .dead, .dead, .dead, .row 105 3 n fun i j => DV.v (Value.int .i64 (sp i j)), .dead, .rowi 22 .u64 [IntKind.wrap .u64 (IntKind.wrap .u64 (sp 0 1) + 2)]])) none) (IT (SS.mk [(1, .ptr 0 0), (3, .own 4), (4, .own 6), (5, I 1)] [.cells 24 [I a, I b, I c, I d, I e, I f, I g, U l], .dead, .dead, .dead, .row 105 3 n fun i j => DV.v (Value.int .i64 (sp i j)), .dead, .rowi 22 .u64 [1048576]]))) none) (IT (SS.mk [(1, .ptr 0 0), (3, .own 4), (4, .own 6), (5, I 1)] [.cells 24 [I a, I b, I c, I d, I e, I f, I g, U l], .dead, .dead, .dead, .row 105 3 n fun i j => DV.v (Value.int .i64 (sp i j)), .dead, .rowi 22 .u64 [1048576]]))) none) (br (inB 0 n) (br (sp 0 0 == 4) (br (inB 0 n) (br (decide (sp (Int.toNat 0) 1 < IntKind.wrap .i64 (e - 1))) (br (inB 0 n) (IT (SS.mk [(1, .ptr 0 0), (3, .own 4), (4, .own 6), (5, I 1)] [.cells 24 [I a, I b, I c, I d, I e, I f, I g, U l], .dead, .dead, .dead, .row 105 3 n fun i j => DV.v (Value.int .i64 (sp i j)), .dead, .rowi 22 .u64 [IntKind.wrap .u64 (IntKind.wrap .u64 (sp 0 1) + 2)]])) none) (IT (SS.mk [(1, .ptr 0 0), (3, .own 4), (4, .own 6), (5, I 1)] [.cells 24 [I a, I b, I c, I d, I e, I f, I g, U l], .dead, .dead, .dead, .row 105 3 n fun i j => DV.v (Value.int .i64 (sp i j)), .dead, .rowi 22 .u64 [1]]))) none) (IT (SS.mk [(1, .ptr 0 0), (3, .own 4), (4, .own 6), (5, I 1)] [.cells 24 [I a, I b, I c, I d, I e, I f, I g, U l], .dead, .dead, .dead, .row 105 3 n fun i j => DV.v (Value.int .i64 (sp i j)), .dead, .rowi 22 .u64 [1]]))) none)) none) (br (inB 0 n) (br (sp 0 0 == 3) (br (inB 0 n) (br (sp 0 0 == 4) (br (inB 0 n) (br (decide (sp (Int.toNat 0) 1 < IntKind.wrap .i64 (e - 1))) (br (inB 0 n) (IT (SS.mk [(1, .ptr 0 0), (3, .own 4), (4, .own 6), (5, I 1)] [.cells 24 [I a, I b, I c, I d, I e, I f, I g, U l], .dead, .dead, .dead, .row 105 3 n fun i j => DV.v (Value.int .i64 (sp i j)), .dead, .rowi 22 .u64 [IntKind.wrap .u64 (IntKind.wrap .u64 (sp 0 1) + 2)]])) none) (IT (SS.mk [(1, .ptr 0 0), (3, .own 4), (4, .own 6), (5, I 1)] [.cells 24 [I a, I b, I c, I d, I e, I f, I g, U l], .dead, .dead, .dead, .row 105 3 n fun i j => DV.v (Value.int .i64 (sp i j)), .dead, .rowi 22 .u64 [1048576]]))) none) (IT (SS.mk [(1, .ptr 0 0), (3, .own 4), (4, .own 6), (5, I 1)] [.cells 24 [I a, I b, I c, I d, I e, I f, I g, U l], .dead, .dead, .dead, .row 105 3 n fun i j => DV.v (Value.int .i64 (sp i j)), .dead, .rowi 22 .u64 [1048576]]))) none) (br (inB 0 n) (br (sp 0 0 == 4) (br (inB 0 n) (br (decide (sp (Int.toNat 0) 1 < IntKind.wrap .i64 (e - 1))) (br (inB 0 n) (IT (SS.mk [(1, .ptr 0 0), (3, .own 4), (4, .own 6), (5, I 1)] [.cells 24 [I a, I b, I c, I d, I e, I f, I g, U l], .dead, .dead, .dead, .row 105 3 n fun i j => DV.v (Value.int .i64 (sp i j)), .dead, .rowi 22 .u64 [IntKind.wrap .u64 (IntKind.wrap .u64 (sp 0 1) + 2)]])) none) (IT (SS.mk [(1, .ptr 0 0), (3, .own 4), (4, .own 6), (5, I 1)] [.cells 24 [I a, I b, I c, I d, I e, I f, I g, U l], .dead, .dead, .dead, .row 105 3 n fun i j => DV.v (Value.int .i64 (sp i j)), .dead, .rowi 22 .u64 [0]]))) none) (IT (SS.mk [(1, .ptr 0 0), (3, .own 4), (4, .own 6), (5, I 1)] [.cells 24 [I a, I b, I c, I d, I e, I f, I g, U l], .dead, .dead, .dead, .row 105 3 n fun i j => DV.v (Value.int .i64 (sp i j)), .dead, .rowi 22 .u64 [0]]))) none)) none)) none) (br (inB 0 n) (br (sp 0 0 == 3) (br (inB 0 n) (br (sp 0 0 == 4) (br (inB 0 n) (br (decide (sp (Int.toNat 0) 1 < IntKind.wrap .i64 (e - 1))) (br (inB 0 n) (IT (SS.mk [(1, .ptr 0 0), (3, .own 4), (4, .own 6), (5, I 1)] [.cells 24 [I a, I b, I c, I d, I e, I f, I g, U l], .dead, .dead, .dead, .row 105 3 n fun i j => DV.v (Value.int .i64 (sp i j)), .dead, .rowi 22 .u64 [IntKind.wrap .u64 (IntKind.wrap .u64 (sp 0 1) + 2)]])) none) (IT (SS.mk [(1, .ptr 0 0), (3, .own 4), (4, .own 6), (5, I 1)] [.cells 24 [I a, I b, I c, I d, I e, I f, I g, U l], .dead, .dead, .dead, .row 105 3 n fun i j => DV.v (Value.int .i64 (sp i j)), .dead, .rowi 22 .u64 [1048576]]))) none) (IT (SS.mk [(1, .ptr 0 0), (3, .own 4), (4, .own 6), (5, I 1)] [.cells 24 [I a, I b, I c, I d, I e, I f, I g, U l], .dead, .dead, .dead, .row 105 3 n fun i j => DV.v (Value.int .i64 (sp i j)), .dead, .rowi 22 .u64 [1048576]]))) none) (br (inB 0 n) (br (sp 0 0 == 4) (br (inB 0 n) (br (decide (sp (Int.toNat 0) 1 < IntKind.wrap .i64 (e - 1))) (br (inB 0 n) (IT (SS.mk [(1, .ptr 0 0), (3, .own 4), (4, .own 6), (5, I 1)] [.cells 24 [I a, I b, I c, I d, I e, I f, I g, U l], .dead, .dead, .dead, .row 105 3 n fun i j => DV.v (Value.int .i64 (sp i j)), .dead, .rowi 22 .u64 [IntKind.wrap .u64 (IntKind.wrap .u64 (sp 0 1) + 2)]])) none) (IT (SS.mk [(1, .ptr 0 0), (3, .own 4), (4, .own 6), (5, I 1)] [.cells 24 [I a, I b, I c, I d, I e, I f, I g, U l], .dead, .dead, .dead, .row 105 3 n fun i j => DV.v (Value.int .i64 (sp i j)), .dead, .rowi 22 .u64 [0]]))) none) (IT (SS.mk [(1, .ptr 0 0), (3, .own 4), (4, .own 6), (5, I 1)] [.cells 24 [I a, I b, I c, I d, I e, I f, I g, U l], .dead, .dead, .dead, .row 105 3 n fun i j => DV.v (Value.int .i64 (sp i j)), .dead, .rowi 22 .u64 [0]]))) none)) none)) none)) none) (K (.d (DV.v (Value.slice none 0 0))) [.cells 24 [I a, I b, I c, I d, I e, I f, I g, U l], .dead, .dead, .dead, .row 105 3 n fun i j => DV.v (Value.int .i64 (sp i j))]) := by kernel_rfl
theorem f9 {Ω : Type} (it : Itr Ω) (K : SE → SS → Option Ω) (n : Nat) (sp : Nat → Nat → Int) (out : List Int) (i : Int) (a b c d e f g l : Int) :
    sxI it E35 A35 K35_9 0 ⟨T35 i [], H35 n sp out a b c d e f g l⟩ K =
    br (decide (i < (↑n : Int))) (K .norm (SS.mk [(1, .ptr 0 0), (3, .own 4), (4, .own 6), (5, I i)] [.cells 24 [I a, I b, I c, I d, I e, I f, I g, U l], .dead, .dead, .dead, .row 105 3 n fun i j => DV.v (Value.int .i64 (sp i j)), .dead, .rowi 22 .u64 out])) (K (.exit 0) (SS.mk [(1, .ptr 0 0), (3, .own 4), (4, .own 6), (5, I i)] [.cells 24 [I a, I b, I c, I d, I e, I f, I g, U l], .dead, .dead, .dead, .row 105 3 n fun i j => DV.v (Value.int .i64 (sp i j)), .dead, .rowi 22 .u64 out])) := by kernel_rfl
theorem f8 {Ω : Type} (it : Itr Ω) (K : SE → SS → Option Ω) (n : Nat) (sp : Nat → Nat → Int) (out : List Int) (i : Int) (a b c d e f g l : Int) :
    sxI it E35 A35 K35_8 1 ⟨T35 i [], H35 n sp out a b c d e f g l⟩ K =
    K .norm (SS.mk [(1, .ptr 0 0), (3, .own 4), (4, .own 6), (5, I i), (6, U 0)] [.cells 24 [I a, I b, I c, I d, I e, I f, I g, U l], .dead, .dead, .dead, .row 105 3 n fun i j => DV.v (Value.int .i64 (sp i j)), .dead, .rowi 22 .u64 out]) := by kernel_rfl
theorem f7 {Ω : Type} (it : Itr Ω) (K : SE → SS → Option Ω) (n : Nat) (sp : Nat → Nat → Int) (out : List Int) (i w : Int) (a b c d e f g l : Int) :
    sxI it E35 A35 K35_7 1 ⟨T35 i [(6, U w)], H35 n sp out a b c d e f g l⟩ K =
    br (inB i n) (br (sp (Int.toNat i) 0 == 0) (br (inB i n) (br (sp (Int.toNat i) 1 == 0) (K .norm (SS.mk [(1, .ptr 0 0), (3, .own 4), (4, .own 6), (5, I i), (6, U 2)] [.cells 24 [I a, I b, I c, I d, I e, I f, I g, U l], .dead, .dead, .dead, .row 105 3 n fun i j => DV.v (Value.int .i64 (sp i j)), .dead, .rowi 22 .u64 out])) (K .norm (SS.mk [(1, .ptr 0 0), (3, .own 4), (4, .own 6), (5, I i), (6, U w)] [.cells 24 [I a, I b, I c, I d, I e, I f, I g, U l], .dead, .dead, .dead, .row 105 3 n fun i j => DV.v (Value.int .i64 (sp i j)), .dead, .rowi 22 .u64 out]))) none) (K .norm (SS.mk [(1, .ptr 0 0), (3, .own 4), (4, .own 6), (5, I i), (6, U w)] [.cells 24 [I a, I b, I c, I d, I e, I f, I g, U l], .dead, .dead, .dead, .row 105 3 n fun i j => DV.v (Value.int .i64 (sp i j)), .dead, .rowi 22 .u64 out]))) none := by kernel_rfl
theorem f6 {Ω : Type} (it : Itr Ω) (K : SE → SS → Option Ω) (n : Nat) (sp : Nat → Nat → Int) (out : List Int) (i w : Int) (a b c d e f g l : Int) :
    sxI it E35 A35 K35_6 1 ⟨T35 i [(6, U w)], H35 n sp out a b c d e f g l⟩ K =
    br (inB i n) (br (sp (Int.toNat i) 0 == 0) (br (inB i n) (br (sp (Int.toNat i) 1 == 2) (K .norm (SS.mk [(1, .ptr 0 0), (3, .own 4), (4, .own 6), (5, I i), (6, U 1)] [.cells 24 [I a, I b, I c, I d, I e, I f, I g, U l], .dead, .dead, .dead, .row 105 3 n fun i j => DV.v (Value.int .i64 (sp i j)), .dead, .rowi 22 .u64 out])) (K .norm (SS.mk [(1, .ptr 0 0), (3, .own 4), (4, .own 6), (5, I i), (6, U w)] [.cells 24 [I a, I b, I c, I d, I e, I f, I g, U l], .dead, .dead, .dead, .row 105 3 n fun i j => DV.v (Value.int .i64 (sp i j)), .dead, .rowi 22 .u64 out]))) none) (K .norm (SS.mk [(1, .ptr 0 0), (3, .own 4), (4, .own 6), (5, I i), (6, U w)] [.cells 24 [I a, I b, I c, I d, I e, I f, I g, U l], .dead, .dead, .dead, .row 105 3 n fun i j => DV.v (Value.int .i64 (sp i j)), .dead, .rowi 22 .u64 out]))) none := by kernel_rfl
theorem f5 {Ω : Type} (it : Itr Ω) (K : SE → SS → Option Ω) (n : Nat) (sp : Nat → Nat → Int) (out : List Int) (i w : Int) (a b c d e f g l : Int) :
    sxI it E35 A35 K35_5 1 ⟨T35 i [(6, U w)], H35 n sp out a b c d e f g l⟩ K =
    br (inB i n) (br (sp (Int.toNat i) 0 == 3) (K .norm (SS.mk [(1, .ptr 0 0), (3, .own 4), (4, .own 6), (5, I i), (6, U 1048576)] [.cells 24 [I a, I b, I c, I d, I e, I f, I g, U l], .dead, .dead, .dead, .row 105 3 n fun i j => DV.v (Value.int .i64 (sp i j)), .dead, .rowi 22 .u64 out])) (K .norm (SS.mk [(1, .ptr 0 0), (3, .own 4), (4, .own 6), (5, I i), (6, U w)] [.cells 24 [I a, I b, I c, I d, I e, I f, I g, U l], .dead, .dead, .dead, .row 105 3 n fun i j => DV.v (Value.int .i64 (sp i j)), .dead, .rowi 22 .u64 out]))) none := by kernel_rfl
theorem f4 {Ω : Type} (it : Itr Ω) (K : SE → SS → Option Ω) (n : Nat) (sp : Nat → Nat → Int) (out : List Int) (i w : Int) (a b c d e f g l : Int) :
    sxI it E35 A35 K35_4 1 ⟨T35 i [(6, U w)], H35 n sp out a b c d e f g l⟩ K =
    br (inB i n) (br (sp (Int.toNat i) 0 == 4) (br (inB i n) (br (decide (sp (Int.toNat i) 1 < IntKind.wrap .i64 (e - 1))) (br (inB i n) (K .norm (SS.mk [(1, .ptr 0 0), (3, .own 4), (4, .own 6), (5, I i), (6, U (IntKind.wrap .u64 (IntKind.wrap .u64 (sp (Int.toNat i) 1) + 2)))] [.cells 24 [I a, I b, I c, I d, I e, I f, I g, U l], .dead, .dead, .dead, .row 105 3 n fun i j => DV.v (Value.int .i64 (sp i j)), .dead, .rowi 22 .u64 out])) none) (K .norm (SS.mk [(1, .ptr 0 0), (3, .own 4), (4, .own 6), (5, I i), (6, U w)] [.cells 24 [I a, I b, I c, I d, I e, I f, I g, U l], .dead, .dead, .dead, .row 105 3 n fun i j => DV.v (Value.int .i64 (sp i j)), .dead, .rowi 22 .u64 out]))) none) (K .norm (SS.mk [(1, .ptr 0 0), (3, .own 4), (4, .own 6), (5, I i), (6, U w)] [.cells 24 [I a, I b, I c, I d, I e, I f, I g, U l], .dead, .dead, .dead, .row 105 3 n fun i j => DV.v (Value.int .i64 (sp i j)), .dead, .rowi 22 .u64 out]))) none := by kernel_rfl
theorem f3 {Ω : Type} (it : Itr Ω) (IT : SS → Option Ω) (K : SE → SS → Option Ω) (n : Nat) (sp : Nat → Nat → Int) (out : List Int) (i w : Int) (a b c d e f g l : Int) :
    sxI it E35 A35 K35_3 1 ⟨T35 i [(6, U w)], H35 n sp out a b c d e f g l⟩ (kblk 1 (kseq it E35 A35 K35_2 0 (kitV [1, 3, 4, 5] 5 IT K))) =
    br (fits (List.length out + 1) 8) (IT (SS.mk [(1, .ptr 0 0), (3, .own 4), (4, .own 6), (5, I (IntKind.wrap .i64 (i + 1)))] [.cells 24 [I a, I b, I c, I d, I e, I f, I g, U l], .dead, .dead, .dead, .row 105 3 n fun i j => DV.v (Value.int .i64 (sp i j)), .dead, .rowi 22 .u64 (out ++ [w])])) none := by kernel_rfl
theorem fE {Ω : Type} (it : Itr Ω) (K : SV → SH → Option Ω) (n : Nat) (sp : Nat → Nat → Int) (out : List Int) (i : Int) (a b c d e f g l : Int) :
    Z35_10 it K (.exit 0) ⟨T35 i [], H35 n sp out a b c d e f g l⟩ =
    K (.own 6) [.cells 24 [I a, I b, I c, I d, I e, I f, I g, U l], .dead, .dead, .dead, .row 105 3 n fun i j => DV.v (Value.int .i64 (sp i j)), .dead, .rowi 22 .u64 out] := by kernel_rfl

section
variable {Ω : Type} (it : Itr Ω) (K : SE → SS → Option Ω) (n : Nat) (sp : Nat → Nat → Int) (out : List Int) (i w : Int) (a b c d e f g l : Int)
abbrev S35w (n : Nat) (sp : Nat → Nat → Int) (out : List Int) (i w : Int) (a b c d e f g l : Int) : SS := ⟨T35 i [(6, U w)], H35 n sp out a b c d e f g l⟩

theorem f7' (hb : inB i n = true) : sxI it E35 A35 K35_7 1 (S35w n sp out i w a b c d e f g l) K = K .norm (S35w n sp out i (bif (sp i.toNat 0 == 0) && (sp i.toNat 1 == 0) then 2 else w) a b c d e f g l) := by
  rw [f7]
  simp only [hb, br_t]
  cases (sp i.toNat 0 == 0) <;> cases (sp i.toNat 1 == 0) <;> simp only [br_t, br_f, Bool.and_true, Bool.and_false, cond_true, cond_false] <;> rfl
theorem f6' (hb : inB i n = true) : sxI it E35 A35 K35_6 1 (S35w n sp out i w a b c d e f g l) K = K .norm (S35w n sp out i (bif (sp i.toNat 0 == 0) && (sp i.toNat 1 == 2) then 1 else w) a b c d e f g l) := by
  rw [f6]
  simp only [hb, br_t]
  cases (sp i.toNat 0 == 0) <;> cases (sp i.toNat 1 == 2) <;> simp only [br_t, br_f, Bool.and_true, Bool.and_false, cond_true, cond_false] <;> rfl
theorem f5' (hb : inB i n = true) : sxI it E35 A35 K35_5 1 (S35w n sp out i w a b c d e f g l) K = K .norm (S35w n sp out i (bif (sp i.toNat 0 == 3) then 1048576 else w) a b c d e f g l) := by
  rw [f5]
  simp only [hb, br_t]
  cases (sp i.toNat 0 == 3) <;> simp only [br_t, br_f, cond_true, cond_false] <;> rfl
theorem f4' (hb : inB i n = true) : sxI it E35 A35 K35_4 1 (S35w n sp out i w a b c d e f g l) K = K .norm (S35w n sp out i (bif (sp i.toNat 0 == 4) && decide (sp i.toNat 1 < IntKind.wrap .i64 (e - 1)) then IntKind.wrap .u64 (IntKind.wrap .u64 (sp i.toNat 1) + 2) else w) a b c d e f g l) := by
  rw [f4]
  simp only [hb, br_t]
  cases (sp i.toNat 0 == 4) <;> cases decide (sp i.toNat 1 < IntKind.wrap .i64 (e - 1)) <;> simp only [br_t, br_f, Bool.and_true, Bool.and_false, cond_true, cond_false] <;> rfl

/-- The word that goes with a place. -/
def wsel (s0 s1 e : Int) : Int :=
  bif (s0 == 4) && decide (s1 < IntKind.wrap .i64 (e - 1)) then IntKind.wrap .u64 (IntKind.wrap .u64 s1 + 2) else
  bif s0 == 3 then 1048576 else bif (s0 == 0) && (s1 == 2) then 1 else bif (s0 == 0) && (s1 == 0) then 2 else 0

theorem round35 (IT : SS → Option Ω) (KK : SV → SH → Option Ω) (hi : decide (i < (n : Int)) = true) (hb : inB i n = true) (hf : fits (out.length + 1) 8 = true) : sxI it E35 A35 L35_10 0 ⟨T35 i [], H35 n sp out a b c d e f g l⟩ (kitV [1, 3, 4, 5] 5 IT (Z35_10 it KK)) =
    IT ⟨T35 (IntKind.wrap .i64 (i + 1)) [], H35 n sp (out ++ [wsel (sp i.toNat 0) (sp i.toNat 1) e]) a b c d e f g l⟩ := by
  rw [show L35_10 = CC.seq K35_9 (.seq (.block 1 (.seq K35_8 (.seq K35_7 (.seq K35_6 (.seq K35_5 (.seq K35_4 K35_3)))))) K35_2) from rfl]
  rw [sxI_seq, f9, hi, br_t, kseq_norm, sxI_seq, sxI_block, sxI_seq, f8, kseq_norm, sxI_seq, f7' _ _ _ _ _ _ _ _ _ _ _ _ _ _ _ hb, kseq_norm, sxI_seq, f6' _ _ _ _ _ _ _ _ _ _ _ _ _ _ _ hb, kseq_norm, sxI_seq, f5' _ _ _ _ _ _ _ _ _ _ _ _ _ _ _ hb, kseq_norm, sxI_seq, f4' _ _ _ _ _ _ _ _ _ _ _ _ _ _ _ hb, kseq_norm, f3, hf, br_t]
  rfl
end

theorem wsel_fpart {A Bn D E i : Nat} (hE : 1 ≤ E) (hE2 : E ≤ 32) : wsel (spot A Bn D E i 0) (spot A Bn D E i 1) E = fpart (3 + A + Bn) E E i := by
  have hw : IntKind.wrap .i64 ((E : Int) - 1) = (E : Int) - 1 := by rw [w64] <;> omega
  unfold wsel
  rw [hw]
  unfold spot spotL fpart
  by_cases h1 : i < 3
  · rw [if_pos h1]
    match i, h1 with
    | 0, _ => simp
    | 1, _ => simp; omega
    | 2, _ => simp
  · rw [if_neg h1, if_neg (show ¬ i = 0 by omega), if_neg (show ¬ i = 2 by omega)]
    by_cases h2 : i < 3 + A
    · rw [if_pos h2, if_neg (show ¬ (3 + A + Bn ≤ i ∧ i < 3 + A + Bn + 2 * E) by omega)]; simp
    · rw [if_neg h2]
      by_cases h3 : i < 3 + A + Bn
      · rw [if_pos h3, if_neg (show ¬ (3 + A + Bn ≤ i ∧ i < 3 + A + Bn + 2 * E) by omega)]; simp
      · rw [if_neg h3]
        by_cases h4 : i < 3 + A + Bn + 2 * E
        · rw [if_pos h4, if_pos (show 3 + A + Bn ≤ i ∧ i < 3 + A + Bn + 2 * E from ⟨by omega, h4⟩)]
          rcases Nat.mod_two_eq_zero_or_one (i - (3 + A + Bn)) with h5 | h5
          · rw [h5]; simp
          · rw [h5]
            simp only [List.getD_cons_zero, List.getD_cons_succ]
            by_cases h6 : (i - (3 + A + Bn)) / 2 + 1 < E
            · have e1 : decide ((((i - (3 + A + Bn)) / 2 : Nat) : Int) < (E : Int) - 1) = true := by simp; omega
              have e2 : IntKind.wrap .u64 (((i - (3 + A + Bn)) / 2 : Nat) : Int) = (((i - (3 + A + Bn)) / 2 : Nat) : Int) := by rw [IntKind.wrap_u64]; omega
              have e3 : IntKind.wrap .u64 ((((i - (3 + A + Bn)) / 2 : Nat) : Int) + 2) = (((i - (3 + A + Bn)) / 2 + 2 : Nat) : Int) := by rw [IntKind.wrap_u64]; omega
              rw [e1, e2, e3, if_pos h6]; simp
            · have e1 : decide ((((i - (3 + A + Bn)) / 2 : Nat) : Int) < (E : Int) - 1) = false := by simp; omega
              rw [e1, if_neg h6]; simp
        · rw [if_neg h4, if_neg (show ¬ (3 + A + Bn ≤ i ∧ i < 3 + A + Bn + 2 * E) by omega)]
          by_cases h5 : (i - (3 + A + Bn + 2 * E)) % (1 + D) = 0
          · rw [if_pos h5]; simp
          · rw [if_neg h5]; simp

theorem v35 {a b c d e f g l : Int} (h : chk a b c d e f g l = 0) : ∃ H, sxFn E35 A35 C35 [cfgS a b c d e f g l] [] KS = some (.own 6, H) ∧ trim 0 (.own 6) [] H =
    [.dead, .dead, .dead, .dead, .dead, .dead, .rowi 22 .u64 (fl (sizeN a.toNat b.toNat c.toNat d.toNat e.toNat) (3 + a.toNat + b.toNat) e.toNat e.toNat)] := by
  have hc' : (chk a b c d e f g l == 0) = true := by simp [h]
  obtain ⟨⟨a1, a2⟩, ⟨b1, b2⟩, ⟨c1, c2⟩, ⟨g1, g2⟩, ⟨e1, e2⟩, _⟩ := chk_zero h
  obtain ⟨A, rfl⟩ := Int.eq_ofNat_of_zero_le (show 0 ≤ a by omega)
  obtain ⟨Bn, rfl⟩ := Int.eq_ofNat_of_zero_le (show 0 ≤ b by omega)
  obtain ⟨Cn, rfl⟩ := Int.eq_ofNat_of_zero_le (show 0 ≤ c by omega)
  obtain ⟨Dn, rfl⟩ := Int.eq_ofNat_of_zero_le (show 0 ≤ d by omega)
  obtain ⟨En, rfl⟩ := Int.eq_ofNat_of_zero_le (show 0 ≤ e by omega)
  have hBC : Bn * Cn ≤ 8 * 16 := Nat.mul_le_mul (by omega) (by omega)
  have hP : (1 + Dn) * (Bn * Cn) ≤ 5 * 128 := Nat.mul_le_mul (by omega) (by omega)
  have hn1 : 3 ≤ sizeN A Bn Cn Dn En := by unfold sizeN; omega
  have hn2 : sizeN A Bn Cn Dn En ≤ 1000 := by unfold sizeN; omega
  simp only [Int.toNat_natCast]
  generalize hN : sizeN A Bn Cn Dn En = N at *
  refine ⟨H35 N (spot A Bn Dn En) (fl N (3 + A + Bn) En En) A Bn Cn Dn En f g l, ?_, by kernel_rfl⟩
  rw [← sxFnI_eq, m35, hc']
  simp only [Bool.not_true, br_f, br_t, Int.toNat_natCast, hN]
  obtain ⟨M, hM, h2⟩ := itB_first (f := sxI itB E35 A35 L35_10 0) (lv := [1, 3, 4, 5]) (n0 := 5) (k := Z35_10 itB KS) (s := S35z N (spot A Bn Dn En) 0 A Bn Cn Dn En f g l)
  rw [h2, m35_0]
  have s0 : spot A Bn Dn En 0 0 = 0 := rfl
  have s1 : spot A Bn Dn En 0 1 = 0 := rfl
  have s1' : spot A Bn Dn En (Int.toNat 0) 1 = 0 := rfl
  have hb : inB 0 N = true := by simp [inB]; omega
  have q1 : decide (0 < (N : Int)) = true := by simp; omega
  simp only [s0, s1, s1', hb, q1, br_t]
  have z0 : ((0 : Int) == 0) = true := rfl
  have z2 : ((0 : Int) == 2) = false := rfl
  have z3 : ((0 : Int) == 3) = false := rfl
  have z4 : ((0 : Int) == 4) = false := rfl
  simp only [z0, z2, z3, z4, br_t, br_f]
  obtain ⟨n, hn⟩ := loop_n (f := sxI itB E35 A35 L35_10 0) (lv := [1, 3, 4, 5]) (n0 := 5) (k := Z35_10 itB KS) (fun i => ⟨T35 ((i + 1 : Nat) : Int) [], H35 N (spot A Bn Dn En) (fl (i + 1) (3 + A + Bn) En En) A Bn Cn Dn En f g l⟩) M (N - 1) (by omega) (fun i hi I => by
    rw [round35 _ _ _ _ _ _ _ _ _ _ _ _ _ _ _ (by simp; omega) (by simp [inB]; omega) (by rw [fl_length]; exact fits_of (by omega)), w64 (by omega) (by omega), Int.toNat_natCast, wsel_fpart (by omega) (by omega)]
    have : fl (i + 1) (3 + A + Bn) En En ++ [fpart (3 + A + Bn) En En (i + 1)] = fl (i + 1 + 1) (3 + A + Bn) En En := by simp [fl, List.range_succ]
    rw [this]
    rfl)
  refine Eq.trans hn ?_
  rw [show N - 1 + 1 = N by omega]
  rw [show L35_10 = CC.seq K35_9 (.seq (.block 1 (.seq K35_8 (.seq K35_7 (.seq K35_6 (.seq K35_5 (.seq K35_4 K35_3)))))) K35_2) from rfl]
  rw [sxI_seq, f9, decide_eq_false (by omega), br_f, kseq_exit]
  exact fE itB KS N (spot A Bn Dn En) (fl N (3 + A + Bn) En En) N A Bn Cn Dn En f g l

def FFirst2 : List (List Int) → List (Bool × SV × SH)
  | [[a, b, c, d, e, f, g, l]] => [(!(chk a b c d e f g l == 0), .d (.v (.slice none 0 0)), []), (true, .own 6, [.dead, .dead, .dead, .dead, .dead, .dead, .rowi 22 .u64 (fl (sizeN a.toNat b.toNat c.toNat d.toNat e.toNat) (3 + a.toNat + b.toNat) e.toNat e.toNat)])]
  | _ => []

theorem v35' {a b c d e f g l : Int} (h : ¬ chk a b c d e f g l = 0) : ∃ H, sxFn E35 A35 C35 [cfgS a b c d e f g l] [] KS = some (.d (.v (.slice none 0 0)), H) := by
  have hc' : (chk a b c d e f g l == 0) = false := by simp [h]
  rw [← sxFnI_eq, m35, hc']
  simp only [Bool.not_false, br_t]
  exact ⟨_, rfl⟩

def S35 {Ω : Type} : Spec Ω := conSpecL [.g cfgK] FFirst2
theorem g35 : Good1 Try.prog 35 S35 := conGoodL Try.func35 (by kernel_rfl) c35 e35 mix (A := A35) fun L r hr hl hF => by
  obtain ⟨x, rfl, hx⟩ := lenAs_one hl
  obtain ⟨a, b, c, d, e, f, g, i, rfl⟩ := eight hx
  simp only [FFirst2, firstAlt] at hF
  by_cases h : chk a b c d e f g i = 0
  · have hc' : (chk a b c d e f g i == 0) = true := by simp [h]
    rw [hc'] at hF
    simp only [Bool.not_true, cond_false, cond_true, Option.some.injEq, Prod.mk.injEq] at hF
    obtain ⟨rfl, rfl⟩ := hF
    obtain ⟨H, h1, h2⟩ := v35 h
    exact ⟨trivial, ⟨trivial, trivial, trivial, trivial, trivial, trivial, trivial, trivial⟩, _, H, RowEq.refl _, h2, h1⟩
  · have hc' : (chk a b c d e f g i == 0) = false := by simp [h]
    rw [hc'] at hF
    simp only [Bool.not_false, cond_true, Option.some.injEq, Prod.mk.injEq] at hF
    obtain ⟨rfl, rfl⟩ := hF
    obtain ⟨H, hH⟩ := v35' h
    exact ⟨trivial, trivial, _, H, RowEq.refl _, trim_none rfl _, hH⟩
end Go.Sx.Pr
