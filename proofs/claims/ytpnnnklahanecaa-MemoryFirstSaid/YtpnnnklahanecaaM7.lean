/- MemoryFirst: the law answers true. -/
import Derived.Test.YtpnnnklahanecaaM6
namespace Go.Sx.Pr
open Go Go.Sx Go.Proofs
set_option maxRecDepth 100000
set_option linter.unusedVariables false

theorem sxFnI_start {Ω : Type} {it : Itr Ω} {env : Env Ω} {A : Ann} {C : CF} {args : List SV} {h : SH} {K : SV → SH → Option Ω} (hn : Nat.beq args.length C.np = true) : sxFnI it env A C args h K = sxI it env A C.code 0 ⟨number args 0, h⟩ (kfn C K) := by
  unfold sxFnI
  rw [hn, cond_true]

/-- True, with some heap. -/
def Tru (o : Option (SV × SH)) : Prop := ∃ H, o = some (B true, H)

theorem Tru.br {b : Bool} {x y : Option (SV × SH)} (h1 : b = true → Tru x) (h2 : b = false → Tru y) : Tru (br b x y) := by
  cases b with
  | true => exact h1 rfl
  | false => exact h2 rfl

abbrev FL (a b c d e : Int) : List Int := fl (sizeN (Int.toNat a) (Int.toNat b) (Int.toNat c) (Int.toNat d) (Int.toNat e)) (3 + Int.toNat a + Int.toNat b) (Int.toNat e) (Int.toNat e)
abbrev TF (a b c d e f g l : Int) (at' x : Int) (r : List (Nat × SV)) : List (Nat × SV) := (0, cfgS a b c d e f g l) :: (1, I at') :: (2, U x) :: (3, .ptr 0 0) :: (6, B false) :: r
abbrev HN (a b c d e f g l : Int) (ws : List Int) : SH := [CFG a b c d e f g l, .dead, .dead, .dead, .dead, .dead, .dead, .rowi 22 .u64 ws, .cells 51 [I a, I b, I c, I d, I e, I f, I g, U l, I 0, I 0, U 0, U 0, U 0, .own 7]]
theorem h12 {Ω : Type} (it : Itr Ω) (K : SE → SS → Option Ω) (a b c d e f g l at' x : Int) :
    sxI it E4 A4 K4_12 0 ⟨[(0, cfgS a b c d e f g l), (1, I at'), (2, U x)], []⟩ K =
    K .norm (SS.mk [(0, .agg [I a, I b, I c, I d, I e, I f, I g, U l]), (1, I at'), (2, U x), (3, .ptr 0 0), (6, B false)] [.cells 24 [I a, I b, I c, I d, I e, I f, I g, U l]]) := by kernel_rfl
theorem h11 {Ω : Type} (it : Itr Ω) (K : SE → SS → Option Ω) (a b c d e f g l at' x : Int) :
    sxI it E4 A4 K4_11 0 ⟨TF a b c d e f g l at' x [], [CFG a b c d e f g l]⟩ K =
    K .norm (SS.mk [(0, .agg [I a, I b, I c, I d, I e, I f, I g, U l]), (1, I at'), (2, U x), (3, .ptr 0 0), (6, B false)] [.cells 24 [I a, I b, I c, I d, I e, I f, I g, U l]]) := by kernel_rfl
theorem h10 {Ω : Type} (it : Itr Ω) (K : SE → SS → Option Ω) (a b c d e f g l at' x : Int) :
    sxI it E4 A4 K4_10 0 ⟨TF a b c d e f g l at' x [], [CFG a b c d e f g l]⟩ K =
    br (!chk a b c d e f g l == 0) (br (!chk a b c d e f g l == 0) (br (!chk a b c d e f g l == 0) (K .norm (SS.mk [(0, .agg [I a, I b, I c, I d, I e, I f, I g, U l]), (1, I at'), (2, U x), (3, .ptr 0 0), (6, B false), (7, .d (DV.v (Value.pointer none))), (8, I (chk a b c d e f g l))] [.cells 24 [I a, I b, I c, I d, I e, I f, I g, U l]])) (K .norm (SS.mk [(0, .agg [I a, I b, I c, I d, I e, I f, I g, U l]), (1, I at'), (2, U x), (3, .ptr 0 0), (6, B false), (7, .ptr 5 0), (8, I 0)] [.cells 24 [I a, I b, I c, I d, I e, I f, I g, U l], .dead, .dead, .dead, .rowi 22 .u64 [], .cells 51 [I 0, I 0, I 0, I 0, I 0, I 0, I 0, U 0, I 0, I 0, U 0, U 0, U 0, .own 4]]))) (br (!0 == szZ a b c d e f g l) (K .norm (SS.mk [(0, .agg [I a, I b, I c, I d, I e, I f, I g, U l]), (1, I at'), (2, U x), (3, .ptr 0 0), (6, B false), (7, .d (DV.v (Value.pointer none))), (8, I 3)] [.cells 24 [I a, I b, I c, I d, I e, I f, I g, U l]])) (K .norm (SS.mk [(0, .agg [I a, I b, I c, I d, I e, I f, I g, U l]), (1, I at'), (2, U x), (3, .ptr 0 0), (6, B false), (7, .ptr 5 0), (8, I 0)] [.cells 24 [I a, I b, I c, I d, I e, I f, I g, U l], .dead, .dead, .dead, .rowi 22 .u64 [], .cells 51 [I a, I b, I c, I d, I e, I f, I g, U l, I 0, I 0, U 0, U 0, U 0, .own 4]])))) (br (!chk a b c d e f g l == 0) (br (!chk a b c d e f g l == 0) (K .norm (SS.mk [(0, .agg [I a, I b, I c, I d, I e, I f, I g, U l]), (1, I at'), (2, U x), (3, .ptr 0 0), (6, B false), (7, .d (DV.v (Value.pointer none))), (8, I (chk a b c d e f g l))] [.cells 24 [I a, I b, I c, I d, I e, I f, I g, U l]])) (br (!(↑(List.length (fl (sizeN (Int.toNat a) (Int.toNat b) (Int.toNat c) (Int.toNat d) (Int.toNat e)) (3 + Int.toNat a + Int.toNat b) (Int.toNat e) (Int.toNat e))) : Int) == 0) (K .norm (SS.mk [(0, .agg [I a, I b, I c, I d, I e, I f, I g, U l]), (1, I at'), (2, U x), (3, .ptr 0 0), (6, B false), (7, .d (DV.v (Value.pointer none))), (8, I 3)] [.cells 24 [I a, I b, I c, I d, I e, I f, I g, U l]])) (br (fits (List.length (fl (sizeN (Int.toNat a) (Int.toNat b) (Int.toNat c) (Int.toNat d) (Int.toNat e)) (3 + Int.toNat a + Int.toNat b) (Int.toNat e) (Int.toNat e))) 8) (K .norm (SS.mk [(0, .agg [I a, I b, I c, I d, I e, I f, I g, U l]), (1, I at'), (2, U x), (3, .ptr 0 0), (6, B false), (7, .ptr 8 0), (8, I 0)] [.cells 24 [I a, I b, I c, I d, I e, I f, I g, U l], .dead, .dead, .dead, .dead, .dead, .dead, .rowi 22 .u64 (fl (sizeN (Int.toNat a) (Int.toNat b) (Int.toNat c) (Int.toNat d) (Int.toNat e)) (3 + Int.toNat a + Int.toNat b) (Int.toNat e) (Int.toNat e)), .cells 51 [I 0, I 0, I 0, I 0, I 0, I 0, I 0, U 0, I 0, I 0, U 0, U 0, U 0, .own 7]])) none))) (br (!(↑(List.length (fl (sizeN (Int.toNat a) (Int.toNat b) (Int.toNat c) (Int.toNat d) (Int.toNat e)) (3 + Int.toNat a + Int.toNat b) (Int.toNat e) (Int.toNat e))) : Int) == szZ a b c d e f g l) (K .norm (SS.mk [(0, .agg [I a, I b, I c, I d, I e, I f, I g, U l]), (1, I at'), (2, U x), (3, .ptr 0 0), (6, B false), (7, .d (DV.v (Value.pointer none))), (8, I 3)] [.cells 24 [I a, I b, I c, I d, I e, I f, I g, U l]])) (br (fits (List.length (fl (sizeN (Int.toNat a) (Int.toNat b) (Int.toNat c) (Int.toNat d) (Int.toNat e)) (3 + Int.toNat a + Int.toNat b) (Int.toNat e) (Int.toNat e))) 8) (K .norm (SS.mk [(0, .agg [I a, I b, I c, I d, I e, I f, I g, U l]), (1, I at'), (2, U x), (3, .ptr 0 0), (6, B false), (7, .ptr 8 0), (8, I 0)] [.cells 24 [I a, I b, I c, I d, I e, I f, I g, U l], .dead, .dead, .dead, .dead, .dead, .dead, .rowi 22 .u64 (fl (sizeN (Int.toNat a) (Int.toNat b) (Int.toNat c) (Int.toNat d) (Int.toNat e)) (3 + Int.toNat a + Int.toNat b) (Int.toNat e) (Int.toNat e)), .cells 51 [I a, I b, I c, I d, I e, I f, I g, U l, I 0, I 0, U 0, U 0, U 0, .own 7]])) none))) := by kernel_rfl
theorem h9A {Ω : Type} (it : Itr Ω) (K : SE → SS → Option Ω) (a b c d e f g l at' x q : Int) :
    sxI it E4 A4 K4_9 0 ⟨TF a b c d e f g l at' x [(7, .d (.v (.pointer none))), (8, I q)], [CFG a b c d e f g l]⟩ K =
    K .norm (SS.mk [(0, .agg [I a, I b, I c, I d, I e, I f, I g, U l]), (1, I at'), (2, U x), (3, .ptr 0 0), (6, B false), (7, .d (DV.v (Value.pointer none))), (8, I q), (9, I (chk a b c d e f g l))] [.cells 24 [I a, I b, I c, I d, I e, I f, I g, U l]]) := by kernel_rfl
theorem h8A {Ω : Type} (it : Itr Ω) (K : SE → SS → Option Ω) (a b c d e f g l at' x q q2 : Int) :
    sxI it E4 A4 K4_8 0 ⟨TF a b c d e f g l at' x [(7, .d (.v (.pointer none))), (8, I q), (9, I q2)], [CFG a b c d e f g l]⟩ K =
    br (!q == q2) (K .ret (SS.mk [(0, .agg [I a, I b, I c, I d, I e, I f, I g, U l]), (1, I at'), (2, U x), (3, .ptr 0 0), (6, B false), (7, .d (DV.v (Value.pointer none))), (8, I q), (9, I q2)] [.cells 24 [I a, I b, I c, I d, I e, I f, I g, U l]])) (br (!true == !q2 == 0) (K .ret (SS.mk [(0, .agg [I a, I b, I c, I d, I e, I f, I g, U l]), (1, I at'), (2, U x), (3, .ptr 0 0), (6, B false), (7, .d (DV.v (Value.pointer none))), (8, I q), (9, I q2)] [.cells 24 [I a, I b, I c, I d, I e, I f, I g, U l]])) (K .norm (SS.mk [(0, .agg [I a, I b, I c, I d, I e, I f, I g, U l]), (1, I at'), (2, U x), (3, .ptr 0 0), (6, B false), (7, .d (DV.v (Value.pointer none))), (8, I q), (9, I q2)] [.cells 24 [I a, I b, I c, I d, I e, I f, I g, U l]]))) := by kernel_rfl
theorem h7A {Ω : Type} (it : Itr Ω) (K : SE → SS → Option Ω) (a b c d e f g l at' x q q2 : Int) :
    sxI it E4 A4 (.seq K4_7 K4_6) 0 ⟨TF a b c d e f g l at' x [(7, .d (.v (.pointer none))), (8, I q), (9, I q2)], [CFG a b c d e f g l]⟩ K =
    br (q2 == 0) (br (!chk a b c d e f g l == 0) none (br (!decide ([] = fl (sizeN (Int.toNat a) (Int.toNat b) (Int.toNat c) (Int.toNat d) (Int.toNat e)) (3 + Int.toNat a + Int.toNat b) (Int.toNat e) (Int.toNat e))) (K .ret (SS.mk [(0, .agg [I a, I b, I c, I d, I e, I f, I g, U l]), (1, I at'), (2, U x), (3, .ptr 0 0), (6, B false), (7, .d (DV.v (Value.pointer none))), (8, I q), (9, I q2)] [.cells 24 [I a, I b, I c, I d, I e, I f, I g, U l], .dead, .dead, .dead, .dead, .dead, .dead, .rowi 22 .u64 (fl (sizeN (Int.toNat a) (Int.toNat b) (Int.toNat c) (Int.toNat d) (Int.toNat e)) (3 + Int.toNat a + Int.toNat b) (Int.toNat e) (Int.toNat e))])) none)) (K .norm (SS.mk [(0, .agg [I a, I b, I c, I d, I e, I f, I g, U l]), (1, I at'), (2, U x), (3, .ptr 0 0), (6, B false), (7, .d (DV.v (Value.pointer none))), (8, I q), (9, I q2)] [.cells 24 [I a, I b, I c, I d, I e, I f, I g, U l]])) := by kernel_rfl
theorem h5A {Ω : Type} (it : Itr Ω) (K : SV → SH → Option Ω) (a b c d e f g l at' x q q2 : Int) :
    sxI it E4 A4 (.seq K4_5 (.seq K4_4 (.seq K4_3 (.seq K4_2 K4_1)))) 0 ⟨TF a b c d e f g l at' x [(7, .d (.v (.pointer none))), (8, I q), (9, I q2)], [CFG a b c d e f g l]⟩ (kfn C4 K) =
    K (B true) [.cells 24 [I a, I b, I c, I d, I e, I f, I g, U l]] := by kernel_rfl
theorem h9C {Ω : Type} (it : Itr Ω) (K : SE → SS → Option Ω) (a b c d e f g l at' x q : Int) (ws : List Int) :
    sxI it E4 A4 K4_9 0 ⟨TF a b c d e f g l at' x [(7, .ptr 8 0), (8, I q)], HN a b c d e f g l ws⟩ K =
    K .norm (SS.mk [(0, .agg [I a, I b, I c, I d, I e, I f, I g, U l]), (1, I at'), (2, U x), (3, .ptr 0 0), (6, B false), (7, .ptr 8 0), (8, I q), (9, I (chk a b c d e f g l))] [.cells 24 [I a, I b, I c, I d, I e, I f, I g, U l], .dead, .dead, .dead, .dead, .dead, .dead, .rowi 22 .u64 ws, .cells 51 [I a, I b, I c, I d, I e, I f, I g, U l, I 0, I 0, U 0, U 0, U 0, .own 7]]) := by kernel_rfl
theorem h8C {Ω : Type} (it : Itr Ω) (K : SE → SS → Option Ω) (a b c d e f g l at' x q q2 : Int) (ws : List Int) :
    sxI it E4 A4 K4_8 0 ⟨TF a b c d e f g l at' x [(7, .ptr 8 0), (8, I q), (9, I q2)], HN a b c d e f g l ws⟩ K =
    br (!q == q2) (K .ret (SS.mk [(0, .agg [I a, I b, I c, I d, I e, I f, I g, U l]), (1, I at'), (2, U x), (3, .ptr 0 0), (6, B false), (7, .ptr 8 0), (8, I q), (9, I q2)] [.cells 24 [I a, I b, I c, I d, I e, I f, I g, U l], .dead, .dead, .dead, .dead, .dead, .dead, .rowi 22 .u64 ws, .cells 51 [I a, I b, I c, I d, I e, I f, I g, U l, I 0, I 0, U 0, U 0, U 0, .own 7]])) (br (!false == !q2 == 0) (K .ret (SS.mk [(0, .agg [I a, I b, I c, I d, I e, I f, I g, U l]), (1, I at'), (2, U x), (3, .ptr 0 0), (6, B false), (7, .ptr 8 0), (8, I q), (9, I q2)] [.cells 24 [I a, I b, I c, I d, I e, I f, I g, U l], .dead, .dead, .dead, .dead, .dead, .dead, .rowi 22 .u64 ws, .cells 51 [I a, I b, I c, I d, I e, I f, I g, U l, I 0, I 0, U 0, U 0, U 0, .own 7]])) (K .norm (SS.mk [(0, .agg [I a, I b, I c, I d, I e, I f, I g, U l]), (1, I at'), (2, U x), (3, .ptr 0 0), (6, B false), (7, .ptr 8 0), (8, I q), (9, I q2)] [.cells 24 [I a, I b, I c, I d, I e, I f, I g, U l], .dead, .dead, .dead, .dead, .dead, .dead, .rowi 22 .u64 ws, .cells 51 [I a, I b, I c, I d, I e, I f, I g, U l, I 0, I 0, U 0, U 0, U 0, .own 7]]))) := by kernel_rfl
theorem h7C {Ω : Type} (it : Itr Ω) (K : SE → SS → Option Ω) (a b c d e f g l at' x q q2 : Int) (ws : List Int) :
    sxI it E4 A4 (.seq K4_7 K4_6) 0 ⟨TF a b c d e f g l at' x [(7, .ptr 8 0), (8, I q), (9, I q2)], HN a b c d e f g l ws⟩ K =
    br (q2 == 0) (br (fits (List.length ws) 8) (br (!chk a b c d e f g l == 0) (br (decide (List.length ws < 1000000000)) (br (!decide (ws = [])) (K .ret (SS.mk [(0, .agg [I a, I b, I c, I d, I e, I f, I g, U l]), (1, I at'), (2, U x), (3, .ptr 0 0), (6, B false), (7, .ptr 8 0), (8, I q), (9, I q2)] [.cells 24 [I a, I b, I c, I d, I e, I f, I g, U l], .dead, .dead, .dead, .dead, .dead, .dead, .rowi 22 .u64 ws, .cells 51 [I a, I b, I c, I d, I e, I f, I g, U l, I 0, I 0, U 0, U 0, U 0, .own 7], .rowi 22 .u64 ws])) (K .norm (SS.mk [(0, .agg [I a, I b, I c, I d, I e, I f, I g, U l]), (1, I at'), (2, U x), (3, .ptr 0 0), (6, B false), (7, .ptr 8 0), (8, I q), (9, I q2)] [.cells 24 [I a, I b, I c, I d, I e, I f, I g, U l], .dead, .dead, .dead, .dead, .dead, .dead, .rowi 22 .u64 ws, .cells 51 [I a, I b, I c, I d, I e, I f, I g, U l, I 0, I 0, U 0, U 0, U 0, .own 7], .rowi 22 .u64 ws]))) none) (br (decide (List.length ws < 1000000000)) (br (!decide (ws = fl (sizeN (Int.toNat a) (Int.toNat b) (Int.toNat c) (Int.toNat d) (Int.toNat e)) (3 + Int.toNat a + Int.toNat b) (Int.toNat e) (Int.toNat e))) (K .ret (SS.mk [(0, .agg [I a, I b, I c, I d, I e, I f, I g, U l]), (1, I at'), (2, U x), (3, .ptr 0 0), (6, B false), (7, .ptr 8 0), (8, I q), (9, I q2)] [.cells 24 [I a, I b, I c, I d, I e, I f, I g, U l], .dead, .dead, .dead, .dead, .dead, .dead, .rowi 22 .u64 ws, .cells 51 [I a, I b, I c, I d, I e, I f, I g, U l, I 0, I 0, U 0, U 0, U 0, .own 7], .rowi 22 .u64 ws, .dead, .dead, .dead, .dead, .dead, .dead, .rowi 22 .u64 (fl (sizeN (Int.toNat a) (Int.toNat b) (Int.toNat c) (Int.toNat d) (Int.toNat e)) (3 + Int.toNat a + Int.toNat b) (Int.toNat e) (Int.toNat e))])) (K .norm (SS.mk [(0, .agg [I a, I b, I c, I d, I e, I f, I g, U l]), (1, I at'), (2, U x), (3, .ptr 0 0), (6, B false), (7, .ptr 8 0), (8, I q), (9, I q2)] [.cells 24 [I a, I b, I c, I d, I e, I f, I g, U l], .dead, .dead, .dead, .dead, .dead, .dead, .rowi 22 .u64 ws, .cells 51 [I a, I b, I c, I d, I e, I f, I g, U l, I 0, I 0, U 0, U 0, U 0, .own 7], .rowi 22 .u64 ws, .dead, .dead, .dead, .dead, .dead, .dead, .rowi 22 .u64 (fl (sizeN (Int.toNat a) (Int.toNat b) (Int.toNat c) (Int.toNat d) (Int.toNat e)) (3 + Int.toNat a + Int.toNat b) (Int.toNat e) (Int.toNat e))]))) none)) none) (K .norm (SS.mk [(0, .agg [I a, I b, I c, I d, I e, I f, I g, U l]), (1, I at'), (2, U x), (3, .ptr 0 0), (6, B false), (7, .ptr 8 0), (8, I q), (9, I q2)] [.cells 24 [I a, I b, I c, I d, I e, I f, I g, U l], .dead, .dead, .dead, .dead, .dead, .dead, .rowi 22 .u64 ws, .cells 51 [I a, I b, I c, I d, I e, I f, I g, U l, I 0, I 0, U 0, U 0, U 0, .own 7]])) := by kernel_rfl
abbrev HF (a b c d e f g l : Int) (ws : List Int) : SH := [CFG a b c d e f g l, .dead, .dead, .dead, .dead, .dead, .dead, .rowi 22 .u64 ws, .cells 51 [I a, I b, I c, I d, I e, I f, I g, U l, I 0, I 0, U 0, U 0, U 0, .own 7], .rowi 22 .u64 ws, .dead, .dead, .dead, .dead, .dead, .dead, .rowi 22 .u64 ws]
theorem h5C {Ω : Type} (it : Itr Ω) (K : SV → SH → Option Ω) (a b c d e f g l at' x q q2 : Int) (ws : List Int) : sxI it E4 A4 (.seq K4_5 (.seq K4_4 (.seq K4_3 (.seq K4_2 K4_1)))) 0 ⟨TF a b c d e f g l at' x [(7, .ptr 8 0), (8, I q), (9, I q2)], HF a b c d e f g l ws⟩ (kfn C4 K) =
    K (B true) (HF a b c d e f g l ws) := by kernel_rfl

section
variable (a b c d e f g l at' x : Int)

theorem main4 : Tru (sxFn E4 A4 C4 [cfgS a b c d e f g l, I at', U x] [] KS) := by
  rw [← sxFnI_eq, sxFnI_start rfl]
  rw [show C4.code = CC.seq K4_12 (.seq K4_11 (.seq K4_10 (.seq K4_9 (.seq K4_8 (.seq (.seq K4_7 K4_6) (.seq K4_5 (.seq K4_4 (.seq K4_3 (.seq K4_2 K4_1))))))))) from rfl]
  rw [show number [cfgS a b c d e f g l, I at', U x] 0 = [(0, cfgS a b c d e f g l), (1, I at'), (2, U x)] from rfl]
  rw [sxI_seq, h12, kseq_norm, sxI_seq, h11, kseq_norm, sxI_seq, h10]
  by_cases hc : chk a b c d e f g l = 0
  · have hc' : (chk a b c d e f g l == 0) = true := by simp [hc]
    have hz : szZ a b c d e f g l = ((sizeN a.toNat b.toNat c.toNat d.toNat e.toNat : Nat) : Int) := by simp [szZ, hc]
    have hsz : sizeN a.toNat b.toNat c.toNat d.toNat e.toNat ≤ 1000 := by
      obtain ⟨⟨a1, a2⟩, ⟨b1, b2⟩, ⟨c1, c2⟩, ⟨g1, g2⟩, ⟨e1, e2⟩, _⟩ := chk_zero hc
      have hBC : b.toNat * c.toNat ≤ 8 * 16 := Nat.mul_le_mul (by omega) (by omega)
      have hP : (1 + d.toNat) * (b.toNat * c.toNat) ≤ 5 * 128 := Nat.mul_le_mul (by omega) (by omega)
      unfold sizeN; omega
    obtain ⟨ws, hws⟩ : ∃ ws, ws = fl (sizeN (Int.toNat a) (Int.toNat b) (Int.toNat c) (Int.toNat d) (Int.toNat e)) (3 + Int.toNat a + Int.toNat b) (Int.toNat e) (Int.toNat e) := ⟨_, rfl⟩
    have hlen : ws.length = sizeN a.toNat b.toNat c.toNat d.toNat e.toNat := by rw [hws]; exact fl_length
    have q1 : (!((ws.length : Nat) : Int) == szZ a b c d e f g l) = false := by rw [hlen, hz]; simp
    have q2 : fits ws.length 8 = true := fits_of (by omega)
    have q3 : decide (ws.length < 1000000000) = true := by simp; omega
    simp only [hc', Bool.not_true, br_f, ← hws]
    rw [q1, br_f, q2, br_t, kseq_norm, sxI_seq, h9C, kseq_norm, sxI_seq, hc, h8C]
    refine Tru.br (fun h => by cases h) fun _ => Tru.br (fun h => by cases h) fun _ => ?_
    rw [kseq_norm, sxI_seq, h7C]
    refine Tru.br (fun _ => ?_) fun h => by cases h
    have q4 : decide (ws = fl (sizeN (Int.toNat a) (Int.toNat b) (Int.toNat c) (Int.toNat d) (Int.toNat e)) (3 + Int.toNat a + Int.toNat b) (Int.toNat e) (Int.toNat e)) = true := by rw [← hws]; simp
    rw [q2, br_t, hc', Bool.not_true, br_f, q3, br_t, q4, Bool.not_true, br_f, ← hws, kseq_norm, h5C]
    exact ⟨_, rfl⟩
  · have hc' : (chk a b c d e f g l == 0) = false := by simp [hc]
    simp only [hc', Bool.not_false, br_t]
    rw [kseq_norm, sxI_seq, h9A, kseq_norm, sxI_seq, h8A]
    refine Tru.br (fun h => by simp at h) fun _ => Tru.br (fun h => by simp [hc] at h) fun _ => ?_
    rw [kseq_norm, sxI_seq, h7A, hc', br_f, kseq_norm, h5A]
    exact ⟨_, rfl⟩
end

theorem walk4 {w : World} {v0 v1 v2 : Value} {a b c d e f g l : Int} {at' x : Int}
    (h0 : SRep (cx0 w) w (cfgS a b c d e f g l) v0) (h1 : SRep (cx0 w) w (I at') v1) (h2 : SRep (cx0 w) w (U x) v2) :
    Calls Try.prog 4 #[v0, v1, v2] w fun e w' => e = .returned (.bool true) ∧ RowKit.Grown w w' ∧ ∀ b, b < w.heap.size → w'.heap[b]? = w.heap[b]? := by
  obtain ⟨H, hrun⟩ := main4 a b c d e f g l at' x
  exact law_calls (e4.ok _) mix Try.func4 c4 hrun (vals := [v0, v1, v2]) (by simp only [SRepL, and_true]; exact ⟨h0, h1, h2⟩)
end Go.Sx.Pr
